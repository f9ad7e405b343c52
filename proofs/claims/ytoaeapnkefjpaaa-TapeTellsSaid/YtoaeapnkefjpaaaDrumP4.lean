/-
  THE PROGRAM'S DRUM, fourth file: Write. Conditions: those that each contract names.
-/
import Derived.Test.YtoaeapnkefjpaaaDrumP3
import Derived.Test.YtoaeapnkefjpaaaDrumB
namespace Go.Proofs.Ytoaeapnkefjpaaa
open Go.RowKit
set_option linter.unusedVariables false
set_option linter.unusedSimpArgs false

/-- What a call leaves of a drum that may get new blocks. -/
def Drummed' (own : Nat → Prop) (p : Nat) (w : World) (D : DS) (w' : World) : Prop := ∃ own', DrumAt w' p own' D ∧ (∀ k, own' k → own k ∨ w.heap.size ≤ k) ∧ Mod own w w'
theorem Drummed.more {own : Nat → Prop} {p : Nat} {w w' : World} {D : DS} (h : Drummed own p w D w') : Drummed' own p w D w' := ⟨own, h.1, fun _ hk => .inl hk, h.2⟩

theorem Sees.range {w : World} {g off n cap : Nat} {l : List UInt8} (h : Sees w (.slice (some ⟨g, off, none⟩) n cap) l) (hl : 0 < l.length) : w.rangeAt g off (pageCells l) := by
  obtain ⟨ao, c, hv, h1, h2, h3⟩ := h
  simp only [Value.slice.injEq] at hv
  obtain ⟨rfl, rfl, rfl⟩ := hv
  obtain ⟨g', off', he, hc⟩ := h3 hl
  simp only [Option.some.injEq, Addr.mk.injEq, and_true] at he
  obtain ⟨rfl, rfl⟩ := he
  intro j v hv
  simp only [pageCells, List.getElem?_map] at hv
  cases hl : l[j]? with
  | none => rw [hl] at hv; cases hv
  | some c => rw [hl] at hv; simp only [Option.map_some, Option.some.injEq] at hv; subst hv; exact hc j c hl
theorem Sees.form {w : World} {v : Value} {l : List UInt8} (h : Sees w v l) (hl : 0 < l.length) : ∃ g off cap, v = .slice (some ⟨g, off, none⟩) l.length cap := by
  obtain ⟨ao, c, rfl, h1, h2, h3⟩ := h
  obtain ⟨g, off, rfl, -⟩ := h3 hl
  exact ⟨g, off, c, rfl⟩
theorem Sees.form0 {w : World} {v : Value} {l : List UInt8} (h : Sees w v l) : ∃ ao cap, v = .slice ao l.length cap ∧ l.length ≤ 9223372036854775807 := by
  obtain ⟨ao, c, rfl, h1, h2, h3⟩ := h
  unfold maxLen at h2
  exact ⟨ao, c, rfl, by omega⟩

set_option maxRecDepth 100000 in
set_option maxHeartbeats 800000 in
theorem write_bad (w : World) (p : Nat) (own : Nat → Prop) (D : DS) (a : Int) (v : Value) (l : List UInt8) (h : DrumAt w p own D) (hv : Sees w v l) (ha : -9223372036854775808 ≤ a ∧ a ≤ 9223372036854775807) (hb : a < 0 ∨ (D.safe.length : Int) ≤ a ∨ l.length ≠ 256) :
    Calls Try.prog 50 #[.pointer (some ⟨p, 0, none⟩), I a, v] w fun e w' => e = .returned (I 1) ∧ w = w' := by
  obtain ⟨s, wv, h⟩ := h
  have c0 := h.c0
  obtain ⟨ao, cap, rfl, hl⟩ := hv.form0
  have hn := h.ok.n2
  clear h hv
  by_cases h1 : a < 0
  · clear hb
    go_enter Try.func50, Try.ntmps50
    go_wp2
    go_ret
    exact ⟨rfl, rfl⟩
  by_cases h2 : (D.safe.length : Int) ≤ a
  · clear hb
    go_enter Try.func50, Try.ntmps50
    go_wp2
    go_ret
    exact ⟨rfl, rfl⟩
  have h3 : ¬ (l.length : Int) = 256 := by omega
  clear hb
  go_enter Try.func50, Try.ntmps50
  go_wp2
  go_ret
  exact ⟨rfl, rfl⟩
set_option maxRecDepth 100000 in
set_option maxHeartbeats 800000 in
theorem write_off (w : World) (p : Nat) (own : Nat → Prop) (D : DS) (a : Nat) (v : Value) (l : List UInt8) (h : DrumAt w p own D) (hv : Sees w v l) (ha : a < D.safe.length) (hl : l.length = 256) (ho : D.off = true) :
    Calls Try.prog 50 #[.pointer (some ⟨p, 0, none⟩), I a, v] w fun e w' => e = .returned (I 20) ∧ w = w' := by
  obtain ⟨s, wv, h⟩ := h
  have c0 := h.c0
  have c2 := h.c2
  rw [ho] at c2
  obtain ⟨ao, cap, rfl, -⟩ := hv.form0
  rw [hl]
  have hn := h.ok.n2
  clear h hv hl
  go_enter Try.func50, Try.ntmps50
  go_wp2
  go_ret
  exact ⟨rfl, rfl⟩
set_option maxRecDepth 100000 in
set_option maxHeartbeats 800000 in
theorem write_on (w : World) (p : Nat) (own : Nat → Prop) (D : DS) (a : Nat) (v : Value) (l : List UInt8) (h : DrumAt w p own D) (hv : Sees w v l) (ha : a < D.safe.length) (hl : l.length = 256) (ho : D.off = false) (hd : ∀ k, v.ownBlock = some k → ¬ own k) (hN : D.waits.length ≤ 1000000000) :
    Calls Try.prog 50 #[.pointer (some ⟨p, 0, none⟩), I a, v] w fun e w' => e = .returned (I (if (DS.op { D with waits := D.waits ++ [(a, l)] }).off then 20 else 0)) ∧ Drummed' own p w (DS.op { D with waits := D.waits ++ [(a, l)] }) w' := by
  obtain ⟨s, wv, h⟩ := h
  have c0 := h.c0
  have c2 := h.c2
  rw [ho] at c2
  obtain ⟨g, off, cap, rfl⟩ := hv.form (by omega)
  have hwg : wv.ownBlock ≠ some g := fun e => hd g rfl (h.ow g e).1
  have hwp : wv.ownBlock ≠ some p := fun e => (h.ow p e).2.1 rfl
  have hk1 : ∀ w', Keep wv.ownBlock w.drew w' → w'.cell? ⟨p, 1, none⟩ = some wv := fun w' hh => hh.cell h.c1 hwp
  have hr := hv.range (by omega)
  have hload : ∀ w', Keep wv.ownBlock w.drew w' → (Instr.loadAt 125 (.pointer (some ⟨g, off, none⟩))).run Try.prog w' = .ok (.agg (pageCells l).toArray) w' := fun w' hh =>
    run_loadAt_mid w' g off 125 (pageCells l) _ (fun j u hu => hh.cell (hr j u hu) hwg) Try.underlying125 rfl (by rw [pageCells_len hl]; exact z125)
  have HL := hid hload
  have HV := hid hv
  have HH := hid h
  have Hl := hid hl
  have hn := h.ok.n2
  rw [hl]
  clear h hv hl hload hr hd
  go_enter Try.func50, Try.ntmps50
  go_wp2
  refine wp_region_order (Keep wv.ownBlock) [14] [(0,0),(1,0),(2,0),(3,0),(4,0),(5,0),(6,0),(7,0),(8,0),(9,0),(10,1),(11,1),(12,0),(13,0),(14,2)] _ (by kernel_rfl) rfl Keep.refl Keep.trans (by kernel_rfl) (by simp only [pick, List.getElem?_toArray, List.getElem?_cons_zero, List.getElem?_cons_succ]; rfl) (fun c a d v w h => by cases d <;> exact h) ?_
  refine wpK_q (v := ?_) (a' := ?_) (by rfl) (fun w' hR => ?_) ?_ ?_
  rotate_left 2
  · go_simp; with_reducible rfl
  · simp only [Act.put, List.setIfInBounds_toArray, List.set_cons_zero, List.set_cons_succ]; rfl
  refine wpK_q (v := ?_) (a' := ?_) (by rfl) (fun w' hR => ?_) ?_ ?_
  rotate_left 2
  · go_simp; with_reducible rfl
  · simp only [Act.put, List.setIfInBounds_toArray, List.set_cons_zero, List.set_cons_succ]; rfl
  refine wpK_q (v := ?_) (a' := ?_) (by rfl) (fun w' hR => ?_) ?_ ?_
  rotate_left 2
  · go_simp; with_reducible rfl
  · simp only [Act.put, List.setIfInBounds_toArray, List.set_cons_zero, List.set_cons_succ]; rfl
  refine wpK_q (v := ?_) (a' := ?_) (by rfl) (fun w' hR => ?_) ?_ ?_
  rotate_left 2
  · go_simp; with_reducible rfl
  · simp only [Act.put, List.setIfInBounds_toArray, List.set_cons_zero, List.set_cons_succ]; rfl
  refine wpK_q (v := ?_) (a' := ?_) (by rfl) (fun w' hR => ?_) ?_ ?_
  rotate_left 2
  · go_simp; with_reducible rfl
  · simp only [Act.put, List.setIfInBounds_toArray, List.set_cons_zero, List.set_cons_succ]; rfl
  refine wpK_q (v := ?_) (a' := ?_) (by rfl) (fun w' hR => ?_) ?_ ?_
  rotate_left 2
  · go_simp; with_reducible rfl
  · simp only [Act.put, List.setIfInBounds_toArray, List.set_cons_zero, List.set_cons_succ]; rfl
  refine wpK_q (v := ?_) (a' := ?_) (by rfl) (fun w' hR => ?_) ?_ ?_
  rotate_left 2
  · go_simp; with_reducible rfl
  · simp only [Act.put, List.setIfInBounds_toArray, List.set_cons_zero, List.set_cons_succ]; rfl
  refine wpK_q (v := ?_) (a' := ?_) (by rfl) (fun w' hR => ?_) ?_ ?_
  rotate_left 2
  · have hh := val_of (run_arr g off cap w')
    exact hh
  · simp only [Act.put, List.setIfInBounds_toArray, List.set_cons_zero, List.set_cons_succ]; rfl
  refine wpK_q (v := ?_) (a' := ?_) (by rfl) (fun w' hR => ?_) ?_ ?_
  rotate_left 2
  · have hh := val_of (HL.out w' hR)
    exact hh
  · simp only [Act.put, List.setIfInBounds_toArray, List.set_cons_zero, List.set_cons_succ]; rfl
  refine wpK_q (v := ?_) (a' := ?_) (by rfl) (fun w' hR => ?_) ?_ ?_
  rotate_left 2
  · refine Eq.trans (exec_build rfl #[(0, .int .i64 a), (1, .agg (pageCells l).toArray)] (by simp only [List.map_toArray, List.map_cons, List.map_nil]; rfl) (built_write a l Hl.out w')) ?_
    with_reducible rfl
  · simp only [Act.put, List.setIfInBounds_toArray, List.set_cons_zero, List.set_cons_succ]; rfl
  refine wpK_v (by rfl) (exec_buildSlice rfl #[(0, .agg (I a :: pageCells l).toArray)] (by simp only [List.map_toArray, List.map_cons, List.map_nil]; rfl) (built_one a l Hl.out _)) (fun _ => Keep.alloc _) (by simp only [Act.put, List.setIfInBounds_toArray, List.set_cons_zero, List.set_cons_succ]; rfl) ?_
  have h := HH.out
  have hown := (own_mod (w' := w.drew) h.hw (fun _ _ => rfl)).alloc (.cells (I a :: pageCells l).toArray 127)
  obtain ⟨v', w3, hr3, ho3, hg3, hb3⟩ := run_app (P := Try.prog) _ 0 110 110 127 _ 257 264 Try.underlying110 info127 zsz127 (by decide) wv D.waits.length _ hown _ 1 (I a :: pageCells l) (Src.new w.drew 257 127 _ (by simp [pageCells_len Hl.out]) (fun u hu => by rcases List.mem_cons.1 hu with rfl | hu; exact rfl; exact pageCells_one u hu)) (by unfold maxLen; omega) (by omega) (Nat.zero_le _)
  refine wpK_v (by rfl) (exec_append rfl _ (by simp only [List.map_toArray, List.map_cons, List.map_nil]; rfl) hr3) (fun _ => Keep.grown hg3) (by simp only [Act.put, List.setIfInBounds_toArray, List.set_cons_zero, List.set_cons_succ]; rfl) ?_
  have hX : Keep wv.ownBlock w w3 := Keep.trans _ _ _ (Keep.trans _ _ _ (show Keep wv.ownBlock w w.drew from Mod.drew w) (Keep.alloc _)) (Keep.grown hg3)
  have hp3 : w3.heap[p]? = w.heap[p]? := hX.block p (h.lt p h.op) (fun e => (h.ow p e).2.1 rfl)
  have hs3 : w3.heap[s]? = w.heap[s]? := hX.block s (h.lt s h.os) (fun e => (h.ow s e).2.2 rfl)
  refine wpK_q (v := ?_) (a' := ?_) (by rfl) (fun w' hR => ?_) ?_ ?_
  rotate_left 2
  · go_simp; with_reducible rfl
  · simp only [Act.put, List.setIfInBounds_toArray, List.set_cons_zero, List.set_cons_succ]; rfl
  refine wpK_q (v := ?_) (a' := ?_) (by rfl) (fun w' hR => ?_) ?_ ?_
  rotate_left 2
  · go_simp; with_reducible rfl
  · simp only [Act.put, List.setIfInBounds_toArray, List.set_cons_zero, List.set_cons_succ]; rfl
  refine wpK_s (by rfl) rfl (exec_store rfl (vx := .pointer (some ⟨p, 1, none⟩)) (vy := v') rfl rfl (run_store1 (by kernel_rfl) ?_ ?_ (hX.cell h.c1 hwp) (frozen_row (hp3.trans h.hp) 1))) (fun h => by cases h) ?_
  · obtain ⟨ao, c, rfl⟩ := own_form ho3; rfl
  · obtain ⟨ao, c, rfl⟩ := own_form ho3; rfl
  refine wpK_done ?_
  have hE : DrumAt (w3.setCell ⟨p, 1, none⟩ v') p (fun k => own k ∨ v'.ownBlock = some k) { D with waits := D.waits ++ [(a, l)] } := by
    have hbb : ∀ k, v'.ownBlock = some k → k ≠ p ∧ k ≠ s := fun k hk => by
      rcases hb3 with e | e
      · exact (h.ow k (e.symm.trans hk)).2
      · have : k = (w.drew.alloc (.cells (I a :: pageCells l).toArray 127)).heap.size := by rw [e] at hk; exact (Option.some.inj hk).symm
        have e2 : (w.drew.alloc (.cells (I a :: pageCells l).toArray 127)).heap.size = w.heap.size + 1 := by simp
        have := h.lt p h.op
        have := h.lt s h.os
        omega
    refine ⟨s, v', h.ok.push ha Hl.out, .inl h.op, .inl h.os, fun k hk => ⟨.inr hk, hbb k hk⟩, h.ps, fun k hk => ?_, ?_, ?_, ?_⟩
    · rcases hk with hk | hk
      · simpa using Nat.lt_of_lt_of_le (h.lt k hk) hX.size
      · simpa using (own_lt ho3 k hk).2
    · rw [heap_setCell_same w3 p 1 _ _ v' (hp3.trans h.hp)]
      rfl
    · rw [heap_setCell_other w3 ⟨p, 1, none⟩ s v' (Ne.symm h.ps)]
      exact hs3.trans h.hs
    · refine own_len (own_setCell_other ho3 (fun e => (hbb _ e).1 rfl) v') (by simp) (by simp [waitCells, pageCells])
  have hM : Mod own w (w3.setCell ⟨p, 1, none⟩ v') := (Mod.mono hX (fun k _ hk => (h.ow k hk).1)).trans (Mod.set h.op)
  have hnew : ∀ k, (own k ∨ v'.ownBlock = some k) → own k ∨ w.heap.size ≤ k := fun k hk => by
    rcases hk with hk | hk
    · exact .inl hk
    · rcases hb3 with e | e
      · exact .inl (h.ow k (e.symm.trans hk)).1
      · right
        rw [e] at hk
        have e2 : (w.drew.alloc (.cells (I a :: pageCells l).toArray 127)).heap.size = w.heap.size + 1 := by simp
        have := Option.some.inj hk
        omega
  obtain ⟨own', hO⟩ : ∃ o : Nat → Prop, o = fun k => own k ∨ v'.ownBlock = some k := ⟨_, rfl⟩
  rw [← hO] at hE
  replace hnew : ∀ k, own' k → own k ∨ w.heap.size ≤ k := by rw [hO]; exact hnew
  clear hO
  generalize w3.setCell ⟨p, 1, none⟩ v' = w4 at *
  have HE := hid hE
  have HM := hid hM
  have HN := hid hnew
  clear hE hM hnew hX hp3 hs3 hr3 ho3 hg3 hb3 hown h hk1 c0 c2
  have HOFF := hid ho
  clear ho
  by_cases hf : (DS.op { D with waits := D.waits ++ [(a, l)] }).off = true
  · go_wp2_with (go_at_call 92; refine (op_any w4 p _ _ HE.out).mono ?_; rintro e w5 ⟨rfl, hA, hB⟩; rw [hf]; have HA := hid hA; have HB := hid hB; clear hA hB)
    go_ret
    refine ⟨?_, _, HA.out, HN.out, HM.out.then HB.out (fun i hi hh => by rcases HN.out i hh with h1 | h1; exact h1; omega)⟩
    rfl
  · have hf' : (DS.op { D with waits := D.waits ++ [(a, l)] }).off = false := by simpa using hf
    go_wp2_with (go_at_call 92; refine (op_any w4 p _ _ HE.out).mono ?_; rintro e w5 ⟨rfl, hA, hB⟩; rw [hf']; have HA := hid hA; have HB := hid hB; clear hA hB)
    go_ret
    refine ⟨?_, _, HA.out, HN.out, HM.out.then HB.out (fun i hi hh => by rcases HN.out i hh with h1 | h1; exact h1; omega)⟩
    rfl
end Go.Proofs.Ytoaeapnkefjpaaa
