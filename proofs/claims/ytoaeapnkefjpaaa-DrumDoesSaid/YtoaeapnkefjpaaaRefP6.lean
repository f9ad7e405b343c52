/-
  THE DOCUMENT'S DRUM, sixth file: Write with the power on. Conditions: those that each contract names.
-/
import Derived.Test.YtoaeapnkefjpaaaRefP5
import Derived.Great.FillDense
import Derived.Great.BuildSlice
namespace Go.Proofs.Ytoaeapnkefjpaaa
open Go.RowKit
set_option linter.unusedVariables false
set_option linter.unusedSimpArgs false

/-- Of the blocks below N at most this one has changed. -/
def KeepB (o : Option Nat) (N : Nat) (w w' : World) : Prop := Mod (fun b => o = some b ∨ N ≤ b) w w'
theorem KeepB.refl {o : Option Nat} {N : Nat} (w : World) : KeepB o N w w := Mod.refl _ _
theorem KeepB.trans {o : Option Nat} {N : Nat} (w w' w'' : World) (h : KeepB o N w w') (k : KeepB o N w' w'') : KeepB o N w w'' := Mod.trans h k
theorem KeepB.cell {o : Option Nat} {N : Nat} {w w' : World} (h : KeepB o N w w') {p : Addr} {v : Value} (hv : w.cell? p = some v) (hp : o ≠ some p.block) (hn : p.block < N) : w'.cell? p = some v := Mod.cell h hv (fun e => by rcases e with e | e; exact hp e; omega)
theorem KeepB.grown {o r : Option Nat} {N : Nat} {w w' : World} (h : w.grownBy w' r) (hr : ∀ k, r = some k → o = some k ∨ N ≤ k) : KeepB o N w w' := ⟨h.os, h.tape, h.output, h.size, fun k hk hn => h.block k hk (fun e => hn (hr k e.symm))⟩
theorem KeepB.alloc {o : Option Nat} {N : Nat} {w : World} (ob : Obj) : KeepB o N w (w.alloc ob) := Mod.alloc ob
theorem info3 : (Try.prog.info? 3).map (fun i => (i.zero, i.size, i.bytes)) = some (some (.int .i64 0), 1, 8) := by kernel_rfl
theorem info23 : (Try.prog.info? 23).map (fun i => (i.zero, i.size, i.bytes)) = some (some (.slice none 0 0), 1, 24) := by kernel_rfl
set_option maxRecDepth 100000 in
set_option maxHeartbeats 3200000 in
theorem rwrite_on (w : World) (p : Nat) (own : Nat → Prop) (D : DS) (a : Nat) (v : Value) (l : List UInt8) (h : RefAt w p own D) (hv : Sees w v l) (ha : a < D.safe.length) (hl : l.length = 256) (ho : D.off = false) (hd : ∀ k, v.ownBlock = some k → ¬ own k) (hN : D.waits.length ≤ 1000000000) :
    Calls Try.prog 51 #[.pointer (some ⟨p, 0, none⟩), I a, v] w fun e w' => e = .returned (I (if (DS.op { D with waits := D.waits ++ [(a, l)] }).off then 20 else 0)) ∧ Reffed' own p w (DS.op { D with waits := D.waits ++ [(a, l)] }) w' := by
  obtain ⟨sv, wv, xv, ss, xs, pb, h⟩ := h
  have c0 := h.c0
  have c1 := h.c1
  have c2 := h.c2
  have c3 : w.cell? ⟨p, 3, none⟩ = some (.bool true) := by have := h.c3; rw [ho] at this; exact this
  have frp := h.fr
  obtain ⟨g, off, cap, rfl⟩ := hv.form (by omega)
  obtain ⟨as0, cs, rfl⟩ := own_form h.hs
  have HV := hid hv
  have HH := hid h
  have Hl := hid hl
  have HD := hid hd
  have HO := hid ho
  have hn := h.ok.n2
  rw [hl]
  clear h hv hl hd ho
  go_enter Try.func51, Try.ntmps51
  go_wp2_with (at_builtin; refine wpList_app rfl (.tmp 32) (.tmp 34) 57 rfl 0 3 (.int .i64 0) 1 8 Try.underlying57 info3 rfl (by decide) D.waits.length (D.waits.map fun x => I x.1) 1 [I a] ?own ?src ?h63 ?hb (by simp) ?_)
  case own => exact HH.out.hw.alloc _
  case src => exact Src.new w 1 3 [I a] rfl (fun u hu => by obtain rfl := List.mem_singleton.1 hu; rfl)
  case h63 => unfold maxLen; omega
  case hb => omega
  intro wv' w2 hown hgrow hat
  have h := HH.out
  have hX : Mod (fun b => wv.ownBlock = some b) w w2 := (Mod.alloc _).trans ⟨hgrow.os, hgrow.tape, hgrow.output, hgrow.size, fun k hk hn => hgrow.block k hk (fun e => hn e.symm)⟩
  have hp2 : w2.heap[p]? = w.heap[p]? := hX.block p (h.lt p h.op) (fun e => (h.w1 p e).2.1 rfl)
  have hz2 : w.heap.size < w2.heap.size := by have := hgrow.size; simp at this; omega
  have hcp : w2.cell? ⟨p, 1, none⟩ = some wv := (World.cell?_of_block (w := w) (a := ⟨p, 1, none⟩) hp2).trans c1
  have hfp := frozen_row (hp2.trans h.hp) 1
  obtain ⟨aw, cw, rfl⟩ := own_form hown
  have HP2 := hid hp2
  have HX := hid hX
  have HOWN := hid hown
  have HAT := hid hat
  clear hown hgrow hat hp2 hX c0 c1 c3 h
  go_wp2
  have h := HH.out
  have hwp : (Value.slice aw (D.waits.length + 1) cw).ownBlock ≠ some p := fun e => by
    rcases HAT.out with hh | hh
    · exact (h.w1 p (hh.symm.trans e)).2.1 rfl
    · rw [hh] at e
      have := h.lt p h.op
      have := Option.some.inj e
      omega
  obtain ⟨w3, hw3⟩ : ∃ w3, w3 = w2.setCell ⟨p, 1, none⟩ (.slice aw (D.waits.length + 1) cw) := ⟨_, rfl⟩
  have hp3 : w3.heap[p]? = some (.cells #[.slice as0 D.safe.length cs, .slice aw (D.waits.length + 1) cw, xv, .bool (!D.off), I D.ops, I D.armed, I D.keep] 59 (0, 0)) := by
    rw [hw3, heap_setCell_same w2 p 1 _ _ _ (HP2.out.trans h.hp)]
    rfl
  have hx3 : ∀ i, i < w.heap.size → wv.ownBlock ≠ some i → i ≠ p → w3.heap[i]? = w.heap[i]? := fun i hi h1 h2 => by
    rw [hw3, heap_setCell_other w2 ⟨p, 1, none⟩ i _ h2]
    exact HX.out.block i hi h1
  have ho3 : w3.ownsRow 0 3 1 (.slice aw (D.waits.length + 1) cw) (D.waits.length + 1) ((D.waits.map fun x => I x.1) ++ [I a]) := by
    rw [hw3]; exact own_setCell_other HOWN.out hwp _
  have hz3 : w.heap.size < w3.heap.size := by rw [hw3]; simpa using hz2
  have hm3 : Mod own w w3 := by
    rw [hw3]
    exact (HX.out.mono (fun i _ e => (h.w1 i e).1)).trans (Mod.set h.op)
  rw [← hw3]
  have HP3 := hid hp3
  have HX3 := hid hx3
  have HO3 := hid ho3
  have HM3 := hid hm3
  clear hw3 hp3 hx3 ho3 hm3 hcp hfp HP2 HX HOWN h c2 frp hwp
  have h := HH.out
  have hxp : xv.ownBlock ≠ some p := fun e => (h.x1 p e).2.1 rfl
  have c2 : w3.cell? ⟨p, 2, none⟩ = some xv := by rw [cell_of_row w3 p _ _ _ _ HP3.out]; rfl
  have hplt : p < w3.heap.size := (Array.getElem?_eq_some_iff.1 HP3.out).1
  have k2 : ∀ w', KeepB xv.ownBlock w3.heap.size w3.drew w' → w'.cell? ⟨p, 2, none⟩ = some xv := fun w' hh => hh.cell c2 hxp hplt
  have hgw : g < w.heap.size := by
    obtain ⟨ao, cc, hv, -, -, h3⟩ := HV.out
    obtain ⟨g', off', he, hc⟩ := h3 (by rw [Hl.out]; omega)
    simp only [Value.slice.injEq] at hv
    obtain ⟨rfl, -, -⟩ := hv
    simp only [Option.some.injEq, Addr.mk.injEq, and_true] at he
    obtain ⟨rfl, -⟩ := he
    exact block_lt_of_cell (hc 0 (l[0]'(by rw [Hl.out]; omega)) (List.getElem?_eq_getElem _))
  have HV3 := hid (HV.out.keep (w' := w3) (fun i hi => by
    cases hi
    exact HX3.out g hgw (fun e => HD.out g rfl (h.w1 g e).1) (fun e => HD.out g rfl (e ▸ h.op))))
  clear h hplt c2 hgw
  refine wp_region_order (KeepB xv.ownBlock w3.heap.size) [12] [(0,0),(1,0),(2,0),(3,0),(4,0),(6,0),(5,1),(7,1),(8,1),(9,1),(10,0),(11,0),(12,2)] _ (by kernel_rfl) rfl KeepB.refl KeepB.trans (by kernel_rfl) (by simp only [pick, List.getElem?_toArray, List.getElem?_cons_zero, List.getElem?_cons_succ]; rfl) (fun c a d v w h => by cases d <;> exact h) ?_
  refine wpK_q (v := ?_) (a' := ?_) (by rfl) (fun w' hR => ?_) ?_ ?_
  rotate_left 2
  · go_simp; with_reducible rfl
  · simp only [Act.put, List.setIfInBounds_toArray, List.set_cons_zero, List.set_cons_succ]; rfl
  refine wpK_q (v := ?_) (a' := ?_) (by rfl) (fun w' hR => ?_) ?_ ?_
  rotate_left 2
  · go_simp; with_reducible rfl
  · simp only [Act.put, List.setIfInBounds_toArray, List.set_cons_zero, List.set_cons_succ]; rfl
  refine wpK_q (v := ?_) (a' := ?_) (by rfl) (fun w' hR => ?_) ?_ ?_
  rotate_left 2
  · go_simp; with_reducible rfl
  · simp only [Act.put, List.setIfInBounds_toArray, List.set_cons_zero, List.set_cons_succ]; rfl
  refine wpK_q (v := ?_) (a' := ?_) (by rfl) (fun w' hR => ?_) ?_ ?_
  rotate_left 2
  · go_simp; with_reducible rfl
  · simp only [Act.put, List.setIfInBounds_toArray, List.set_cons_zero, List.set_cons_succ]; rfl
  refine wpK_q (v := ?_) (a' := ?_) (by rfl) (fun w' hR => ?_) ?_ ?_
  rotate_left 2
  · go_simp; with_reducible rfl
  · simp only [Act.put, List.setIfInBounds_toArray, List.set_cons_zero, List.set_cons_succ]; rfl
  refine wpK_q (v := ?_) (a' := ?_) (by rfl) (fun w' hR => ?_) ?_ ?_
  rotate_left 2
  · go_simp; with_reducible rfl
  · simp only [Act.put, List.setIfInBounds_toArray, List.set_cons_zero, List.set_cons_succ]; rfl
  refine wpK_v (v := .slice (some ⟨w3.heap.size, 0, none⟩) 0 0) (w' := w3.drew.alloc (.cells #[] 5)) (by rfl) (by go_simp) (fun _ => KeepB.alloc _) (by simp only [Act.put, List.setIfInBounds_toArray, List.set_cons_zero, List.set_cons_succ]; rfl) ?_
  have hown0 : (w3.drew.alloc (.cells #[] 5)).ownsRow w3.heap.size 5 1 (.slice (some ⟨w3.heap.size, 0, none⟩) 0 0) 0 [] := World.ownsRow_made w3.drew #[] 0 (Nat.le_refl _) (Nat.zero_le _) rfl
  have hsrc : Src (w3.drew.alloc (.cells #[] 5)) 1 (.slice (some ⟨g, off, none⟩) 256 cap) l.length (l.map B) := by
    have := (HV3.out.below (Ext.trans _ _ _ (Ext.drew w3) ((Below.refl _ _).alloc (Nat.le_refl _) (.cells #[] 5)))).src
    rw [Hl.out] at this ⊢
    exact this
  obtain ⟨v6, w5, hr5, ho5, hg5, hb5⟩ := run_app (P := Try.prog) _ w3.heap.size 23 23 5 _ 1 1 Try.underlying23 info5 rfl (by decide) _ 0 [] hown0 _ l.length (l.map B) hsrc (by rw [Hl.out]; unfold maxLen; omega) (by rw [Hl.out]; omega) (by simp)
  refine wpK_v (by rfl) (exec_append rfl _ (by simp only [List.map_toArray, List.map_cons, List.map_nil]; rfl) hr5) (fun _ => KeepB.grown hg5 (fun k hk => by cases hk; exact .inr (Nat.le_refl _))) (by simp only [Act.put, List.setIfInBounds_toArray, List.set_cons_zero, List.set_cons_succ]; rfl) ?_
  obtain ⟨g6, c6, rfl, h61, h62, h63, h64⟩ := own_slice ho5 (by rw [Hl.out]; omega)
  refine wpK_v (v := .slice (some ⟨w5.heap.size, 0, none⟩) 1 1) (w' := w5.alloc (.cells #[.slice (some ⟨g6, 0, none⟩) (0 + l.length) c6] 23)) (by rfl) (by go_simp) (fun _ => KeepB.alloc _) (by simp only [Act.put, List.setIfInBounds_toArray, List.set_cons_zero, List.set_cons_succ]; rfl) ?_
  have h := HH.out
  obtain ⟨w6, hw6⟩ : ∃ w6, w6 = w5.alloc (.cells #[.slice (some ⟨g6, 0, none⟩) (0 + l.length) c6] 23) := ⟨_, rfl⟩
  have hB5 : Below w3.heap.size w3 w5 := (Ext.trans _ _ _ (Ext.drew w3) ((Below.refl _ _).alloc (Nat.le_refl _) (.cells #[] 5))).below.grown hg5 (by simp) (fun k hk => by cases hk; exact Nat.le_refl _)
  have hB6 : Below w3.heap.size w3 w6 := by rw [hw6]; exact hB5.alloc (by have := hB5.size; omega) _
  have hx3 : w3.ownsRow 0 23 1 xv D.waits.length xs := own_mod h.hx (fun i hi => HX3.out i (h.lt i (h.x1 i hi).1) (fun e => (h.w1 i e).2.2.2 hi) (h.x1 i hi).2.1)
  have hx6 : w6.ownsRow 0 23 1 xv D.waits.length xs := own_mod hx3 (fun i hi => hB6.block i (own_lt hx3 i hi).2)
  have hsrc2 : Src w6 1 (.slice (some ⟨w5.heap.size, 0, none⟩) 1 1) 1 [.slice (some ⟨g6, 0, none⟩) (0 + l.length) c6] := by
    rw [hw6]
    exact Src.new w5 1 23 [_] rfl (fun u hu => by obtain rfl := List.mem_singleton.1 hu; rfl)
  rw [← hw6]
  obtain ⟨xv', w7, hr7, ho7, hg7, hb7⟩ := run_app (P := Try.prog) w6 0 45 45 23 _ 1 24 Try.underlying45 info23 rfl (by decide) xv D.waits.length xs hx6 _ 1 _ hsrc2 (by unfold maxLen; omega) (by omega) (Nat.zero_le _)
  refine wpK_v (by rfl) (exec_append rfl _ (by simp only [List.map_toArray, List.map_cons, List.map_nil]; rfl) hr7) (fun _ => KeepB.grown hg7 (fun k hk => .inl hk)) (by simp only [Act.put, List.setIfInBounds_toArray, List.set_cons_zero, List.set_cons_succ]; rfl) ?_
  refine wpK_q (v := ?_) (a' := ?_) (by rfl) (fun w' hR => ?_) ?_ ?_
  rotate_left 2
  · go_simp; with_reducible rfl
  · simp only [Act.put, List.setIfInBounds_toArray, List.set_cons_zero, List.set_cons_succ]; rfl
  refine wpK_q (v := ?_) (a' := ?_) (by rfl) (fun w' hR => ?_) ?_ ?_
  rotate_left 2
  · go_simp; with_reducible rfl
  · simp only [Act.put, List.setIfInBounds_toArray, List.set_cons_zero, List.set_cons_succ]; rfl
  have hX7 : ∀ i, i < w3.heap.size → xv.ownBlock ≠ some i → w7.heap[i]? = w3.heap[i]? := fun i hi hne => (hg7.block i (Nat.lt_of_lt_of_le hi hB6.size) (fun e => hne e.symm)).trans (hB6.block i hi)
  have hp7 := (hX7 p (Array.getElem?_eq_some_iff.1 HP3.out).1 hxp).trans HP3.out
  refine wpK_s (by rfl) rfl (exec_store rfl (vx := .pointer (some ⟨p, 2, none⟩)) (vy := xv') rfl rfl (run_store1 (u := xv) (by kernel_rfl) ?_ ?_ (by rw [cell_of_row w7 p _ _ _ _ hp7]; rfl) (frozen_row hp7 2))) (fun h => by cases h) ?_
  · obtain ⟨ao, c, rfl⟩ := own_form ho7; rfl
  · obtain ⟨ao, c, rfl⟩ := own_form ho7; rfl
  refine wpK_done ?_
  have hxv' : ∀ i, xv'.ownBlock = some i → xv.ownBlock = some i ∨ w6.heap.size = i := fun i hi => by
    rcases hb7 with e | e
    · exact .inl (e.symm.trans hi)
    · rw [e] at hi; exact .inr (Option.some.inj hi)
  have hwv' : ∀ i, (Value.slice aw (D.waits.length + 1) cw).ownBlock = some i → (wv.ownBlock = some i ∨ w.heap.size ≤ i) ∧ i < w3.heap.size := fun i hi => by
    refine ⟨?_, (own_lt HO3.out i hi).2⟩
    rcases HAT.out with e | e
    · exact .inl (e.symm.trans hi)
    · rw [e] at hi
      have := Option.some.inj hi
      exact .inr (by omega)
  have hs6 : w5.heap.size < w6.heap.size := by rw [hw6]; simp
  have h3w : ∀ i, own i → i < w3.heap.size := fun i hi => Nat.lt_trans (h.lt i hi) hz3
  have hother : ∀ i, i ≠ p → (w7.setCell ⟨p, 2, none⟩ xv').heap[i]? = w7.heap[i]? := fun i hi => heap_setCell_other w7 ⟨p, 2, none⟩ i _ hi
  have hkeep : ∀ i, own i → i ≠ p → wv.ownBlock ≠ some i → xv.ownBlock ≠ some i → (w7.setCell ⟨p, 2, none⟩ xv').heap[i]? = w.heap[i]? := fun i hi h1 h2 h3 =>
    (hother i h1).trans ((hX7 i (h3w i hi) h3).trans (HX3.out i (h.lt i hi) h2 h1))
  have h6no : ∀ i, own i → i ≠ g6 := fun i hi e => by have := h3w i hi; omega
  have hb6' : xv.ownBlock ≠ some g6 := fun e => h6no g6 (h.x1 g6 e).1 rfl
  have hsee6 : Sees (w7.setCell ⟨p, 2, none⟩ xv') (.slice (some ⟨g6, 0, none⟩) (0 + l.length) c6) l := by
    have e1 : Sees w5 (.slice (some ⟨g6, 0, none⟩) (0 + l.length) c6) l := own_sees (own_len ho5 (Nat.zero_add _) rfl)
    refine e1.keep (fun i hi => ?_)
    cases hi
    have e2 : w6.heap[g6]? = w5.heap[g6]? := by rw [hw6]; exact Below.heap_alloc w5 _ _ h64
    refine (hother g6 (fun e => h6no p h.op e.symm)).trans ((hg7.block g6 (by omega) (fun e => hb6' e.symm)).trans e2)
  have hpages : ∀ i, pb i → (w7.setCell ⟨p, 2, none⟩ xv').heap[i]? = w.heap[i]? := fun i hi => hkeep i (h.pown i hi) (fun e => h.pp (e ▸ hi)) (fun e => (h.w1 i e).2.2.1 hi) (fun e => (h.x1 i e).2.2 hi)
  have hE : RefAt (w7.setCell ⟨p, 2, none⟩ xv') p (fun i => own i ∨ (Value.slice aw (D.waits.length + 1) cw).ownBlock = some i ∨ xv'.ownBlock = some i ∨ i = g6) { D with waits := D.waits ++ [(a, l)] } := by
    refine ⟨.slice as0 D.safe.length cs, .slice aw (D.waits.length + 1) cw, xv', ss, xs ++ [.slice (some ⟨g6, 0, none⟩) (0 + l.length) c6], (fun i => pb i ∨ i = g6), h.ok.push ha Hl.out, .inl h.op, ?_, ?_, ?_, ?_, ?_, ?_, ?_, ?_, ?_, ?_, ?_, ?_⟩
    · rintro (e | e)
      · exact h.pp e
      · exact h6no p h.op e
    · rintro i (e | e)
      · exact .inl (h.pown i e)
      · exact .inr (.inr (.inr e))
    · intro i hi
      obtain ⟨a1, a2, a3, a4, a5⟩ := h.s1 i hi
      refine ⟨.inl a1, a2, fun e => ?_, fun e => ?_, fun e => ?_⟩
      · rcases e with e | e
        · exact a3 e
        · exact h6no i a1 e
      · rcases (hwv' i e).1 with e1 | e1
        · exact a4 e1
        · have := h.lt i a1; omega
      · rcases hxv' i e with e1 | e1
        · exact a5 e1
        · have := h3w i a1; have := hB6.size; omega
    · intro i hi
      obtain ⟨e1, e2⟩ := hwv' i hi
      refine ⟨.inr (.inl hi), fun e => ?_, fun e => ?_, fun e => ?_⟩
      · subst e
        rcases e1 with e1 | e1
        · exact (h.w1 _ e1).2.1 rfl
        · have := h.lt _ h.op; omega
      · rcases e with e | e
        · rcases e1 with e1 | e1
          · exact (h.w1 i e1).2.2.1 e
          · have := h.lt i (h.pown i e); omega
        · omega
      · rcases hxv' i e with e3 | e3
        · rcases e1 with e1 | e1
          · exact (h.w1 i e1).2.2.2 e3
          · have := h.lt i (h.x1 i e3).1; omega
        · have := hB6.size; omega
    · intro i hi
      refine ⟨.inr (.inr (.inl hi)), fun e => ?_, fun e => ?_⟩
      · subst e
        rcases hxv' _ hi with e1 | e1
        · exact (h.x1 _ e1).2.1 rfl
        · have := h3w _ h.op; have := hB6.size; omega
      · rcases hxv' i hi with e1 | e1
        · rcases e with e | e
          · exact (h.x1 i e1).2.2 e
          · exact h6no i (h.x1 i e1).1 e
        · rcases e with e | e
          · have := h3w i (h.pown i e); have := hB6.size; omega
          · omega
    · rintro i (e | e | e | e)
      · have := h3w i e; have := hB6.size; have := hg7.size; simp; omega
      · have := (hwv' i e).2; have := hB6.size; have := hg7.size; simp; omega
      · simpa using (own_lt ho7 i e).2
      · have := hg7.size; simp; omega
    · rw [heap_setCell_same w7 p 2 _ _ xv' hp7]
      rfl
    · exact own_mod h.hs (fun i hi => hkeep i (h.s1 i hi).1 (h.s1 i hi).2.1 (h.s1 i hi).2.2.2.1 (h.s1 i hi).2.2.2.2)
    · refine own_mod (own_len HO3.out (by simp) (by simp)) (fun i hi => ?_)
      obtain ⟨e1, e2⟩ := hwv' i hi
      have hip : i ≠ p := fun e => by
        subst e
        rcases e1 with e1 | e1
        · exact (h.w1 _ e1).2.1 rfl
        · have := h.lt _ h.op; omega
      refine (hother i hip).trans (hX7 i e2 (fun e => ?_))
      rcases e1 with e1 | e1
      · exact (h.w1 i e1).2.2.2 e
      · have := h.lt i (h.x1 i e).1; omega
    · refine own_mod (own_len ho7 (by simp) rfl) (fun i hi => hother i (fun e => ?_))
      subst e
      rcases hxv' _ hi with e1 | e1
      · exact (h.x1 _ e1).2.1 rfl
      · have := h3w _ h.op; have := hB6.size; omega
    · exact (h.ps.keep hpages).more (fun i hi => .inl hi)
    · have := ((h.px.keep hpages).more (pb' := fun i => pb i ∨ i = g6) (fun i hi => .inl hi)).snoc hsee6 (fun i hi => by cases hi; exact .inr rfl)
      simpa using this
  have hM : Mod own w (w7.setCell ⟨p, 2, none⟩ xv') := by
    refine ((HM3.out.trans (Mod.of_below own hB6)).then (own' := fun i => xv.ownBlock = some i) ⟨hg7.os, hg7.tape, hg7.output, hg7.size, fun i hi hn => hg7.block i hi (fun e => hn e.symm)⟩ (fun i _ e => (h.x1 i e).1)).trans (Mod.set h.op)
  have hnew : ∀ i, (own i ∨ (Value.slice aw (D.waits.length + 1) cw).ownBlock = some i ∨ xv'.ownBlock = some i ∨ i = g6) → own i ∨ w.heap.size ≤ i := by
    rintro i (e | e | e | e)
    · exact .inl e
    · rcases (hwv' i e).1 with e1 | e1
      · exact .inl (h.w1 i e1).1
      · exact .inr e1
    · rcases hxv' i e with e1 | e1
      · exact .inl (h.x1 i e1).1
      · have := hB6.size; right; omega
    · right; omega
  obtain ⟨own', hO⟩ : ∃ o : Nat → Prop, o = fun i => own i ∨ (Value.slice aw (D.waits.length + 1) cw).ownBlock = some i ∨ xv'.ownBlock = some i ∨ i = g6 := ⟨_, rfl⟩
  rw [← hO] at hE
  replace hnew : ∀ i, own' i → own i ∨ w.heap.size ≤ i := by rw [hO]; exact hnew
  generalize w7.setCell ⟨p, 2, none⟩ xv' = w8 at *
  have HE := hid hE
  have HM := hid hM
  have HN := hid hnew
  clear hE hM hnew hO hxv' hwv' hs6 h3w hother hkeep h6no hb6' hsee6 hpages hX7 hp7 hr7 ho7 hg7 hb7 hw6 hB5 hB6 hx3 hx6 hsrc2 hown0 hsrc hr5 ho5 hg5 hb5 h k2 hxp
  by_cases hf : (DS.op { D with waits := D.waits ++ [(a, l)] }).off = true
  all_goals
    first | have hf2 := hf | have hf2 : (DS.op { D with waits := D.waits ++ [(a, l)] }).off = false := by simpa using hf
    go_wp2_with (go_at_call 93; refine (roper_any w8 p _ _ HE.out HO.out).mono ?_; rintro e w9 ⟨rfl, own9, hA, hN9, hB⟩; (first | rw [hf] | rw [show (DS.op { D with waits := D.waits ++ [(a, l)] }).off = false by simpa using hf]); have HA := hid hA; have HB := hid hB; have HN9 := hid hN9; clear hA hB hN9)
    go_ret
    refine ⟨?_, own9, HA.out, fun i hi => ?_, HM.out.then HB.out (fun i hi hh => by rcases HN.out i hh with h1 | h1; exact h1; exact absurd hi (Nat.not_lt.2 h1))⟩
    · rfl
    · rcases HN9.out i hi with hh | hh
      · exact HN.out i hh
      · have := HM.out.size; right; omega
end Go.Proofs.Ytoaeapnkefjpaaa
