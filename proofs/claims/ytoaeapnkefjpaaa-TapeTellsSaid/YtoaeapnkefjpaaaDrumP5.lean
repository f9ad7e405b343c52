/-
  THE PROGRAM'S DRUM, fifth file: Flush. Conditions: those that each contract names.
-/
import Derived.Test.YtoaeapnkefjpaaaDrumP4
namespace Go.Proofs.Ytoaeapnkefjpaaa
open Go.RowKit
set_option linter.unusedVariables false
set_option linter.unusedSimpArgs false

theorem write_any (w : World) (p : Nat) (own : Nat → Prop) (D : DS) (a : Int) (v : Value) (l : List UInt8) (h : DrumAt w p own D) (hv : Sees w v l) (ha : -9223372036854775808 ≤ a ∧ a ≤ 9223372036854775807) (hd : ∀ k, v.ownBlock = some k → ¬ own k) (hN : D.waits.length ≤ 1000000000) :
    Calls Try.prog 50 #[.pointer (some ⟨p, 0, none⟩), I a, v] w fun e w' => e = .returned (I (D.write a l).1) ∧ Drummed' own p w (D.write a l).2 w' := by
  have same : Drummed' own p w D w := ⟨own, h, fun _ hk => .inl hk, Mod.refl _ _⟩
  by_cases hb : a < 0 ∨ (D.safe.length : Int) ≤ a ∨ l.length ≠ 256
  · have e : D.bad a l.length = true := by
      unfold DS.bad
      rcases hb with hb | hb | hb <;> simp [hb]
    have e2 : D.write a l = (1, D) := by unfold DS.write; rw [if_pos e]
    rw [e2]
    exact (write_bad w p own D a v l h hv ha hb).mono fun e w' ⟨h1, h2⟩ => ⟨h1, h2 ▸ same⟩
  · have e : ¬ D.bad a l.length = true := by
      unfold DS.bad
      simp only [Bool.or_eq_true, decide_eq_true_eq]
      intro hh; apply hb; rcases hh with (hh | hh) | hh
      · exact .inl hh
      · exact .inr (.inl hh)
      · exact .inr (.inr hh)
    obtain ⟨n, rfl⟩ : ∃ n : Nat, a = n := ⟨a.toNat, by omega⟩
    have hn : n < D.safe.length := by omega
    have hl : l.length = 256 := by omega
    by_cases ho : D.off = true
    · have e2 : D.write n l = (20, D) := by unfold DS.write; rw [if_neg e, if_pos ho]
      rw [e2]
      exact (write_off w p own D n v l h hv hn hl ho).mono fun e w' ⟨h1, h2⟩ => ⟨h1, h2 ▸ same⟩
    · have e2 : D.write n l = (if (DS.op { D with waits := D.waits ++ [(n, l)] }).off then 20 else 0, DS.op { D with waits := D.waits ++ [(n, l)] }) := by
        unfold DS.write
        rw [if_neg e, if_neg ho]
        simp only [Int.toNat_natCast]
        split <;> rfl
      rw [e2]
      exact write_on w p own D n v l h hv hn hl (by simpa using ho) hd hN

set_option maxRecDepth 100000 in
set_option maxHeartbeats 800000 in
theorem flush_off (w : World) (p : Nat) (own : Nat → Prop) (D : DS) (h : DrumAt w p own D) (ho : D.off = true) :
    Calls Try.prog 52 #[.pointer (some ⟨p, 0, none⟩)] w fun e w' => e = .returned (I 20) ∧ w = w' := by
  obtain ⟨s, wv, h⟩ := h
  have c2 := h.c2
  rw [ho] at c2
  clear h
  go_enter Try.func52, Try.ntmps52
  go_wp2
  go_ret
  exact ⟨rfl, rfl⟩
set_option maxRecDepth 100000 in
set_option maxHeartbeats 800000 in
theorem flush_down (w : World) (p : Nat) (own : Nat → Prop) (D : DS) (h : DrumAt w p own D) (ho : D.off = false) (hE : D.op.off = true) :
    Calls Try.prog 52 #[.pointer (some ⟨p, 0, none⟩)] w fun e w' => e = .returned (I 20) ∧ Drummed own p w D.op w' := by
  have H := hid h
  obtain ⟨s, wv, h⟩ := h
  have c2 := h.c2
  rw [ho] at c2
  have HO := hid ho
  clear h ho
  go_enter Try.func52, Try.ntmps52
  go_wp2_with (go_at_call 92; refine (op_any w p _ _ H.out).mono ?_; rintro e w5 ⟨rfl, hA, hB⟩; rw [hE]; have HA := hid hA; have HB := hid hB; clear hA hB)
  go_ret
  exact ⟨rfl, HA.out, HB.out⟩
set_option maxRecDepth 100000 in
set_option maxHeartbeats 800000 in
theorem flush_on (w : World) (p : Nat) (own : Nat → Prop) (D : DS) (h : DrumAt w p own D) (ho : D.off = false) (hE : D.op.off = false) :
    Calls Try.prog 52 #[.pointer (some ⟨p, 0, none⟩)] w fun e w' => e = .returned (I 0) ∧ Drummed own p w { D.op with safe := DS.flush D.op.safe D.op.waits, waits := [] } w' := by
  have H := hid h
  obtain ⟨s, wv, h⟩ := h
  have c2 := h.c2
  rw [ho] at c2
  have HO := hid ho
  clear h ho
  generalize hDE : D.op = E at *
  go_enter Try.func52, Try.ntmps52
  go_wp2_with (go_at_call 92; refine (op_any w p _ _ H.out).mono ?_; rw [hDE]; rintro e w5 ⟨rfl, ⟨s5, wv5, hA⟩, hB⟩; rw [hE]; have c1 := hA.c1; obtain ⟨ao, cap, rfl⟩ := own_form hA.hw; have HA := hid hA; have HB := hid hB; clear hA hB)
  clear hDE c2
  go_loopw [22] (fun i wr => ∃ (j : Nat), j ≤ E.waits.length ∧ i = I j ∧ Hid (wr.heap[s5]? = some (.cells ((DS.flush E.safe (E.waits.take j)).flatMap pageCells).toArray 125 (0, 0))) ∧ Hid (Mod (fun b => b = s5) w5 wr)) (fun i _ => E.waits.length - (intOf i).toNat)
  case atStart => exact ⟨0, Nat.zero_le _, rfl, hid HA.out.hs, hid (Mod.refl _ _)⟩
  case round =>
    obtain ⟨j, hj, rfl, hS, hM⟩ := hrel
    have h := HA.out
    have nsp : s5 ≠ p := Ne.symm h.ps
    have hP := hM.out.block p (h.lt p h.op) (by simp [h.ps])
    have c1w : wr.cell? ⟨p, 1, none⟩ = some (.slice ao E.waits.length cap) := (World.cell?_of_block (w := w5) (a := ⟨p, 1, none⟩) hP).trans h.c1
    have frw : ∀ i, wr.frozen? ⟨p, i, none⟩ = false := fun i => (World.frozen?_of_block (w := w5) (a := ⟨p, i, none⟩) hP).trans (h.fr i)
    have hW : wr.ownsRow 0 127 257 (.slice ao E.waits.length cap) E.waits.length (E.waits.flatMap waitCells) := own_mod h.hw (fun k hk => hM.out.block k (h.lt k (h.ow k hk).1) (h.ow k hk).2.2)
    have HW := hid hW
    clear hW hP c1
    by_cases hlt : j < E.waits.length
    · obtain ⟨x0, hx0⟩ : ∃ x0, E.waits[j]? = some x0 := ⟨_, List.getElem?_eq_getElem hlt⟩
      obtain ⟨g, cap', hv, hnc, hcm, -, hg⟩ := own_slice HW.out (by omega)
      unfold maxLen at hcm
      simp only [Value.slice.injEq] at hv
      obtain ⟨rfl, -, -⟩ := hv
      have HX0 := hid hx0
      have hrange := hid (wait_cell HW.out (fun y hy => (h.ok.wait y hy).2) hx0)
      have hx2 := (h.ok.wait x0 (List.mem_of_getElem? hx0)).2
      have hst : ∀ w' : World, (storeCells ⟨w'.heap.size, 0, none⟩ (waitCells x0) 0).run Try.prog (w'.alloc (.cells Try.zeroCells127 127)) = .ok () (w'.alloc (.cells (waitCells x0).toArray 127)) := fun w' => by
        have := run_storeCells_new (P := Try.prog) w' 127 Try.zeroCells127 (waitCells x0).toArray (by simp [waitCells_len hx2, z127]) (zsize127.trans (by simp [waitCells_len hx2])) (all_oneCell_toArray waitCells_one)
        simpa using this
      have hwl := waitCells_len hx2
      have hz := hid (show (Try.prog.info? 127).map (·.size) = some (waitCells x0).length by rw [waitCells_len hx2]; exact z127)
      obtain ⟨a0, pg⟩ := x0
      have ha0 := (h.ok.wait _ (List.mem_of_getElem? hx0)).1
      have hn2 := h.ok.n2
      have hps := h.ps
      have hlay : (DS.flush E.safe (E.waits.take j)).length = E.safe.length := DS.flush_len _ _
      have hpg : pg.length = 256 := hx2
      have HX2 := hid hx2
      have HWL := hid hwl
      clear hx0 h hx2
      go_wp2_with (refine wpList_load_mid rfl 127 (.tmp 24) rfl g (j * 257) ?_ (waitCells (a0, pg)) _ hrange.out Try.underlying127 rfl hz.out ?_)
      clear hst hwl
      obtain ⟨w1, hw1⟩ : ∃ w1, w1 = wr.alloc (.cells (waitCells (a0, pg)).toArray 127) := ⟨_, rfl⟩
      rw [← hw1]
      have HW1 := hid hw1
      have hb1 : w1.heap[wr.heap.size]? = some (.cells (waitCells (a0, pg)).toArray 127 (0, 0)) := by rw [hw1]; exact heap_alloc_new _ _
      have hbel : Below wr.heap.size wr w1 := by rw [hw1]; exact (Below.refl _ _).alloc (Nat.le_refl _) _
      have hp0 : w1.cell? ⟨p, 0, none⟩ = some (.slice (some ⟨s5, 0, none⟩) E.safe.length E.safe.length) := by
        have e := hM.out.cell HA.out.c0 (by simp [hps])
        exact (hbel.cell (block_lt_of_cell e)).trans e
      have kp : ∀ w', Ext w1.drew w' → w'.cell? ⟨p, 0, none⟩ = some (.slice (some ⟨s5, 0, none⟩) E.safe.length E.safe.length) := fun w' h => h.cell hp0
      have ka : ∀ w', Ext w1.drew w' → w'.cell? ⟨wr.heap.size, 0, none⟩ = some (.int .i64 a0) := fun w' h => h.cell (by rw [World.cell?_drew, cell_of_row w1 _ _ _ _ _ hb1]; rfl)
      have hdata : ∀ w', Ext w1.drew w' → (Instr.loadAt 125 (.pointer (some ⟨wr.heap.size, 1, none⟩))).run Try.prog w' = .ok (.agg (pageCells pg).toArray) w' := fun w' h => run_load_data ((h.below.block wr.heap.size (Array.getElem?_eq_some_iff.1 hb1).1).trans hb1) hpg
      have HD := hid hdata
      have HBEL := hid hbel
      clear hb1 hbel hw1 hp0 c1w frw hz hrange hdata
      refine wp_region_order Ext [9] [(0,0),(1,0),(2,0),(3,0),(4,0),(5,0),(6,0),(7,0),(8,0),(9,2)] _ (by kernel_rfl) rfl Ext.refl Ext.trans (by kernel_rfl) (by simp only [pick, List.getElem?_toArray, List.getElem?_cons_zero, List.getElem?_cons_succ]; rfl) (fun c a d v w h => by cases d <;> exact h) ?_
      refine wpK_q (v := ?_) (a' := ?_) (by rfl) (fun w' hR => ?_) ?_ ?_
      rotate_left 2
      · go_simp; with_reducible rfl
      · simp only [Act.put, List.setIfInBounds_toArray, List.set_cons_zero, List.set_cons_succ]; rfl
      refine wpK_q (v := ?_) (a' := ?_) (by rfl) (fun w' hR => ?_) ?_ ?_
      rotate_left 2
      · go_simp; with_reducible rfl
      · simp only [Act.put, List.setIfInBounds_toArray, List.set_cons_zero, List.set_cons_succ]; rfl
      refine wpK_q (v := ?_) (a' := ?_) (by rfl) (fun w' hR => ?_) ?_ ?_
      rotate_left 2
      · go_simp; with_reducible rfl
      · simp only [Act.put, List.setIfInBounds_toArray, List.set_cons_zero, List.set_cons_succ]; rfl
      refine wpK_q (v := ?_) (a' := ?_) (by rfl) (fun w' hR => ?_) ?_ ?_
      rotate_left 2
      · go_simp; with_reducible rfl
      · simp only [Act.put, List.setIfInBounds_toArray, List.set_cons_zero, List.set_cons_succ]; rfl
      refine wpK_q (v := ?_) (a' := ?_) (by rfl) (fun w' hR => ?_) ?_ ?_
      rotate_left 2
      · go_simp; with_reducible rfl
      · simp only [Act.put, List.setIfInBounds_toArray, List.set_cons_zero, List.set_cons_succ]; rfl
      refine wpK_q (v := ?_) (a' := ?_) (by rfl) (fun w' hR => ?_) ?_ ?_
      rotate_left 2
      · go_simp; with_reducible rfl
      · simp only [Act.put, List.setIfInBounds_toArray, List.set_cons_zero, List.set_cons_succ]; rfl
      refine wpK_q (v := ?_) (a' := ?_) (by rfl) (fun w' hR => ?_) ?_ ?_
      rotate_left 2
      · go_simp; with_reducible rfl
      · simp only [Act.put, List.setIfInBounds_toArray, List.set_cons_zero, List.set_cons_succ]; rfl
      refine wpK_q (v := ?_) (a' := ?_) (by rfl) (fun w' hR => ?_) ?_ ?_
      rotate_left 2
      · have hh := val_of (HD.out w' hR)
        exact hh
      · simp only [Act.put, List.setIfInBounds_toArray, List.set_cons_zero, List.set_cons_succ]; rfl
      refine wpK_q (v := ?_) (a' := ?_) (by rfl) (fun w' hR => ?_) ?_ ?_
      rotate_left 2
      · go_simp; with_reducible rfl
      · simp only [Act.put, List.setIfInBounds_toArray, List.set_cons_zero, List.set_cons_succ]; rfl
      have hs1 : w1.heap[s5]? = some (.cells ((DS.flush E.safe (E.waits.take j)).flatMap pageCells).toArray 125 (0, 0)) := (HBEL.out.block s5 (Array.getElem?_eq_some_iff.1 hS.out).1).trans hS.out
      have hpages : ∀ q ∈ DS.flush E.safe (E.waits.take j), q.length = 256 := fun q hq => DS.flush_page HA.out.ok.page (fun x hx => HA.out.ok.wait x (List.mem_of_mem_take hx)) q hq
      have hsp := run_store_page (w := w1.drew) hs1 hpages (k := a0) (by omega) hpg
      refine wpK_s (by rfl) rfl (exec_store rfl (vx := .pointer (some ⟨s5, a0 * 256, none⟩)) (vy := .agg (pageCells pg).toArray) rfl rfl hsp) (fun h => by cases h) ?_
      refine wpK_done ?_
      obtain ⟨Y, hY⟩ : ∃ Y, Y = (DS.flush E.safe (E.waits.take j)).set a0 pg := ⟨_, rfl⟩
      rw [← hY]
      have HS3 := hid (setRow_heap w1.drew s5 _ (Y.flatMap pageCells).toArray 125 (0, 0) hs1)
      have HY := hid hY
      clear hY hs1 hpages hsp kp ka
      go_wp2
      go_roundw
      case rel =>
        refine ⟨j + 1, by omega, by go_num, ?_, ?_⟩
        · rw [List.take_add_one, HX0.out, Option.toList_some, DS.flush_snoc, ← HY.out]
          exact HS3
        · exact hid (hM.out.trans ((Mod.of_below _ HBEL.out).trans ((Mod.drew w1).trans (Mod.setRow (own := fun b => b = s5) (w := w1.drew) (g := s5) rfl))))
      case measure => simp [intOf]; omega
    · have HH := hid h
      clear h
      go_wp2
      go_ret
      have h := HH.out
      clear HH
      obtain rfl : j = E.waits.length := by omega
      have hS' := hS.out
      rw [List.take_length] at hS'
      have hM' : Mod own w5 wr := hM.out.mono (fun i _ e => by subst e; exact h.os)
      have hP := hM.out.block p (h.lt p h.op) (by simp [h.ps])
      refine ⟨rfl, ⟨s5, .slice none 0 0, ?_⟩, (HB.out.trans hM').trans (Mod.set h.op)⟩
      refine ⟨⟨by rw [DS.flush_len]; exact h.ok.n1, by rw [DS.flush_len]; exact h.ok.n2, DS.flush_page h.ok.page h.ok.wait, by simp, h.ok.ops, h.ok.armed, h.ok.keep⟩, h.op, h.os, fun k hk => (by cases hk), h.ps, fun k hk => by simpa using Nat.lt_of_lt_of_le (h.lt k hk) hM.out.size, ?_, ?_, World.ownsRow_nil _ _ _ _⟩
      · rw [heap_setCell_same wr p 1 _ _ _ (hP.trans h.hp)]
        simp only [DS.flush_len]
        rfl
      · rw [heap_setCell_other _ _ _ _ (show s5 ≠ p from nsp)]
        exact hS'
theorem flush_any (w : World) (p : Nat) (own : Nat → Prop) (D : DS) (h : DrumAt w p own D) :
    Calls Try.prog 52 #[.pointer (some ⟨p, 0, none⟩)] w fun e w' => e = .returned (I D.Flush.1) ∧ Drummed own p w D.Flush.2 w' := by
  by_cases ho : D.off = true
  · have e : D.Flush = (20, D) := by unfold DS.Flush; rw [if_pos ho]
    rw [e]
    exact (flush_off w p own D h ho).mono fun e w' ⟨h1, h2⟩ => ⟨h1, h2 ▸ ⟨h, Mod.refl _ _⟩⟩
  · have ho' : D.off = false := by simpa using ho
    by_cases hE : D.op.off = true
    · have e : D.Flush = (20, D.op) := by unfold DS.Flush; rw [if_neg ho]; simp only [hE, if_true]
      rw [e]
      exact flush_down w p own D h ho' hE
    · have hE' : D.op.off = false := by simpa using hE
      have e : D.Flush = (0, { D.op with safe := DS.flush D.op.safe D.op.waits, waits := [] }) := by unfold DS.Flush; rw [if_neg ho]; simp only [hE', Bool.false_eq_true, if_false]
      rw [e]
      exact flush_on w p own D h ho' hE'
/-! ### a nil drum -/
theorem write_nil (w : World) (a : Int) (ao : Option Addr) (n cap : Nat) : Calls Try.prog 50 #[.pointer none, I a, .slice ao n cap] w fun e w' => e = .returned (I 2) ∧ w = w' := by
  go_enter Try.func50, Try.ntmps50
  go_wp2
  go_ret
  exact ⟨rfl, rfl⟩
theorem flush_nil (w : World) : Calls Try.prog 52 #[.pointer none] w fun e w' => e = .returned (I 2) ∧ w = w' := by
  go_enter Try.func52, Try.ntmps52
  go_wp2
  go_ret
  exact ⟨rfl, rfl⟩
end Go.Proofs.Ytoaeapnkefjpaaa
