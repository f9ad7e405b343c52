/-
  THE PROGRAM'S DRUM: what each function comes to. Conditions: those that each contract names.
-/
import Derived.Test.YtoaeapnkefjpaaaDrumM
import Derived.Test.YtoaeapnkefjpaaaSealC
import Derived.Test.YtoaeapnkefjpaaaReg2
namespace Go.Proofs.Ytoaeapnkefjpaaa
open Go.RowKit
set_option linter.unusedVariables false
set_option linter.unusedSimpArgs false

theorem own_form {w : World} {base : Nat} {e : TypeId} {size n : Nat} {v : Value} {xs : List Value} (h : w.ownsRow base e size v n xs) : ∃ ao cap, v = .slice ao n cap := by
  rcases h.2 with ⟨rfl, rfl⟩ | ⟨g, cap, cur, rfl, _⟩
  · exact ⟨_, _, rfl⟩
  · exact ⟨_, _, rfl⟩
theorem zsize127 : Try.zeroCells127.size = 257 := by kernel_rfl
theorem zero127 : ∃ v : Value, (∀ w, (zeroValue 127).run Try.prog w = .ok v w) ∧ v.cells.size = 257 := by
  cases hq : Try.prog.info? 127 with
  | none => have := z127; rw [hq] at this; cases this
  | some i =>
    have h1 : (Try.prog.info? 127).map (fun i => i.zero.map (·.cells.size)) = some (some 257) := by kernel_rfl
    rw [hq] at h1
    simp only [Option.map_some, Option.some.injEq] at h1
    cases hz : i.zero with
    | none => rw [hz] at h1; cases h1
    | some v => exact ⟨v, fun w => by simp [zeroValue, typeInfo, hq, hz], by rw [hz] at h1; simpa using h1⟩
set_option maxRecDepth 100000 in
set_option maxHeartbeats 800000 in
theorem lay_any (w : World) (p s : Nat) (wv : Value) (own : Nat → Prop) (D : DS) (k : Int) (h : DrumIn w p s wv own D) (hk : -9223372036854775808 ≤ k ∧ k ≤ 9223372036854775807) :
    Calls Try.prog 91 #[.pointer (some ⟨p, 0, none⟩), I k] w fun e w' => e = .returned (.tuple #[]) ∧ DrumIn w' p s (.slice none 0 0) own { D with safe := DS.lay D.safe k D.waits, waits := [] } ∧ Mod own w w' := by
  obtain ⟨ao, cap, rfl⟩ := own_form h.hw
  have c1 := h.c1
  have H := hid h
  clear h
  go_enter Try.func91, Try.ntmps91
  go_wp2
  go_loopw [1, 12] (fun b i wr => ∃ (j : Nat) (x : Int), j ≤ D.waits.length ∧ i = I j ∧ b = I x ∧ x = DS.rest k (D.waits.take j) ∧ (-9223372036854775808 ≤ x ∧ x ≤ 9223372036854775807) ∧ Hid (wr.heap[s]? = some (.cells ((DS.lay D.safe k (D.waits.take j)).flatMap pageCells).toArray 125 (0, 0))) ∧ Hid (Mod (fun b => b = s) w wr)) (fun _ i _ => D.waits.length - (intOf i).toNat)
  case atStart => exact ⟨0, k, Nat.zero_le _, rfl, rfl, rfl, hk, hid H.out.hs, hid (Mod.refl _ _)⟩
  case round =>
    obtain ⟨j, x, hj, rfl, rfl, hx, hxr, hS, hM⟩ := hrel
    have HX := hid hx
    clear hx
    have h := H.out
    have nsp : s ≠ p := Ne.symm h.ps
    have hP := hM.out.block p (h.lt p h.op) (by simp [h.ps])
    have c1w : wr.cell? ⟨p, 1, none⟩ = some (.slice ao D.waits.length cap) := (World.cell?_of_block (w := w) (a := ⟨p, 1, none⟩) hP).trans h.c1
    have frw : ∀ i, wr.frozen? ⟨p, i, none⟩ = false := fun i => (World.frozen?_of_block (w := w) (a := ⟨p, i, none⟩) hP).trans (h.fr i)
    have hW : wr.ownsRow 0 127 257 (.slice ao D.waits.length cap) D.waits.length (D.waits.flatMap waitCells) := own_mod h.hw (fun k hk => hM.out.block k (h.lt k (h.ow k hk).1) (h.ow k hk).2.2)
    have HW := hid hW
    clear hW hP
    by_cases hlt : j < D.waits.length
    · obtain ⟨x0, hx0⟩ : ∃ x0, D.waits[j]? = some x0 := ⟨_, List.getElem?_eq_getElem hlt⟩
      obtain ⟨g, cap', hv, hnc, hcm, -, hg⟩ := own_slice HW.out (by omega)
      unfold maxLen at hcm
      simp only [Value.slice.injEq] at hv
      obtain ⟨rfl, -, -⟩ := hv
      have HX0 := hid hx0
      have hrange := hid (wait_cell HW.out (fun y hy => (h.ok.wait y hy).2) hx0)
      have hx2 := (h.ok.wait x0 (List.mem_of_getElem? hx0)).2
      have hst : ∀ w' : World, (storeCells ⟨w'.heap.size, 0, none⟩ (waitCells x0) 0).run Try.prog (w'.alloc (.cells Try.zeroCells127 127)) = .ok () (w'.alloc (.cells (waitCells x0).toArray 127)) := fun w' => by
        have := run_storeCells_new (P := Try.prog) w' 127 Try.zeroCells127 (waitCells x0).toArray (by simp [waitCells_len hx2, z127]) (zsize127.trans (by simp [waitCells_len hx2])) (all_oneCell_toArray waitCells_one)
        simpa using this
      have hwl := waitCells_len hx2
      have hz := hid (show (Try.prog.info? 127).map (·.size) = some (waitCells x0).length by rw [waitCells_len hx2]; exact z127)

      obtain ⟨m, hm⟩ : ∃ m : Nat, m = DS.part x := ⟨_, rfl⟩
      have hm' : (m : Int) = min (max x 0) 256 := by rw [hm]; unfold DS.part; omega
      have km : ∀ (ats : Array TypeId) (ty : TypeId) (w : World), (Builtin.min_ ats ty #[.int .i64 (max x 0), .int .i64 256]).run Try.prog w = .ok (.int .i64 m) w := fun ats ty w => by rw [hm']; exact run_min ats ty _ _ w
      have kM : ∀ (ats : Array TypeId) (ty : TypeId) (w : World), (Builtin.max_ ats ty #[.int .i64 x, .int .i64 0]).run Try.prog w = .ok (.int .i64 (max x 0)) w := fun ats ty w => run_max ats ty x 0 w
      have hm1 : m ≤ 256 := by omega
      have hm2 : -9223372036854775808 ≤ x - m ∧ x - m ≤ 9223372036854775807 := by omega
      have HM := hid hm
      have HM' := hid hm'
      clear hm hm'
      obtain ⟨a0, pg⟩ := x0
      have ha0 := (h.ok.wait _ (List.mem_of_getElem? hx0)).1
      have hn2 := h.ok.n2
      have hps := h.ps
      have hlay : (DS.lay D.safe k (D.waits.take j)).length = D.safe.length := DS.lay_len _ _ _
      have hpg : pg.length = 256 := hx2
      have HX2 := hid hx2
      have HWL := hid hwl
      clear hx0 h hx2
      go_wp2_with (refine wpList_load_mid rfl 127 (.tmp 14) rfl g (j * 257) ?_ (waitCells (a0, pg)) _ hrange.out Try.underlying127 rfl hz.out ?_)
      clear km kM hst hwl
      obtain ⟨w1, hw1⟩ : ∃ w1, w1 = wr.alloc (.cells (waitCells (a0, pg)).toArray 127) := ⟨_, rfl⟩
      rw [← hw1]
      have HW1 := hid hw1
      have hb1 : w1.heap[wr.heap.size]? = some (.cells (waitCells (a0, pg)).toArray 127 (0, 0)) := by rw [hw1]; exact heap_alloc_new _ _
      have hbel : Below wr.heap.size wr w1 := by rw [hw1]; exact (Below.refl _ _).alloc (Nat.le_refl _) _
      have hp0 : w1.cell? ⟨p, 0, none⟩ = some (.slice (some ⟨s, 0, none⟩) D.safe.length D.safe.length) := by
        have e := hM.out.cell H.out.c0 (by simp [hps])
        exact (hbel.cell (block_lt_of_cell e)).trans e
      have kp : ∀ w', Ext w1.drew w' → w'.cell? ⟨p, 0, none⟩ = some (.slice (some ⟨s, 0, none⟩) D.safe.length D.safe.length) := fun w' h => h.cell hp0
      have ka : ∀ w', Ext w1.drew w' → w'.cell? ⟨wr.heap.size, 0, none⟩ = some (.int .i64 a0) := fun w' h => h.cell (by rw [World.cell?_drew, cell_of_row w1 _ _ _ _ _ hb1]; rfl)
      have HB1 := hid hb1
      have HBEL := hid hbel
      clear hb1 hbel hw1 hp0 c1w frw hz hrange
      refine wp_region_order Ext [12] [(0,0),(1,0),(2,0),(3,0),(4,0),(5,0),(6,0),(7,0),(8,0),(9,0),(10,0),(11,0),(12,2)] _ (by kernel_rfl) rfl Ext.refl Ext.trans (by kernel_rfl) (by simp only [pick, List.getElem?_toArray, List.getElem?_cons_zero, List.getElem?_cons_succ]; rfl) (fun c a d v w h => by cases d <;> exact h) ?_
      refine wpK_q (v := ?_) (a' := ?_) (by rfl) (fun w' hR => ?_) ?_ ?_
      rotate_left 2
      · go_simp; with_reducible rfl
      · simp only [Act.put, List.setIfInBounds_toArray, List.set_cons_zero, List.set_cons_succ]; rfl
      refine wpK_q (v := ?_) (a' := ?_) (by rfl) (fun w' hR => ?_) ?_ ?_
      rotate_left 2
      · go_simp; with_reducible rfl
      · simp only [Act.put, List.setIfInBounds_toArray, List.set_cons_zero, List.set_cons_succ]; rfl
      refine wpK_q (v := ?_) (a' := ?_) (by rfl) (fun w' hR => ?_) ?_ ?_
      rotate_left 2
      · go_simp; with_reducible rfl
      · simp only [Act.put, List.setIfInBounds_toArray, List.set_cons_zero, List.set_cons_succ]; rfl
      refine wpK_q (v := ?_) (a' := ?_) (by rfl) (fun w' hR => ?_) ?_ ?_
      rotate_left 2
      · go_simp; with_reducible rfl
      · simp only [Act.put, List.setIfInBounds_toArray, List.set_cons_zero, List.set_cons_succ]; rfl
      refine wpK_q (v := ?_) (a' := ?_) (by rfl) (fun w' hR => ?_) ?_ ?_
      rotate_left 2
      · go_simp; with_reducible rfl
      · simp only [Act.put, List.setIfInBounds_toArray, List.set_cons_zero, List.set_cons_succ]; rfl
      refine wpK_q (v := ?_) (a' := ?_) (by rfl) (fun w' hR => ?_) ?_ ?_
      rotate_left 2
      · go_simp; with_reducible rfl
      · simp only [Act.put, List.setIfInBounds_toArray, List.set_cons_zero, List.set_cons_succ]; rfl
      refine wpK_q (v := ?_) (a' := ?_) (by rfl) (fun w' hR => ?_) ?_ ?_
      rotate_left 2
      · go_simp; with_reducible rfl
      · simp only [Act.put, List.setIfInBounds_toArray, List.set_cons_zero, List.set_cons_succ]; rfl
      refine wpK_q (v := ?_) (a' := ?_) (by rfl) (fun w' hR => ?_) ?_ ?_
      rotate_left 2
      · go_simp; with_reducible rfl
      · simp only [Act.put, List.setIfInBounds_toArray, List.set_cons_zero, List.set_cons_succ]; rfl
      refine wpK_q (v := ?_) (a' := ?_) (by rfl) (fun w' hR => ?_) ?_ ?_
      rotate_left 2
      · have hh := val_of (run_sl_arr s (a0 * 256) m hm1 w')
        exact hh
      · simp only [Act.put, List.setIfInBounds_toArray, List.set_cons_zero, List.set_cons_succ]; rfl
      refine wpK_q (v := ?_) (a' := ?_) (by rfl) (fun w' hR => ?_) ?_ ?_
      rotate_left 2
      · go_simp; with_reducible rfl
      · simp only [Act.put, List.setIfInBounds_toArray, List.set_cons_zero, List.set_cons_succ]; rfl
      refine wpK_q (v := ?_) (a' := ?_) (by rfl) (fun w' hR => ?_) ?_ ?_
      rotate_left 2
      · go_simp; with_reducible rfl
      · simp only [Act.put, List.setIfInBounds_toArray, List.set_cons_zero, List.set_cons_succ]; rfl
      refine wpK_q (v := ?_) (a' := ?_) (by rfl) (fun w' hR => ?_) ?_ ?_
      rotate_left 2
      · have hh := val_of (run_sl_arr wr.heap.size 1 m hm1 w')
        exact hh
      · simp only [Act.put, List.setIfInBounds_toArray, List.set_cons_zero, List.set_cons_succ]; rfl
      have hsrc : ∀ i v, ((pageCells pg).take m)[i]? = some v → w1.drew.cell? ((⟨wr.heap.size, 1, none⟩ : Addr).add i) = some v := fun i v hv => by
        rw [add_off, World.cell?_drew, cell_of_row w1 _ _ _ _ _ HB1.out, Nat.add_comm 1 i]
        rw [List.getElem?_take] at hv
        split at hv
        · exact (show (waitCells (a0, pg)).toArray[i + 1]? = some v from by rw [List.getElem?_toArray]; exact hv)
        · cases hv
      have hs1 : w1.heap[s]? = some (.cells ((DS.lay D.safe k (D.waits.take j)).flatMap pageCells).toArray 125 (0, 0)) := (HBEL.out.block s (Array.getElem?_eq_some_iff.1 hS.out).1).trans hS.out
      have hpages : ∀ q ∈ DS.lay D.safe k (D.waits.take j), (pageCells q).length = 256 := fun q hq => pageCells_len (DS.lay_page H.out.ok.page (fun x hx => H.out.ok.wait x (List.mem_of_mem_take hx)) q hq)
      have hfit : a0 * 256 + ((pageCells pg).take m).length ≤ ((DS.lay D.safe k (D.waits.take j)).flatMap pageCells).toArray.size := by
        rw [List.size_toArray, rows_len hpages, hlay, List.length_take, pageCells_len hpg]
        omega
      have hcp := run_copy_row (P := Try.prog) w1.drew 23 23 3 5 s (a0 * 256) m 256 ⟨wr.heap.size, 1, none⟩ m 256 _ 125 ((pageCells pg).take m) Try.underlying23 z5 hs1 (by simp [pageCells_len hpg]; omega) hsrc hfit (fun v hv => pageCells_one v (List.mem_of_mem_take hv))
      refine wpK_v (by rfl) (exec_copy rfl _ (by simp only [List.map_toArray, List.map_cons, List.map_nil]; rfl) hcp) (fun h => by cases h) (by simp only [Act.put, List.setIfInBounds_toArray, List.set_cons_zero, List.set_cons_succ]; rfl) ?_
      refine wpK_done ?_
      obtain ⟨Y, hY⟩ : ∃ Y, Y = DS.lay1 (DS.lay D.safe k (D.waits.take j)) a0 m pg := ⟨_, rfl⟩
      have hpatch := rows_patch (L := DS.lay D.safe k (D.waits.take j)) (k := a0) (x := (DS.lay D.safe k (D.waits.take j)).getD a0 []) (y := pg.take m ++ ((DS.lay D.safe k (D.waits.take j)).getD a0 []).drop m) (vs := (pageCells pg).take m) (m := m) hpages (by rw [List.getD_eq_getElem?_getD, List.getElem?_eq_getElem (by omega)]; rfl) (by simp [pageCells_len hpg]; omega) hm1 (by simp [pageCells, List.map_take, List.map_drop])
      have hlen : ((pageCells pg).take m).length = m := by simp [pageCells_len hpg]; omega
      unfold DS.lay1 at hY
      rw [← hY] at hpatch
      simp only [List.toList_toArray, hlen, hpatch]
      have HS3 := hid (setRow_heap w1.drew s _ (Y.flatMap pageCells).toArray 125 (0, 0) hs1)
      have HY := hid hY
      clear hY
      clear hsrc hs1 hpages hfit hcp hpatch hlen kp ka
      go_wp2
      go_roundw
      case rel =>
        refine ⟨j + 1, x - m, by omega, by go_num, rfl, ?_, by omega, ?_, ?_⟩
        · rw [List.take_add_one, HX0.out, Option.toList_some, DS.rest_snoc, ← HX.out, ← HM.out]
        · rw [List.take_add_one, HX0.out, Option.toList_some, DS.lay_snoc, ← HX.out, ← HM.out]
          unfold DS.lay1
          rw [← HY.out]
          exact HS3
        · exact hid (hM.out.trans ((Mod.of_below _ HBEL.out).trans ((Mod.drew w1).trans (Mod.setRow (own := fun b => b = s) (w := w1.drew) (g := s) rfl))))
      case measure => simp [intOf]; omega
    · have HH := hid h
      clear h
      go_wp2
      go_end0
      have h := HH.out
      clear HH
      obtain rfl : j = D.waits.length := by omega
      have hS' := hS.out
      rw [List.take_length] at hS'
      have hM' : Mod own w wr := hM.out.mono (fun i _ e => by subst e; exact h.os)
      refine ⟨rfl, ?_, hM'.trans (Mod.set h.op)⟩
      have hP := hM.out.block p (h.lt p h.op) (by simp [h.ps])
      refine ⟨⟨by rw [DS.lay_len]; exact h.ok.n1, by rw [DS.lay_len]; exact h.ok.n2, DS.lay_page h.ok.page h.ok.wait, by simp, h.ok.ops, h.ok.armed, h.ok.keep⟩, h.op, h.os, fun k hk => (by cases hk), h.ps, fun k hk => by simpa using Nat.lt_of_lt_of_le (h.lt k hk) hM.out.size, ?_, ?_, World.ownsRow_nil _ _ _ _⟩
      · rw [heap_setCell_same wr p 1 _ _ _ (hP.trans h.hp)]
        simp only [DS.lay_len]
        rfl
      · rw [heap_setCell_other _ _ _ _ (show s ≠ p from nsp)]
        exact hS'
end Go.Proofs.Ytoaeapnkefjpaaa
