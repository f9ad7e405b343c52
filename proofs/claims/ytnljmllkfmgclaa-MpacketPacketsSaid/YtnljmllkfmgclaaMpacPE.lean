/-
  THE PROGRAM: the door of Next, something given up. Conditions: those that each contract names.
-/
import Derived.Test.YtnljmllkfmgclaaMpacPD
namespace Go.Proofs.Ytnljmllkfmgclaa
open Go.RowKit
set_option linter.unusedVariables false
set_option linter.unusedSimpArgs false

set_option maxRecDepth 100000 in
set_option maxHeartbeats 800000 in
theorem catch_gave (b1 b2 b3 : Nat) (P : Pk) (nv cv : Value) (c2 c3 : Array Value) (t2 t3 : TypeId) (w : World) (h1 : PIn w b1 P nv cv) (h2 : w.heap[b2]? = some (.cells c2 t2 (0, 0))) (h3 : w.heap[b3]? = some (.cells c3 t3 (0, 0)))
    (s2 : c2.size = 1) (s3 : c3.size = 1) (n12 : b1 ≠ b2) (n13 : b1 ≠ b3) (n23 : b2 ≠ b3) :
    CallsD Try.prog 20 #[.pointer (some ⟨b1, 0, none⟩), .pointer (some ⟨b2, 0, none⟩), .pointer (some ⟨b3, 0, none⟩)] (.panicking gave) w fun e u' w' =>
      e = .returned (.tuple #[]) ∧ u' = .panicking [{ v := .iface 45 (.agg #[]), recovered := true }] ∧
      (PIn w' b1 Pk.zero nil0 nil0 ∧ w'.heap[b2]? = some (.cells #[I 0] t2 (0, 0)) ∧ w'.heap[b3]? = some (.cells #[I 40] t3 (0, 0))) ∧ Mod (fun k => k = b1 ∨ k = b2 ∨ k = b3) w w' := by
  have hta := gave_is
  refine callsD_of_wpS Try.func20 rfl fun c₀ cs hu => ?_
  apply wpS_seq
  apply wpS_region
  unfold gave at hu
  simp [wpOpsS, go_sem, recoverD, hu, Try.ntmps20, Exit.thenS]
  refine wpS_of_wp ?_
  simp only [Array.replicate_succ, Array.replicate_zero, List.push_toArray, List.append_toArray, List.nil_append, List.cons_append, List.setIfInBounds_toArray, List.set_cons_zero, List.set_cons_succ]
  have hB : Below w.heap.size w (w.alloc (.cells #[] 45)) := (Below.refl _ _).alloc (Nat.le_refl _) _
  have hp1 := h1.below hB
  obtain ⟨w5, hw5⟩ : ∃ w5, w5 = (w.alloc (.cells #[] 45)).setCells b1 0 (pkCells Pk.zero nil0 nil0).toList := ⟨_, rfl⟩
  have hs := hp1.store (P' := Pk.zero) (nv' := nil0) (cv' := nil0) rfl rfl
  rw [← hw5] at hs
  have HS := hid hs
  have hp5 : PIn w5 b1 Pk.zero nil0 nil0 := by rw [hw5]; exact hp1.stored _ _ _
  have hm5 : Mod (fun k => k = b1) w w5 := by rw [hw5]; exact (Mod.of_below _ hB).trans (Mod.setCells (own := fun k => k = b1) rfl _ _ _)
  have g2 : w5.heap[b2]? = some (.cells c2 t2 (0, 0)) := (hm5.block b2 (Array.getElem?_eq_some_iff.1 h2).1 (Ne.symm n12)).trans h2
  have g3 : w5.heap[b3]? = some (.cells c3 t3 (0, 0)) := (hm5.block b3 (Array.getElem?_eq_some_iff.1 h3).1 (Ne.symm n13)).trans h3
  obtain ⟨v2, hv2⟩ := cell_one g2 s2
  obtain ⟨v3, hv3⟩ := cell_one g3 s3
  have f2 := frozen_row g2 0
  have f3 := frozen_row g3 0
  have G2 := hid g2
  have G3 := hid g3
  have HP5 := hid hp5
  have HM5 := hid hm5
  clear hs hw5 hp5 hm5 g2 g3 h1 h2 h3 hp1
  clear hB
  go_wp2_with (first | (show wpList _ _ _ ({ dst := none, op := Op.store _ (.tmp 0) _, type := _, pos := _, after := _, guard := _ } :: _) _ _; refine wpList_store_by rfl (.tmp 0) (.tmp 12) rfl rfl (.pointer (some ⟨b1, 0, none⟩)) (.agg (pkCells Pk.zero nil0 nil0)) rfl rfl HS.out ?_) | fail)
  have r1 : PIn ((w5.setCell ⟨b2, 0, none⟩ (.int .i64 0)).setCell ⟨b3, 0, none⟩ (.int .i64 40)) b1 Pk.zero nil0 nil0 := HP5.out.keep ((heap_setCell_other _ ⟨b3, 0, none⟩ b1 _ n13).trans (heap_setCell_other _ ⟨b2, 0, none⟩ b1 _ n12))
  have r2 : ((w5.setCell ⟨b2, 0, none⟩ (.int .i64 0)).setCell ⟨b3, 0, none⟩ (.int .i64 40)).heap[b2]? = some (.cells #[I 0] t2 (0, 0)) := (heap_setCell_other _ ⟨b3, 0, none⟩ b2 _ n23).trans (set_one G2.out s2 (I 0))
  have r3 : ((w5.setCell ⟨b2, 0, none⟩ (.int .i64 0)).setCell ⟨b3, 0, none⟩ (.int .i64 40)).heap[b3]? = some (.cells #[I 40] t3 (0, 0)) := set_one ((heap_setCell_other _ ⟨b2, 0, none⟩ b3 _ (Ne.symm n23)).trans G3.out) s3 (I 40)
  have hmm : Mod (fun k => k = b1 ∨ k = b2 ∨ k = b3) w ((w5.setCell ⟨b2, 0, none⟩ (.int .i64 0)).setCell ⟨b3, 0, none⟩ (.int .i64 40)) := ((HM5.out.mono (fun i _ hi => .inl hi)).trans (Mod.set (.inr (.inl rfl)))).trans (Mod.set (.inr (.inr rfl)))
  generalize (w5.setCell ⟨b2, 0, none⟩ (.int .i64 0)).setCell ⟨b3, 0, none⟩ (.int .i64 40) = w9 at *
  simp [bodyPostS, results, Try.results20, r1, r2, r3, hmm]
end Go.Proofs.Ytnljmllkfmgclaa
