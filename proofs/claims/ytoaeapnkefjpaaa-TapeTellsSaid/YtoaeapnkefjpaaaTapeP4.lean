/-
  THE PROGRAM'S TAPE, fourth file: Open. Conditions: those that each contract names.
-/
import Derived.Test.YtoaeapnkefjpaaaTapeP3
import Derived.Defers
import Derived.Recover
import Derived.Laws.Pointers
namespace Go.Proofs.Ytoaeapnkefjpaaa
open Go.RowKit
set_option linter.unusedVariables false
set_option linter.unusedSimpArgs false

/-- Block b stays. -/
def KeepOne (b : Nat) (w w' : World) : Prop := w'.heap[b]? = w.heap[b]? ∧ w.heap.size ≤ w'.heap.size
theorem KeepOne.refl {b : Nat} (w : World) : KeepOne b w w := ⟨rfl, Nat.le_refl _⟩
theorem KeepOne.trans {b : Nat} (w w' w'' : World) (h : KeepOne b w w') (k : KeepOne b w' w'') : KeepOne b w w'' := ⟨k.1.trans h.1, Nat.le_trans h.2 k.2⟩
theorem KeepOne.set {b : Nat} {w : World} {a : Addr} {v : Value} (h : b ≠ a.block) : KeepOne b w (w.setCell a v) := ⟨heap_setCell_other w a b v h, by simp⟩
theorem cell_one {w : World} {b : Nat} {cs : Array Value} {t : TypeId} (h : w.heap[b]? = some (.cells cs t (0, 0))) (hs : cs.size = 1) : ∃ v, w.cell? ⟨b, 0, none⟩ = some v := by
  rw [cell_of_row w b _ _ _ _ h]
  exact ⟨cs[0], Array.getElem?_eq_getElem (by omega)⟩
theorem set_one {w : World} {b : Nat} {cs : Array Value} {t : TypeId} (h : w.heap[b]? = some (.cells cs t (0, 0))) (hs : cs.size = 1) (v : Value) : (w.setCell ⟨b, 0, none⟩ v).heap[b]? = some (.cells #[v] t (0, 0)) := by
  rw [heap_setCell_same w b 0 _ _ v h]
  obtain ⟨l⟩ := cs
  match l, hs with
  | [x], _ => rfl
theorem catch_idle (p1 p2 p3 : Addr) (w : World) :
    CallsD Try.prog 96 #[.pointer (some p1), .pointer (some p2), .pointer (some p3)] .returning w fun e u' w' => e = .returned (.tuple #[]) ∧ u' = .returning ∧ w' = w := by
  refine callsD_of_wpS Try.func96 rfl fun c₀ cs hu => ?_
  apply wpS_seq
  apply wpS_region
  simp [wpOpsS, go_sem, recoverD, hu, Try.ntmps96, Exit.thenS]
  refine wpS_of_wp ?_
  go_wp2
  cases c₀
  simp_all [bodyPostS, results, Try.results96]
theorem gave_is (c : Int) (w : World) : (Instr.typeAssert (.iface 130 (.agg #[I c])) 20 130 true).run Try.prog w = .ok (.tuple #[.agg #[I c], .bool true]) w := by kernel_rfl
set_option maxRecDepth 100000 in
set_option maxHeartbeats 800000 in
theorem catch_gave (b1 b2 b3 : Nat) (c1 c2 c3 : Array Value) (t1 t2 t3 : TypeId) (c : Int) (w : World) (h1 : w.heap[b1]? = some (.cells c1 t1 (0, 0))) (h2 : w.heap[b2]? = some (.cells c2 t2 (0, 0))) (h3 : w.heap[b3]? = some (.cells c3 t3 (0, 0)))
    (s1 : c1.size = 1) (s2 : c2.size = 1) (s3 : c3.size = 1) (n12 : b1 ≠ b2) (n13 : b1 ≠ b3) (n23 : b2 ≠ b3) :
    CallsD Try.prog 96 #[.pointer (some ⟨b1, 0, none⟩), .pointer (some ⟨b2, 0, none⟩), .pointer (some ⟨b3, 0, none⟩)] (.panicking (gaveUp c)) w fun e u' w' =>
      e = .returned (.tuple #[]) ∧ u' = .panicking [{ v := .iface 130 (.agg #[I c]), recovered := true }] ∧
      (w'.heap[b1]? = some (.cells #[.pointer none] t1 (0, 0)) ∧ w'.heap[b2]? = some (.cells #[.slice none 0 0] t2 (0, 0)) ∧ w'.heap[b3]? = some (.cells #[I c] t3 (0, 0))) ∧ Mod (fun k => k = b1 ∨ k = b2 ∨ k = b3) w w' := by
  have hta := gave_is c
  refine callsD_of_wpS Try.func96 rfl fun c₀ cs hu => ?_
  apply wpS_seq
  apply wpS_region
  unfold gaveUp at hu
  simp [wpOpsS, go_sem, recoverD, hu, Try.ntmps96, Exit.thenS]
  refine wpS_of_wp ?_
  simp only [Array.replicate_succ, Array.replicate_zero, List.push_toArray, List.append_toArray, List.nil_append, List.cons_append, List.setIfInBounds_toArray, List.set_cons_zero, List.set_cons_succ]
  go_wp2
  obtain ⟨wa, hwa⟩ : ∃ wa, wa = w.alloc (.cells #[.int .i64 c] 130) := ⟨_, rfl⟩
  obtain ⟨b4, hb4⟩ : ∃ b4, b4 = w.heap.size := ⟨_, rfl⟩
  rw [← hwa, ← hb4]
  have l1 := (Array.getElem?_eq_some_iff.1 h1).1
  have l2 := (Array.getElem?_eq_some_iff.1 h2).1
  have l3 := (Array.getElem?_eq_some_iff.1 h3).1
  have g1 : wa.heap[b1]? = some (.cells c1 t1 (0, 0)) := by rw [hwa]; exact (Below.heap_alloc w _ _ l1).trans h1
  have g2 : wa.heap[b2]? = some (.cells c2 t2 (0, 0)) := by rw [hwa]; exact (Below.heap_alloc w _ _ l2).trans h2
  have g3 : wa.heap[b3]? = some (.cells c3 t3 (0, 0)) := by rw [hwa]; exact (Below.heap_alloc w _ _ l3).trans h3
  have g4 : wa.heap[b4]? = some (.cells #[.int .i64 c] 130 (0, 0)) := by rw [hwa, hb4]; exact heap_alloc_new _ _
  have hm : Mod (fun k => k = b1 ∨ k = b2 ∨ k = b3) w wa := by rw [hwa]; exact Mod.alloc _
  have n14 : b4 ≠ b1 := by omega
  have n24 : b4 ≠ b2 := by omega
  have n34 : b4 ≠ b3 := by omega
  obtain ⟨v1, hv1⟩ := cell_one g1 s1
  obtain ⟨v2, hv2⟩ := cell_one g2 s2
  obtain ⟨v3, hv3⟩ := cell_one g3 s3
  have k4 : ∀ w', KeepOne b4 wa.drew w' → w'.cell? ⟨b4, 0, none⟩ = some (I c) := fun w' hh => by rw [cell_of_row w' b4 _ _ _ _ (hh.1.trans g4)]; rfl
  have G1 := hid g1
  have G2 := hid g2
  have G3 := hid g3
  have HM := hid hm
  have HU := hid hu
  clear hwa hb4 h1 h2 h3 l1 l2 l3 hta g1 g2 g3 g4 hm hu
  refine wp_region_order (KeepOne b4) [] [(0,0),(1,0),(2,1),(3,1),(4,1)] _ (by kernel_rfl) rfl KeepOne.refl KeepOne.trans (by kernel_rfl) (by simp only [pick, List.getElem?_toArray, List.getElem?_cons_zero, List.getElem?_cons_succ]; rfl) (fun c a d v w h => by cases d <;> exact h) ?_
  refine wpK_q (v := ?_) (a' := ?_) (by rfl) (fun w' hR => ?_) ?_ ?_
  rotate_left 2
  · go_simp; with_reducible rfl
  · simp only [Act.put, List.setIfInBounds_toArray, List.set_cons_zero, List.set_cons_succ]; rfl
  refine wpK_q (v := ?_) (a' := ?_) (by rfl) (fun w' hR => ?_) ?_ ?_
  rotate_left 2
  · go_simp; with_reducible rfl
  · simp only [Act.put, List.setIfInBounds_toArray, List.set_cons_zero, List.set_cons_succ]; rfl
  refine wpK_s (by rfl) rfl (exec_store rfl (vx := .pointer (some ⟨b1, 0, none⟩)) (vy := .pointer none) rfl rfl (run_store1 (u := v1) (by kernel_rfl) rfl rfl hv1 (frozen_row G1.out 0))) (fun _ => KeepOne.set n14) ?_
  have hv2' : (wa.drew.setCell ⟨b1, 0, none⟩ (.pointer none)).cell? ⟨b2, 0, none⟩ = some v2 := (World.cell?_of_block (w := wa) (a := ⟨b2, 0, none⟩) (heap_setCell_other wa.drew ⟨b1, 0, none⟩ b2 _ (Ne.symm n12))).trans hv2
  have hf2' : (wa.drew.setCell ⟨b1, 0, none⟩ (.pointer none)).heap[b2]? = some (.cells c2 t2 (0, 0)) := (heap_setCell_other wa.drew ⟨b1, 0, none⟩ b2 _ (Ne.symm n12)).trans G2.out
  refine wpK_s (by rfl) rfl (exec_store rfl (vx := .pointer (some ⟨b2, 0, none⟩)) (vy := .slice none 0 0) rfl rfl (run_store1 (u := v2) (by kernel_rfl) rfl rfl hv2' (frozen_row hf2' 0))) (fun _ => KeepOne.set n24) ?_
  have hf3' : ((wa.drew.setCell ⟨b1, 0, none⟩ (.pointer none)).setCell ⟨b2, 0, none⟩ (.slice none 0 0)).heap[b3]? = some (.cells c3 t3 (0, 0)) := (heap_setCell_other _ ⟨b2, 0, none⟩ b3 _ (Ne.symm n23)).trans ((heap_setCell_other wa.drew ⟨b1, 0, none⟩ b3 _ (Ne.symm n13)).trans G3.out)
  have hv3' : ((wa.drew.setCell ⟨b1, 0, none⟩ (.pointer none)).setCell ⟨b2, 0, none⟩ (.slice none 0 0)).cell? ⟨b3, 0, none⟩ = some v3 := (World.cell?_of_block (w := wa) (a := ⟨b3, 0, none⟩) (hf3'.trans G3.out.symm)).trans hv3
  refine wpK_s (by rfl) rfl (exec_store rfl (vx := .pointer (some ⟨b3, 0, none⟩)) (vy := I c) rfl rfl (run_store1 (u := v3) (by kernel_rfl) rfl rfl hv3' (frozen_row hf3' 0))) (fun _ => KeepOne.set n34) ?_
  refine wpK_done ?_
  have e1 := set_one (show wa.drew.heap[b1]? = _ from G1.out) s1 (.pointer none)
  have e2 := set_one hf2' s2 (.slice none 0 0)
  have e3 := set_one hf3' s3 (I c)
  have r1 : (((wa.drew.setCell ⟨b1, 0, none⟩ (.pointer none)).setCell ⟨b2, 0, none⟩ (.slice none 0 0)).setCell ⟨b3, 0, none⟩ (I c)).heap[b1]? = some (.cells #[.pointer none] t1 (0, 0)) := (heap_setCell_other _ ⟨b3, 0, none⟩ b1 _ n13).trans ((heap_setCell_other _ ⟨b2, 0, none⟩ b1 _ n12).trans e1)
  have r2 : (((wa.drew.setCell ⟨b1, 0, none⟩ (.pointer none)).setCell ⟨b2, 0, none⟩ (.slice none 0 0)).setCell ⟨b3, 0, none⟩ (I c)).heap[b2]? = some (.cells #[.slice none 0 0] t2 (0, 0)) := (heap_setCell_other _ ⟨b3, 0, none⟩ b2 _ n23).trans e2
  have hmm : Mod (fun k => k = b1 ∨ k = b2 ∨ k = b3) w (((wa.drew.setCell ⟨b1, 0, none⟩ (.pointer none)).setCell ⟨b2, 0, none⟩ (.slice none 0 0)).setCell ⟨b3, 0, none⟩ (I c)) :=
    (((HM.out.trans (Mod.drew wa)).trans (Mod.set (.inl rfl))).trans (Mod.set (.inr (.inl rfl)))).trans (Mod.set (.inr (.inr rfl)))
  generalize ((wa.drew.setCell ⟨b1, 0, none⟩ (.pointer none)).setCell ⟨b2, 0, none⟩ (.slice none 0 0)).setCell ⟨b3, 0, none⟩ (I c) = w9 at *
  have hu := HU.out
  clear HU
  clear k4 hf3' hv3' hf2' hv2' e1 e2 G1 G2 G3 HM hv1 hv2 hv3
  simp only [Exit.inBlock]
  refine (show bodyPostS _ _ _ _ _ _ _ _ _ from ?_)
  simp [bodyPostS, results, Try.results96, r1, r2, e3, hmm]
end Go.Proofs.Ytoaeapnkefjpaaa
