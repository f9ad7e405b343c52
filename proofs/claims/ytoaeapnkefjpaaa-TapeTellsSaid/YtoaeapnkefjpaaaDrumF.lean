/-
  What the statements on drums share: full, wakes. Conditions: none.
-/
import Derived.Test.YtoaeapnkefjpaaaDrumP6
import Derived.Laws.OwnMore
namespace Go.Proofs.Ytoaeapnkefjpaaa
open Go.RowKit
set_option linter.unusedVariables false
set_option linter.unusedSimpArgs false

/-- A page of one byte. -/
def fullPage (c : UInt8) : List UInt8 := List.replicate 256 c
theorem fullPage_len (c : UInt8) : (fullPage c).length = 256 := List.length_replicate
def part2 (c : UInt8) (j : Nat) : List UInt8 := List.replicate j c ++ List.replicate (256 - j) 0
theorem part2_set (c : UInt8) (j : Nat) (hj : j < 256) : (part2 c j).set j c = part2 c (j + 1) := by
  unfold part2
  rw [List.set_append_right _ _ (by simp), List.length_replicate, Nat.sub_self]
  obtain ⟨m, hm⟩ : ∃ m, 256 - j = m + 1 := ⟨255 - j, by omega⟩
  have : 256 - (j + 1) = m := by omega
  rw [hm, this, List.replicate_succ, List.set_cons_zero, List.replicate_succ', List.append_assoc]
  rfl
theorem part2_len (c : UInt8) (j : Nat) (hj : j ≤ 256) : (part2 c j).length = 256 := by unfold part2; rw [List.length_append, List.length_replicate, List.length_replicate]; omega
theorem part2_end (c : UInt8) : part2 c 256 = fullPage c := by unfold part2 fullPage; exact List.append_nil _
set_option maxRecDepth 100000 in
set_option maxHeartbeats 800000 in
theorem full_any (w : World) (c : UInt8) : Calls Try.prog 57 #[B c] w (Fresh w (fullPage c)) := by
  obtain ⟨i5, hi, hz, hs, hb⟩ := info_parts info5'
  have hmk := run_makeSlice (P := Try.prog) w 23 5 i5 _ Try.underlying23 hi hz .i64 .i64 256 256 (by omega) (by omega) (by rw [hs]; decide) (by rw [hb]; decide) (by omega)
  rw [hs] at hmk
  have hcells : madeCells (Value.int .u8 0).cells ((256 : Int).toNat * 1) = ((part2 c 0).map B).toArray := by kernel_rfl
  rw [hcells] at hmk
  have h0 : (w.alloc (.cells ((part2 c 0).map B).toArray 5)).ownsRow w.heap.size 5 1 (.slice (some ⟨w.heap.size, 0, none⟩) 256 256) 256 ((part2 c 0).map B) := by
    refine ⟨by rw [List.length_map, part2_len _ _ (by omega)], .inr ⟨w.heap.size, 256, _, rfl, Nat.le_refl _, heap_alloc_new w _, Nat.le_refl _, by unfold maxLen; omega, by rw [List.size_toArray, List.length_map, part2_len _ _ (by omega)], ?_⟩⟩
    rw [List.take_of_length_le (by rw [List.length_map, part2_len _ _ (by omega)]; omega)]
  have H0 := hid h0
  clear hi hz hs hb hcells h0
  go_enter Try.func57, Try.ntmps57
  obtain ⟨z0, hz0⟩ : ∃ z, z = part2 c 0 := ⟨_, rfl⟩
  rw [← hz0] at hmk H0
  have HZ0 := hid hz0
  clear hz0
  go_wp2
  go_loopw [8] (fun i wr => ∃ (j : Nat), j ≤ 256 ∧ i = I j ∧ Hid (wr.ownsRow w.heap.size 5 1 (.slice (some ⟨w.heap.size, 0, none⟩) 256 256) 256 ((part2 c j).map B)) ∧ Hid (Below w.heap.size w wr)) (fun i _ => 256 - (intOf i).toNat)
  case atStart => exact ⟨0, by omega, rfl, by rw [← HZ0.out]; exact H0, hid ((Below.refl _ _).alloc (Nat.le_refl _) _)⟩
  case round =>
    obtain ⟨j, hj, rfl, hO, hB⟩ := hrel
    by_cases hlt : j < 256
    · have hlen := part2_len c j hj
      have hcell := own_cell hO.out (i := j) (u := B (part2 c j)[j]) (by rw [List.getElem?_map, List.getElem?_eq_getElem (by omega)]; rfl)
      have hfr := own_frozen hO.out j
      have hO' := own_set hO.out hlt (B c)
      rw [← List.map_set, part2_set c j hlt] at hO'
      have HO := hid hO'
      generalize (part2 c j)[j] = u0 at *
      clear hO' hlen
      go_wp2
      go_roundw
      case rel => exact ⟨j + 1, by omega, by go_num, HO, hid (hB.out.setCell (p := ⟨w.heap.size, j, none⟩) (Nat.le_refl _) _)⟩
      case measure => simp [intOf]; omega
    · obtain rfl : j = 256 := by omega
      go_wp2
      go_ret
      refine ⟨_, rfl, ?_, hB.out⟩
      have := hO.out
      rw [part2_end] at this
      exact own_len this (fullPage_len c).symm rfl
end Go.Proofs.Ytoaeapnkefjpaaa
