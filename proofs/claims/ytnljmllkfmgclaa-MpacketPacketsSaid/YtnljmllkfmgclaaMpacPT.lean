/-
  THE DOCUMENT'S ANSWER: Same (13). Conditions: those that each contract names.
-/
import Derived.Test.YtnljmllkfmgclaaMpacPS
import Derived.Deep.Cut
namespace Go.Proofs.Ytnljmllkfmgclaa
open Go.RowKit
set_option linter.unusedVariables false
set_option linter.unusedSimpArgs false

theorem same_ne {A C : Pk} {α : Type} (g : Pk → α) (h : g A ≠ g C) : Mp.same A C = false := by
  cases hh : Mp.same A C with
  | false => rfl
  | true => exact absurd (congrArg g ((Mp.same_iff _ _).1 hh)) h

set_option maxRecDepth 100000 in
set_option maxHeartbeats 6400000 in
theorem same13_any (w : World) (v1 v2 : Value) (A C : Pk) (h1 : PkV w v1 A) (h2 : PkV w v2 C) :
    Calls Try.prog 13 #[v1, v2] w fun e w' => e = .returned (.bool (Mp.same A C)) ∧ Below w.heap.size w w' := by
  obtain ⟨⟨na, ca, rfl, hna, hca⟩, bn1, bc1⟩ := h1
  obtain ⟨⟨nb, cb, rfl, hnb, hcb⟩, bn2, bc2⟩ := h2
  obtain ⟨w1, hw1⟩ : ∃ w1, w1 = (w.alloc (.cells (pkCells A na ca) 25)).alloc (.cells (pkCells C nb cb) 25) := ⟨_, rfl⟩
  have hT : Two15 w w1 w.heap.size (w.heap.size + 1) A C na ca nb cb := by
    have hB : Below w.heap.size w w1 := by rw [hw1]; exact ((Below.refl _ _).alloc (Nat.le_refl _) _).alloc (by simp) _
    refine ⟨?_, ?_, hna.below hB, hca.below hB, hnb.below hB, hcb.below hB, hB⟩
    · rw [hw1]; exact (Below.heap_alloc _ _ _ (by simp)).trans (heap_alloc_new _ _)
    · rw [hw1]
      have := heap_alloc_new (w.alloc (.cells (pkCells A na ca) 25)) (.cells (pkCells C nb cb) 25)
      rw [show (w.alloc (.cells (pkCells A na ca) 25)).heap.size = w.heap.size + 1 by simp] at this
      exact this
  have HT := hid hT
  have HW := hid hw1
  clear hT hw1 hna hca hnb hcb
  obtain ⟨an1, cn1, rfl, -⟩ := HT.out.na.form
  obtain ⟨ac1, cc1, rfl, -⟩ := HT.out.ca.form
  obtain ⟨an2, cn2, rfl, -⟩ := HT.out.nb.form
  obtain ⟨ac2, cc2, rfl, -⟩ := HT.out.cb.form
  simp only [List.length_map] at HT HW ⊢
  have p0 : w1.cell? ⟨w.heap.size, 0, none⟩ = some (I A.kind) := HT.out.pa.cell 0
  have p1 : w1.cell? ⟨w.heap.size, 1, none⟩ = some (I A.flags) := HT.out.pa.cell 1
  have p2 : w1.cell? ⟨w.heap.size, 2, none⟩ = some (I A.id) := HT.out.pa.cell 2
  have p3 : w1.cell? ⟨w.heap.size, 3, none⟩ = some (I A.code) := HT.out.pa.cell 3
  have p4 : w1.cell? ⟨w.heap.size, 4, none⟩ = some (S A.name) := HT.out.pa.cell 4
  have p5 : w1.cell? ⟨w.heap.size, 5, none⟩ = some (S A.text) := HT.out.pa.cell 5
  have p6 : w1.cell? ⟨w.heap.size, 6, none⟩ = some (I A.keep) := HT.out.pa.cell 6
  have p7 : w1.cell? ⟨w.heap.size, 7, none⟩ = some (.bool A.will) := HT.out.pa.cell 7
  have p8 : w1.cell? ⟨w.heap.size, 8, none⟩ = some (S A.topic) := HT.out.pa.cell 8
  have p9 : w1.cell? ⟨w.heap.size, 9, none⟩ = some (.bool A.clean) := HT.out.pa.cell 9
  have p10 : w1.cell? ⟨w.heap.size, 10, none⟩ = some (.slice an1 A.names.length cn1) := HT.out.pa.cell 10
  have p11 : w1.cell? ⟨w.heap.size, 11, none⟩ = some (.slice ac1 A.codes.length cc1) := HT.out.pa.cell 11
  have q0 : w1.cell? ⟨w.heap.size + 1, 0, none⟩ = some (I C.kind) := HT.out.pc.cell 0
  have q1 : w1.cell? ⟨w.heap.size + 1, 1, none⟩ = some (I C.flags) := HT.out.pc.cell 1
  have q2 : w1.cell? ⟨w.heap.size + 1, 2, none⟩ = some (I C.id) := HT.out.pc.cell 2
  have q3 : w1.cell? ⟨w.heap.size + 1, 3, none⟩ = some (I C.code) := HT.out.pc.cell 3
  have q4 : w1.cell? ⟨w.heap.size + 1, 4, none⟩ = some (S C.name) := HT.out.pc.cell 4
  have q5 : w1.cell? ⟨w.heap.size + 1, 5, none⟩ = some (S C.text) := HT.out.pc.cell 5
  have q6 : w1.cell? ⟨w.heap.size + 1, 6, none⟩ = some (I C.keep) := HT.out.pc.cell 6
  have q7 : w1.cell? ⟨w.heap.size + 1, 7, none⟩ = some (.bool C.will) := HT.out.pc.cell 7
  have q8 : w1.cell? ⟨w.heap.size + 1, 8, none⟩ = some (S C.topic) := HT.out.pc.cell 8
  have q9 : w1.cell? ⟨w.heap.size + 1, 9, none⟩ = some (.bool C.clean) := HT.out.pc.cell 9
  have q10 : w1.cell? ⟨w.heap.size + 1, 10, none⟩ = some (.slice an2 C.names.length cn2) := HT.out.pc.cell 10
  have q11 : w1.cell? ⟨w.heap.size + 1, 11, none⟩ = some (.slice ac2 C.codes.length cc2) := HT.out.pc.cell 11
  by_cases h0 : A.kind = C.kind
  rotate_left
  · have f0 : (A.kind == C.kind) = false := by rw [beq_eq_false_iff_ne]; exact h0
    have n0 : (A.kind != C.kind) = true := by unfold bne; rw [f0]; rfl
    have hs : Mp.same A C = false := same_ne (Pk.kind) h0
    have HS := hid hs
    clear hs h0
    go_enter Try.func13, Try.ntmps13
    go_upto_region 1 with (fail)
    rw [← HW.out]
    clear HW
    go_wp2
    go_ret
    rw [HS.out]
    exact ⟨rfl, HT.out.below⟩
  by_cases h1 : A.flags = C.flags
  rotate_left
  · have f0 : (A.kind == C.kind) = true := by rw [beq_iff_eq]; exact h0
    have n0 : (A.kind != C.kind) = false := by unfold bne; rw [f0]; rfl
    have f1 : (A.flags == C.flags) = false := by rw [beq_eq_false_iff_ne]; exact h1
    have n1 : (A.flags != C.flags) = true := by unfold bne; rw [f1]; rfl
    have hs : Mp.same A C = false := same_ne (Pk.flags) h1
    have HS := hid hs
    clear hs h0 h1
    go_enter Try.func13, Try.ntmps13
    go_upto_region 1 with (fail)
    rw [← HW.out]
    clear HW
    go_wp2
    go_ret
    rw [HS.out]
    exact ⟨rfl, HT.out.below⟩
  by_cases h2 : A.id = C.id
  rotate_left
  · have f0 : (A.kind == C.kind) = true := by rw [beq_iff_eq]; exact h0
    have n0 : (A.kind != C.kind) = false := by unfold bne; rw [f0]; rfl
    have f1 : (A.flags == C.flags) = true := by rw [beq_iff_eq]; exact h1
    have n1 : (A.flags != C.flags) = false := by unfold bne; rw [f1]; rfl
    have f2 : (A.id == C.id) = false := by rw [beq_eq_false_iff_ne]; exact h2
    have n2 : (A.id != C.id) = true := by unfold bne; rw [f2]; rfl
    have hs : Mp.same A C = false := same_ne (Pk.id) h2
    have HS := hid hs
    clear hs h0 h1 h2
    go_enter Try.func13, Try.ntmps13
    go_upto_region 1 with (fail)
    rw [← HW.out]
    clear HW
    go_wp2
    go_ret
    rw [HS.out]
    exact ⟨rfl, HT.out.below⟩
  by_cases h3 : A.code = C.code
  rotate_left
  · have f0 : (A.kind == C.kind) = true := by rw [beq_iff_eq]; exact h0
    have n0 : (A.kind != C.kind) = false := by unfold bne; rw [f0]; rfl
    have f1 : (A.flags == C.flags) = true := by rw [beq_iff_eq]; exact h1
    have n1 : (A.flags != C.flags) = false := by unfold bne; rw [f1]; rfl
    have f2 : (A.id == C.id) = true := by rw [beq_iff_eq]; exact h2
    have n2 : (A.id != C.id) = false := by unfold bne; rw [f2]; rfl
    have f3 : (A.code == C.code) = false := by rw [beq_eq_false_iff_ne]; exact h3
    have n3 : (A.code != C.code) = true := by unfold bne; rw [f3]; rfl
    have hs : Mp.same A C = false := same_ne (Pk.code) h3
    have HS := hid hs
    clear hs h0 h1 h2 h3
    go_enter Try.func13, Try.ntmps13
    go_upto_region 1 with (fail)
    rw [← HW.out]
    clear HW
    go_wp2
    go_ret
    rw [HS.out]
    exact ⟨rfl, HT.out.below⟩
  by_cases h4 : A.name = C.name
  rotate_left
  · have f0 : (A.kind == C.kind) = true := by rw [beq_iff_eq]; exact h0
    have n0 : (A.kind != C.kind) = false := by unfold bne; rw [f0]; rfl
    have f1 : (A.flags == C.flags) = true := by rw [beq_iff_eq]; exact h1
    have n1 : (A.flags != C.flags) = false := by unfold bne; rw [f1]; rfl
    have f2 : (A.id == C.id) = true := by rw [beq_iff_eq]; exact h2
    have n2 : (A.id != C.id) = false := by unfold bne; rw [f2]; rfl
    have f3 : (A.code == C.code) = true := by rw [beq_iff_eq]; exact h3
    have n3 : (A.code != C.code) = false := by unfold bne; rw [f3]; rfl
    have f4 : ((str A.name).toList == (str C.name).toList) = false := by rw [str_toList, str_toList, beq_eq_false_iff_ne]; exact h4
    have n4 : ((str A.name).toList != (str C.name).toList) = true := by unfold bne; rw [f4]; rfl
    have hs : Mp.same A C = false := same_ne (Pk.name) h4
    have HS := hid hs
    clear hs h0 h1 h2 h3 h4
    go_enter Try.func13, Try.ntmps13
    go_upto_region 1 with (fail)
    rw [← HW.out]
    clear HW
    go_wp2
    go_ret
    rw [HS.out]
    exact ⟨rfl, HT.out.below⟩
  by_cases h5 : A.text = C.text
  rotate_left
  · have f0 : (A.kind == C.kind) = true := by rw [beq_iff_eq]; exact h0
    have n0 : (A.kind != C.kind) = false := by unfold bne; rw [f0]; rfl
    have f1 : (A.flags == C.flags) = true := by rw [beq_iff_eq]; exact h1
    have n1 : (A.flags != C.flags) = false := by unfold bne; rw [f1]; rfl
    have f2 : (A.id == C.id) = true := by rw [beq_iff_eq]; exact h2
    have n2 : (A.id != C.id) = false := by unfold bne; rw [f2]; rfl
    have f3 : (A.code == C.code) = true := by rw [beq_iff_eq]; exact h3
    have n3 : (A.code != C.code) = false := by unfold bne; rw [f3]; rfl
    have f4 : ((str A.name).toList == (str C.name).toList) = true := by rw [str_toList, str_toList, beq_iff_eq]; exact h4
    have n4 : ((str A.name).toList != (str C.name).toList) = false := by unfold bne; rw [f4]; rfl
    have f5 : ((str A.text).toList == (str C.text).toList) = false := by rw [str_toList, str_toList, beq_eq_false_iff_ne]; exact h5
    have n5 : ((str A.text).toList != (str C.text).toList) = true := by unfold bne; rw [f5]; rfl
    have hs : Mp.same A C = false := same_ne (Pk.text) h5
    have HS := hid hs
    clear hs h0 h1 h2 h3 h4 h5
    go_enter Try.func13, Try.ntmps13
    go_upto_region 1 with (fail)
    rw [← HW.out]
    clear HW
    go_wp2
    go_ret
    rw [HS.out]
    exact ⟨rfl, HT.out.below⟩
  by_cases h6 : A.keep = C.keep
  rotate_left
  · have f0 : (A.kind == C.kind) = true := by rw [beq_iff_eq]; exact h0
    have n0 : (A.kind != C.kind) = false := by unfold bne; rw [f0]; rfl
    have f1 : (A.flags == C.flags) = true := by rw [beq_iff_eq]; exact h1
    have n1 : (A.flags != C.flags) = false := by unfold bne; rw [f1]; rfl
    have f2 : (A.id == C.id) = true := by rw [beq_iff_eq]; exact h2
    have n2 : (A.id != C.id) = false := by unfold bne; rw [f2]; rfl
    have f3 : (A.code == C.code) = true := by rw [beq_iff_eq]; exact h3
    have n3 : (A.code != C.code) = false := by unfold bne; rw [f3]; rfl
    have f4 : ((str A.name).toList == (str C.name).toList) = true := by rw [str_toList, str_toList, beq_iff_eq]; exact h4
    have n4 : ((str A.name).toList != (str C.name).toList) = false := by unfold bne; rw [f4]; rfl
    have f5 : ((str A.text).toList == (str C.text).toList) = true := by rw [str_toList, str_toList, beq_iff_eq]; exact h5
    have n5 : ((str A.text).toList != (str C.text).toList) = false := by unfold bne; rw [f5]; rfl
    have f6 : (A.keep == C.keep) = false := by rw [beq_eq_false_iff_ne]; exact h6
    have n6 : (A.keep != C.keep) = true := by unfold bne; rw [f6]; rfl
    have hs : Mp.same A C = false := same_ne (Pk.keep) h6
    have HS := hid hs
    clear hs h0 h1 h2 h3 h4 h5 h6
    go_enter Try.func13, Try.ntmps13
    go_upto_region 1 with (fail)
    rw [← HW.out]
    clear HW
    go_wp2
    go_ret
    rw [HS.out]
    exact ⟨rfl, HT.out.below⟩
  by_cases h7 : A.will = C.will
  rotate_left
  · have f0 : (A.kind == C.kind) = true := by rw [beq_iff_eq]; exact h0
    have n0 : (A.kind != C.kind) = false := by unfold bne; rw [f0]; rfl
    have f1 : (A.flags == C.flags) = true := by rw [beq_iff_eq]; exact h1
    have n1 : (A.flags != C.flags) = false := by unfold bne; rw [f1]; rfl
    have f2 : (A.id == C.id) = true := by rw [beq_iff_eq]; exact h2
    have n2 : (A.id != C.id) = false := by unfold bne; rw [f2]; rfl
    have f3 : (A.code == C.code) = true := by rw [beq_iff_eq]; exact h3
    have n3 : (A.code != C.code) = false := by unfold bne; rw [f3]; rfl
    have f4 : ((str A.name).toList == (str C.name).toList) = true := by rw [str_toList, str_toList, beq_iff_eq]; exact h4
    have n4 : ((str A.name).toList != (str C.name).toList) = false := by unfold bne; rw [f4]; rfl
    have f5 : ((str A.text).toList == (str C.text).toList) = true := by rw [str_toList, str_toList, beq_iff_eq]; exact h5
    have n5 : ((str A.text).toList != (str C.text).toList) = false := by unfold bne; rw [f5]; rfl
    have f6 : (A.keep == C.keep) = true := by rw [beq_iff_eq]; exact h6
    have n6 : (A.keep != C.keep) = false := by unfold bne; rw [f6]; rfl
    have f7 : (A.will == C.will) = false := by rw [beq_eq_false_iff_ne]; exact h7
    have n7 : (A.will != C.will) = true := by unfold bne; rw [f7]; rfl
    have hs : Mp.same A C = false := same_ne (Pk.will) h7
    have HS := hid hs
    clear hs h0 h1 h2 h3 h4 h5 h6 h7
    go_enter Try.func13, Try.ntmps13
    go_upto_region 1 with (fail)
    rw [← HW.out]
    clear HW
    go_wp2
    go_ret
    rw [HS.out]
    exact ⟨rfl, HT.out.below⟩
  by_cases h8 : A.topic = C.topic
  rotate_left
  · have f0 : (A.kind == C.kind) = true := by rw [beq_iff_eq]; exact h0
    have n0 : (A.kind != C.kind) = false := by unfold bne; rw [f0]; rfl
    have f1 : (A.flags == C.flags) = true := by rw [beq_iff_eq]; exact h1
    have n1 : (A.flags != C.flags) = false := by unfold bne; rw [f1]; rfl
    have f2 : (A.id == C.id) = true := by rw [beq_iff_eq]; exact h2
    have n2 : (A.id != C.id) = false := by unfold bne; rw [f2]; rfl
    have f3 : (A.code == C.code) = true := by rw [beq_iff_eq]; exact h3
    have n3 : (A.code != C.code) = false := by unfold bne; rw [f3]; rfl
    have f4 : ((str A.name).toList == (str C.name).toList) = true := by rw [str_toList, str_toList, beq_iff_eq]; exact h4
    have n4 : ((str A.name).toList != (str C.name).toList) = false := by unfold bne; rw [f4]; rfl
    have f5 : ((str A.text).toList == (str C.text).toList) = true := by rw [str_toList, str_toList, beq_iff_eq]; exact h5
    have n5 : ((str A.text).toList != (str C.text).toList) = false := by unfold bne; rw [f5]; rfl
    have f6 : (A.keep == C.keep) = true := by rw [beq_iff_eq]; exact h6
    have n6 : (A.keep != C.keep) = false := by unfold bne; rw [f6]; rfl
    have f7 : (A.will == C.will) = true := by rw [beq_iff_eq]; exact h7
    have n7 : (A.will != C.will) = false := by unfold bne; rw [f7]; rfl
    have f8 : ((str A.topic).toList == (str C.topic).toList) = false := by rw [str_toList, str_toList, beq_eq_false_iff_ne]; exact h8
    have n8 : ((str A.topic).toList != (str C.topic).toList) = true := by unfold bne; rw [f8]; rfl
    have hs : Mp.same A C = false := same_ne (Pk.topic) h8
    have HS := hid hs
    clear hs h0 h1 h2 h3 h4 h5 h6 h7 h8
    go_enter Try.func13, Try.ntmps13
    go_upto_region 1 with (fail)
    rw [← HW.out]
    clear HW
    go_wp2
    go_ret
    rw [HS.out]
    exact ⟨rfl, HT.out.below⟩
  by_cases h9 : A.clean = C.clean
  rotate_left
  · have f0 : (A.kind == C.kind) = true := by rw [beq_iff_eq]; exact h0
    have n0 : (A.kind != C.kind) = false := by unfold bne; rw [f0]; rfl
    have f1 : (A.flags == C.flags) = true := by rw [beq_iff_eq]; exact h1
    have n1 : (A.flags != C.flags) = false := by unfold bne; rw [f1]; rfl
    have f2 : (A.id == C.id) = true := by rw [beq_iff_eq]; exact h2
    have n2 : (A.id != C.id) = false := by unfold bne; rw [f2]; rfl
    have f3 : (A.code == C.code) = true := by rw [beq_iff_eq]; exact h3
    have n3 : (A.code != C.code) = false := by unfold bne; rw [f3]; rfl
    have f4 : ((str A.name).toList == (str C.name).toList) = true := by rw [str_toList, str_toList, beq_iff_eq]; exact h4
    have n4 : ((str A.name).toList != (str C.name).toList) = false := by unfold bne; rw [f4]; rfl
    have f5 : ((str A.text).toList == (str C.text).toList) = true := by rw [str_toList, str_toList, beq_iff_eq]; exact h5
    have n5 : ((str A.text).toList != (str C.text).toList) = false := by unfold bne; rw [f5]; rfl
    have f6 : (A.keep == C.keep) = true := by rw [beq_iff_eq]; exact h6
    have n6 : (A.keep != C.keep) = false := by unfold bne; rw [f6]; rfl
    have f7 : (A.will == C.will) = true := by rw [beq_iff_eq]; exact h7
    have n7 : (A.will != C.will) = false := by unfold bne; rw [f7]; rfl
    have f8 : ((str A.topic).toList == (str C.topic).toList) = true := by rw [str_toList, str_toList, beq_iff_eq]; exact h8
    have n8 : ((str A.topic).toList != (str C.topic).toList) = false := by unfold bne; rw [f8]; rfl
    have f9 : (A.clean == C.clean) = false := by rw [beq_eq_false_iff_ne]; exact h9
    have n9 : (A.clean != C.clean) = true := by unfold bne; rw [f9]; rfl
    have hs : Mp.same A C = false := same_ne (Pk.clean) h9
    have HS := hid hs
    clear hs h0 h1 h2 h3 h4 h5 h6 h7 h8 h9
    go_enter Try.func13, Try.ntmps13
    go_upto_region 1 with (fail)
    rw [← HW.out]
    clear HW
    go_wp2
    go_ret
    rw [HS.out]
    exact ⟨rfl, HT.out.below⟩
  by_cases h10 : A.names.length = C.names.length
  rotate_left
  · have f0 : (A.kind == C.kind) = true := by rw [beq_iff_eq]; exact h0
    have n0 : (A.kind != C.kind) = false := by unfold bne; rw [f0]; rfl
    have f1 : (A.flags == C.flags) = true := by rw [beq_iff_eq]; exact h1
    have n1 : (A.flags != C.flags) = false := by unfold bne; rw [f1]; rfl
    have f2 : (A.id == C.id) = true := by rw [beq_iff_eq]; exact h2
    have n2 : (A.id != C.id) = false := by unfold bne; rw [f2]; rfl
    have f3 : (A.code == C.code) = true := by rw [beq_iff_eq]; exact h3
    have n3 : (A.code != C.code) = false := by unfold bne; rw [f3]; rfl
    have f4 : ((str A.name).toList == (str C.name).toList) = true := by rw [str_toList, str_toList, beq_iff_eq]; exact h4
    have n4 : ((str A.name).toList != (str C.name).toList) = false := by unfold bne; rw [f4]; rfl
    have f5 : ((str A.text).toList == (str C.text).toList) = true := by rw [str_toList, str_toList, beq_iff_eq]; exact h5
    have n5 : ((str A.text).toList != (str C.text).toList) = false := by unfold bne; rw [f5]; rfl
    have f6 : (A.keep == C.keep) = true := by rw [beq_iff_eq]; exact h6
    have n6 : (A.keep != C.keep) = false := by unfold bne; rw [f6]; rfl
    have f7 : (A.will == C.will) = true := by rw [beq_iff_eq]; exact h7
    have n7 : (A.will != C.will) = false := by unfold bne; rw [f7]; rfl
    have f8 : ((str A.topic).toList == (str C.topic).toList) = true := by rw [str_toList, str_toList, beq_iff_eq]; exact h8
    have n8 : ((str A.topic).toList != (str C.topic).toList) = false := by unfold bne; rw [f8]; rfl
    have f9 : (A.clean == C.clean) = true := by rw [beq_iff_eq]; exact h9
    have n9 : (A.clean != C.clean) = false := by unfold bne; rw [f9]; rfl
    have f10 : ((A.names.length : Int) == (C.names.length : Int)) = false := by rw [beq_eq_false_iff_ne]; omega
    have n10 : ((A.names.length : Int) != (C.names.length : Int)) = true := by unfold bne; rw [f10]; rfl
    have hs : Mp.same A C = false := same_ne (fun P => P.names.length) h10
    have HS := hid hs
    clear hs h0 h1 h2 h3 h4 h5 h6 h7 h8 h9 h10
    go_enter Try.func13, Try.ntmps13
    go_upto_region 1 with (fail)
    rw [← HW.out]
    clear HW
    go_wp2
    go_ret
    rw [HS.out]
    exact ⟨rfl, HT.out.below⟩
  by_cases h11 : A.codes.length = C.codes.length
  rotate_left
  · have f0 : (A.kind == C.kind) = true := by rw [beq_iff_eq]; exact h0
    have n0 : (A.kind != C.kind) = false := by unfold bne; rw [f0]; rfl
    have f1 : (A.flags == C.flags) = true := by rw [beq_iff_eq]; exact h1
    have n1 : (A.flags != C.flags) = false := by unfold bne; rw [f1]; rfl
    have f2 : (A.id == C.id) = true := by rw [beq_iff_eq]; exact h2
    have n2 : (A.id != C.id) = false := by unfold bne; rw [f2]; rfl
    have f3 : (A.code == C.code) = true := by rw [beq_iff_eq]; exact h3
    have n3 : (A.code != C.code) = false := by unfold bne; rw [f3]; rfl
    have f4 : ((str A.name).toList == (str C.name).toList) = true := by rw [str_toList, str_toList, beq_iff_eq]; exact h4
    have n4 : ((str A.name).toList != (str C.name).toList) = false := by unfold bne; rw [f4]; rfl
    have f5 : ((str A.text).toList == (str C.text).toList) = true := by rw [str_toList, str_toList, beq_iff_eq]; exact h5
    have n5 : ((str A.text).toList != (str C.text).toList) = false := by unfold bne; rw [f5]; rfl
    have f6 : (A.keep == C.keep) = true := by rw [beq_iff_eq]; exact h6
    have n6 : (A.keep != C.keep) = false := by unfold bne; rw [f6]; rfl
    have f7 : (A.will == C.will) = true := by rw [beq_iff_eq]; exact h7
    have n7 : (A.will != C.will) = false := by unfold bne; rw [f7]; rfl
    have f8 : ((str A.topic).toList == (str C.topic).toList) = true := by rw [str_toList, str_toList, beq_iff_eq]; exact h8
    have n8 : ((str A.topic).toList != (str C.topic).toList) = false := by unfold bne; rw [f8]; rfl
    have f9 : (A.clean == C.clean) = true := by rw [beq_iff_eq]; exact h9
    have n9 : (A.clean != C.clean) = false := by unfold bne; rw [f9]; rfl
    have f10 : ((A.names.length : Int) == (C.names.length : Int)) = true := by rw [beq_iff_eq]; omega
    have n10 : ((A.names.length : Int) != (C.names.length : Int)) = false := by unfold bne; rw [f10]; rfl
    have f11 : ((A.codes.length : Int) == (C.codes.length : Int)) = false := by rw [beq_eq_false_iff_ne]; omega
    have n11 : ((A.codes.length : Int) != (C.codes.length : Int)) = true := by unfold bne; rw [f11]; rfl
    have hs : Mp.same A C = false := same_ne (fun P => P.codes.length) h11
    have HS := hid hs
    clear hs h0 h1 h2 h3 h4 h5 h6 h7 h8 h9 h10 h11
    go_enter Try.func13, Try.ntmps13
    go_upto_region 1 with (fail)
    rw [← HW.out]
    clear HW
    go_wp2
    go_ret
    rw [HS.out]
    exact ⟨rfl, HT.out.below⟩
  have f0 : (A.kind == C.kind) = true := by rw [beq_iff_eq]; exact h0
  have n0 : (A.kind != C.kind) = false := by unfold bne; rw [f0]; rfl
  have f1 : (A.flags == C.flags) = true := by rw [beq_iff_eq]; exact h1
  have n1 : (A.flags != C.flags) = false := by unfold bne; rw [f1]; rfl
  have f2 : (A.id == C.id) = true := by rw [beq_iff_eq]; exact h2
  have n2 : (A.id != C.id) = false := by unfold bne; rw [f2]; rfl
  have f3 : (A.code == C.code) = true := by rw [beq_iff_eq]; exact h3
  have n3 : (A.code != C.code) = false := by unfold bne; rw [f3]; rfl
  have f4 : ((str A.name).toList == (str C.name).toList) = true := by rw [str_toList, str_toList, beq_iff_eq]; exact h4
  have n4 : ((str A.name).toList != (str C.name).toList) = false := by unfold bne; rw [f4]; rfl
  have f5 : ((str A.text).toList == (str C.text).toList) = true := by rw [str_toList, str_toList, beq_iff_eq]; exact h5
  have n5 : ((str A.text).toList != (str C.text).toList) = false := by unfold bne; rw [f5]; rfl
  have f6 : (A.keep == C.keep) = true := by rw [beq_iff_eq]; exact h6
  have n6 : (A.keep != C.keep) = false := by unfold bne; rw [f6]; rfl
  have f7 : (A.will == C.will) = true := by rw [beq_iff_eq]; exact h7
  have n7 : (A.will != C.will) = false := by unfold bne; rw [f7]; rfl
  have f8 : ((str A.topic).toList == (str C.topic).toList) = true := by rw [str_toList, str_toList, beq_iff_eq]; exact h8
  have n8 : ((str A.topic).toList != (str C.topic).toList) = false := by unfold bne; rw [f8]; rfl
  have f9 : (A.clean == C.clean) = true := by rw [beq_iff_eq]; exact h9
  have n9 : (A.clean != C.clean) = false := by unfold bne; rw [f9]; rfl
  have f10 : ((A.names.length : Int) == (C.names.length : Int)) = true := by rw [beq_iff_eq]; omega
  have n10 : ((A.names.length : Int) != (C.names.length : Int)) = false := by unfold bne; rw [f10]; rfl
  have f11 : ((A.codes.length : Int) == (C.codes.length : Int)) = true := by rw [beq_iff_eq]; omega
  have n11 : ((A.codes.length : Int) != (C.codes.length : Int)) = false := by unfold bne; rw [f11]; rfl
  have HE := hid (And.intro h0 (And.intro h1 (And.intro h2 (And.intro h3 (And.intro h4 (And.intro h5 (And.intro h6 (And.intro h7 (And.intro h8 h9)))))))))
  have HLN := hid h10
  have HLC := hid h11
  clear h0 h1 h2 h3 h4 h5 h6 h7 h8 h9 h10 h11
  go_enter Try.func13, Try.ntmps13
  go_upto_region 1 with (fail)
  rw [← HW.out]
  clear HW
  go_wp2_with fail
  clear p0 p1 p2 p3 p4 p5 p6 p7 p8 p9 q0 q1 q2 q3 q4 q5 q6 q7 q8 q9 f0 f1 f2 f3 f4 f5 f6 f7 f8 f9 f10 f11 n0 n1 n2 n3 n4 n5 n6 n7 n8 n9 n10 n11
  go_loopw [96] (fun i wr => ∃ k m : Nat, k ≤ A.names.length ∧ i = I k ∧ Hid (A.names.take k = C.names.take k ∧ wr = w1.drewN m)) (fun i _ => A.names.length - (intOf i).toNat)
  case atStart => exact ⟨0, 0, by omega, rfl, hid ⟨rfl, rfl⟩⟩
  case round =>
    obtain ⟨k, m, hk, rfl, HR⟩ := hrel
    obtain ⟨htk, rfl⟩ := HR.out
    have HTK := hid htk
    clear htk HR
    by_cases hlt : k < A.names.length
    · skip
      have hlt2 : k < C.names.length := by have := HLN.out; omega
      obtain ⟨ao1, cp1, hv1, -, -, z1⟩ := HT.out.na
      simp only [Value.slice.injEq] at hv1
      obtain ⟨rfl, -, rfl⟩ := hv1
      rw [List.length_map] at z1
      obtain ⟨g1, o1, rfl, r1⟩ := z1 (by omega)
      obtain ⟨ao2, cp2, hv2, -, -, z2⟩ := HT.out.nb
      simp only [Value.slice.injEq] at hv2
      obtain ⟨rfl, -, rfl⟩ := hv2
      rw [List.length_map] at z2
      obtain ⟨g2, o2, rfl, r2⟩ := z2 (by omega)
      have k1 := r1 k (S A.names[k]) (by rw [List.getElem?_map, List.getElem?_eq_getElem hlt]; rfl)
      have t1 : A.names.take (k + 1) = A.names.take k ++ [A.names[k]] := List.take_succ_eq_append_getElem hlt
      have e1 : A.names[k]? = some A.names[k] := List.getElem?_eq_getElem hlt
      have k2 := r2 k (S C.names[k]) (by rw [List.getElem?_map, List.getElem?_eq_getElem hlt2]; rfl)
      have t2 : C.names.take (k + 1) = C.names.take k ++ [C.names[k]] := List.take_succ_eq_append_getElem hlt2
      have e2 : C.names[k]? = some C.names[k] := List.getElem?_eq_getElem hlt2
      generalize A.names[k] = x at *
      generalize C.names[k] = y at *
      have T1 := hid t1
      have T2 := hid t2
      have E1 := hid e1
      have E2 := hid e2
      clear r1 r2 t1 t2 e1 e2 z1 z2
      by_cases hxy : x = y
      · have hq : ((str x).toList == (str y).toList) = true := by rw [hxy]; simp
        have HXY := hid hxy
        clear hxy
        go_wp2_with fail
        go_quiet (fail)
        go_wp2_with fail
        go_roundw
        case rel => exact ⟨k + 1, m + nq, by omega, by go_num, hid ⟨by rw [T1.out, T2.out, HTK.out, HXY.out], by first | rfl | rw [World.drewN_drewN]⟩⟩
        case measure => simp [intOf]; omega
      · have hq : ((str x).toList == (str y).toList) = false := by rw [str_toList, str_toList, beq_eq_false_iff_ne]; exact hxy
        have hs : Mp.same A C = false := same_ne Pk.names (fun e => hxy (by have h1 := E1.out; rw [e, E2.out] at h1; exact (Option.some.inj h1).symm))
        have HS := hid hs
        clear hxy hs
        go_wp2_with fail
        go_quiet (fail)
        go_wp2_with fail
        go_ret
        rw [HS.out]
        exact ⟨rfl, below_drewN' (below_drewN' HT.out.below _) _⟩
    · skip
      have hkl : k = A.names.length := by omega
      have HNN : Hid (A.names = C.names) := hid (by have h1 := HTK.out; rw [hkl, List.take_length, HLN.out, List.take_length] at h1; exact h1)
      clear hkl
      go_wp2_with fail
      clear p10 q10 HTK hk hlt
      have p11' : (w1.drewN m).cell? ⟨w.heap.size, 11, none⟩ = some (.slice ac1 A.codes.length cc1) := p11
      have q11' : (w1.drewN m).cell? ⟨w.heap.size + 1, 11, none⟩ = some (.slice ac2 C.codes.length cc2) := q11
      have HB1 := hid (below_drewN' HT.out.below m)
      have HC1 := hid (show SeesV (w1.drewN m) (.slice ac1 A.codes.length cc1) (A.codes.map I) from HT.out.ca.keep (fun _ _ => rfl))
      have HC2 := hid (show SeesV (w1.drewN m) (.slice ac2 C.codes.length cc2) (C.codes.map I) from HT.out.cb.keep (fun _ _ => rfl))
      clear p11 q11
      generalize w1.drewN m = W1 at *
      go_loopw [114] (fun i wr => ∃ k m : Nat, k ≤ A.codes.length ∧ i = I k ∧ Hid (A.codes.take k = C.codes.take k ∧ wr = W1.drewN m)) (fun i _ => A.codes.length - (intOf i).toNat)
      case atStart => exact ⟨0, 0, by omega, rfl, hid ⟨rfl, rfl⟩⟩
      case round =>
        obtain ⟨k, m, hk, rfl, HR⟩ := hrel
        obtain ⟨htk, rfl⟩ := HR.out
        have HTK := hid htk
        clear htk HR
        by_cases hlt : k < A.codes.length
        · skip
          have hlt2 : k < C.codes.length := by have := HLC.out; omega
          obtain ⟨ao1, cp1, hv1, -, -, z1⟩ := HC1.out
          simp only [Value.slice.injEq] at hv1
          obtain ⟨rfl, -, rfl⟩ := hv1
          rw [List.length_map] at z1
          obtain ⟨g1, o1, rfl, r1⟩ := z1 (by omega)
          obtain ⟨ao2, cp2, hv2, -, -, z2⟩ := HC2.out
          simp only [Value.slice.injEq] at hv2
          obtain ⟨rfl, -, rfl⟩ := hv2
          rw [List.length_map] at z2
          obtain ⟨g2, o2, rfl, r2⟩ := z2 (by omega)
          have k1 := r1 k (I A.codes[k]) (by rw [List.getElem?_map, List.getElem?_eq_getElem hlt]; rfl)
          have t1 : A.codes.take (k + 1) = A.codes.take k ++ [A.codes[k]] := List.take_succ_eq_append_getElem hlt
          have e1 : A.codes[k]? = some A.codes[k] := List.getElem?_eq_getElem hlt
          have k2 := r2 k (I C.codes[k]) (by rw [List.getElem?_map, List.getElem?_eq_getElem hlt2]; rfl)
          have t2 : C.codes.take (k + 1) = C.codes.take k ++ [C.codes[k]] := List.take_succ_eq_append_getElem hlt2
          have e2 : C.codes[k]? = some C.codes[k] := List.getElem?_eq_getElem hlt2
          generalize A.codes[k] = x at *
          generalize C.codes[k] = y at *
          have T1 := hid t1
          have T2 := hid t2
          have E1 := hid e1
          have E2 := hid e2
          clear r1 r2 t1 t2 e1 e2 z1 z2
          by_cases hxy : x = y
          · have hq : ((x : Int) == y) = true := by rw [hxy]; simp
            have HXY := hid hxy
            clear hxy
            go_wp2_with fail
            go_quiet (fail)
            go_wp2_with fail
            go_roundw
            case rel => exact ⟨k + 1, m + nq, by omega, by go_num, hid ⟨by rw [T1.out, T2.out, HTK.out, HXY.out], by first | rfl | rw [World.drewN_drewN]⟩⟩
            case measure => simp [intOf]; omega
          · have hq : ((x : Int) == y) = false := by rw [beq_eq_false_iff_ne]; exact hxy
            have hs : Mp.same A C = false := same_ne Pk.codes (fun e => hxy (by have h1 := E1.out; rw [e, E2.out] at h1; exact (Option.some.inj h1).symm))
            have HS := hid hs
            clear hxy hs
            go_wp2_with fail
            go_quiet (fail)
            go_wp2_with fail
            go_ret
            rw [HS.out]
            exact ⟨rfl, below_drewN' (below_drewN' HB1.out _) _⟩
        · skip
          have hkl : k = A.codes.length := by omega
          have hcc : A.codes = C.codes := by have h1 := HTK.out; rw [hkl, List.take_length, HLC.out, List.take_length] at h1; exact h1
          have hs : Mp.same A C = true := (Mp.same_iff _ _).2 (by obtain ⟨x0, x1, x2, x3, x4, x5, x6, x7, x8, x9⟩ := HE.out; have x10 := HNN.out; cases A; cases C; simp_all)
          have HS := hid hs
          clear hs hcc hkl
          go_wp2_with fail
          go_ret
          rw [HS.out]
          exact ⟨rfl, below_drewN' HB1.out _⟩
end Go.Proofs.Ytnljmllkfmgclaa
