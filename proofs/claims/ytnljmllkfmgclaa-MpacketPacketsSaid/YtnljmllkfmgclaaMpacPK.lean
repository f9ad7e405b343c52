/-
  THE PROGRAM: same (15). Conditions: those that each contract names.
-/
import Derived.Test.YtnljmllkfmgclaaMpacPJ
import Derived.Deep.Cut
namespace Go.Proofs.Ytnljmllkfmgclaa
open Go.RowKit
set_option linter.unusedVariables false
set_option linter.unusedSimpArgs false

/-- A packet as a value: its cells, its names and codes as they are seen. -/
structure PkV (w : World) (v : Value) (P : Pk) : Prop where
  form : ∃ nv cv, v = .agg (pkCells P nv cv) ∧ SeesV w nv (P.names.map S) ∧ SeesV w cv (P.codes.map I)
  nb : P.names.length ≤ 1000000000
  cb : P.codes.length ≤ 1000000000
theorem seesV_blk {w : World} {v : Value} {xs : List Value} (h : SeesV w v xs) (h0 : 0 < xs.length) : ∀ k, v.ownBlock = some k → k < w.heap.size := by
  obtain ⟨ao, cap, rfl, h1, h2, h3⟩ := h
  obtain ⟨g, off, rfl, hc⟩ := h3 h0
  intro k hk
  cases hk
  have hx := hc 0 xs[0] (List.getElem?_eq_getElem h0)
  exact block_lt_of_cell hx
/-- Two packets boxed, one behind the other. -/
structure Two15 (w w1 : World) (b1 b2 : Nat) (A C : Pk) (na ca nb cb : Value) : Prop where
  pa : PIn w1 b1 A na ca
  pc : PIn w1 b2 C nb cb
  na : SeesV w1 na (A.names.map S)
  ca : SeesV w1 ca (A.codes.map I)
  nb : SeesV w1 nb (C.names.map S)
  cb : SeesV w1 cb (C.codes.map I)
  below : Below w.heap.size w w1
theorem below_drewN' {B : Nat} {w w' : World} (h : Below B w w') (n : Nat) : Below B w (w'.drewN n) := ⟨h.os, h.tape, h.output, h.size, h.block⟩

set_option maxRecDepth 100000 in
set_option maxHeartbeats 6400000 in
theorem same_any (w : World) (v1 v2 : Value) (A C : Pk) (h1 : PkV w v1 A) (h2 : PkV w v2 C) :
    Calls Try.prog 15 #[v1, v2] w fun e w' => e = .returned (.bool (Mp.same A C)) ∧ Below w.heap.size w w' := by
  obtain ⟨⟨na, ca, rfl, hna, hca⟩, bn1, bc1⟩ := h1
  obtain ⟨⟨nb, cb, rfl, hnb, hcb⟩, bn2, bc2⟩ := h2
  obtain ⟨w1, hw1⟩ : ∃ w1, w1 = (w.alloc (.cells (pkCells A na ca) 25)).alloc (.cells (pkCells C nb cb) 25) := ⟨_, rfl⟩
  have hT : Two15 w w1 w.heap.size (w.heap.size + 1) A C na ca nb cb := by
    have hB : Below w.heap.size w w1 := by rw [hw1]; exact ((Below.refl _ _).alloc (Nat.le_refl _) _).alloc (by simp) _
    refine ⟨?_, ?_, hna.below hB, hca.below hB, hnb.below hB, hcb.below hB, hB⟩
    · rw [hw1]; exact (Below.heap_alloc _ _ _ (by simp)).trans (heap_alloc_new _ _)
    · rw [hw1]
      have := heap_alloc_new (w.alloc (.cells (pkCells A na ca) 25)) (.cells (pkCells C nb cb) 25)
      rw [show (w.alloc (.cells (pkCells A na ca) 25)).heap.size = w.heap.size + 1 by simp] at this
      exact this
  have HT := hid hT
  have HW := hid hw1
  clear hT hw1 hna hca hnb hcb
  obtain ⟨an1, cn1, rfl, -⟩ := HT.out.na.form
  obtain ⟨ac1, cc1, rfl, -⟩ := HT.out.ca.form
  obtain ⟨an2, cn2, rfl, -⟩ := HT.out.nb.form
  obtain ⟨ac2, cc2, rfl, -⟩ := HT.out.cb.form
  simp only [List.length_map] at HT HW ⊢
  have p10 : w1.cell? ⟨w.heap.size, 10, none⟩ = some (.slice an1 A.names.length cn1) := HT.out.pa.cell 10
  have p11 : w1.cell? ⟨w.heap.size, 11, none⟩ = some (.slice ac1 A.codes.length cc1) := HT.out.pa.cell 11
  have p0 : w1.cell? ⟨w.heap.size, 0, none⟩ = some (I A.kind) := HT.out.pa.cell 0
  have p1 : w1.cell? ⟨w.heap.size, 1, none⟩ = some (I A.flags) := HT.out.pa.cell 1
  have p2 : w1.cell? ⟨w.heap.size, 2, none⟩ = some (I A.id) := HT.out.pa.cell 2
  have p3 : w1.cell? ⟨w.heap.size, 3, none⟩ = some (I A.code) := HT.out.pa.cell 3
  have p4 : w1.cell? ⟨w.heap.size, 4, none⟩ = some (S A.name) := HT.out.pa.cell 4
  have p5 : w1.cell? ⟨w.heap.size, 5, none⟩ = some (S A.text) := HT.out.pa.cell 5
  have p6 : w1.cell? ⟨w.heap.size, 6, none⟩ = some (I A.keep) := HT.out.pa.cell 6
  have p7 : w1.cell? ⟨w.heap.size, 7, none⟩ = some (.bool A.will) := HT.out.pa.cell 7
  have p8 : w1.cell? ⟨w.heap.size, 8, none⟩ = some (S A.topic) := HT.out.pa.cell 8
  have p9 : w1.cell? ⟨w.heap.size, 9, none⟩ = some (.bool A.clean) := HT.out.pa.cell 9
  have q10 : w1.cell? ⟨w.heap.size + 1, 10, none⟩ = some (.slice an2 C.names.length cn2) := HT.out.pc.cell 10
  have q11 : w1.cell? ⟨w.heap.size + 1, 11, none⟩ = some (.slice ac2 C.codes.length cc2) := HT.out.pc.cell 11
  have q0 : w1.cell? ⟨w.heap.size + 1, 0, none⟩ = some (I C.kind) := HT.out.pc.cell 0
  have q1 : w1.cell? ⟨w.heap.size + 1, 1, none⟩ = some (I C.flags) := HT.out.pc.cell 1
  have q2 : w1.cell? ⟨w.heap.size + 1, 2, none⟩ = some (I C.id) := HT.out.pc.cell 2
  have q3 : w1.cell? ⟨w.heap.size + 1, 3, none⟩ = some (I C.code) := HT.out.pc.cell 3
  have q4 : w1.cell? ⟨w.heap.size + 1, 4, none⟩ = some (S C.name) := HT.out.pc.cell 4
  have q5 : w1.cell? ⟨w.heap.size + 1, 5, none⟩ = some (S C.text) := HT.out.pc.cell 5
  have q6 : w1.cell? ⟨w.heap.size + 1, 6, none⟩ = some (I C.keep) := HT.out.pc.cell 6
  have q7 : w1.cell? ⟨w.heap.size + 1, 7, none⟩ = some (.bool C.will) := HT.out.pc.cell 7
  have q8 : w1.cell? ⟨w.heap.size + 1, 8, none⟩ = some (S C.topic) := HT.out.pc.cell 8
  have q9 : w1.cell? ⟨w.heap.size + 1, 9, none⟩ = some (.bool C.clean) := HT.out.pc.cell 9
  have HE1 := hid (eq27_any w1 _ _ A.names C.names HT.out.na HT.out.nb bn1 bn2)
  have HE2 := hid (fun m => eq28_any (w1.drewN m) _ _ A.codes C.codes (HT.out.ca.keep (fun _ _ => rfl)) (HT.out.cb.keep (fun _ _ => rfl)) bc1 bc2)
  by_cases h0 : A.names = C.names
  rotate_left
  · have f0 : decide (A.names = C.names) = false := decide_eq_false h0
    have hs : Mp.same A C = false := by cases hh : Mp.same A C with | false => rfl | true => exact absurd (congrArg Pk.names ((Mp.same_iff _ _).1 hh)) h0
    rw [f0] at HE1
    have HS := hid hs
    clear hs h0 f0
    go_enter Try.func15, Try.ntmps15
    go_upto_region 1 with (fail)
    rw [← HW.out]
    clear HW
    go_wp2_with (first | (go_at_call 27; refine HE1.out.mono ?_; rintro e w2 ⟨rfl, m1, rfl⟩) | (go_at_call 28; refine (HE2.out _).mono ?_; rintro e w3 ⟨rfl, m2, rfl⟩) | fail)
    go_ret
    rw [HS.out]
    exact ⟨rfl, below_drewN' HT.out.below _⟩
  by_cases h1 : A.codes = C.codes
  rotate_left
  · have f0 : decide (A.names = C.names) = true := decide_eq_true h0
    have f1 : decide (A.codes = C.codes) = false := decide_eq_false h1
    have hs : Mp.same A C = false := by cases hh : Mp.same A C with | false => rfl | true => exact absurd (congrArg Pk.codes ((Mp.same_iff _ _).1 hh)) h1
    rw [f0] at HE1
    rw [f1] at HE2
    have HS := hid hs
    clear hs h0 h1 f0 f1
    go_enter Try.func15, Try.ntmps15
    go_upto_region 1 with (fail)
    rw [← HW.out]
    clear HW
    go_wp2_with (first | (go_at_call 27; refine HE1.out.mono ?_; rintro e w2 ⟨rfl, m1, rfl⟩) | (go_at_call 28; refine (HE2.out _).mono ?_; rintro e w3 ⟨rfl, m2, rfl⟩) | fail)
    go_ret
    rw [HS.out]
    exact ⟨rfl, below_drewN' HT.out.below _⟩
  by_cases h2 : A.kind = C.kind
  rotate_left
  · have f0 : decide (A.names = C.names) = true := decide_eq_true h0
    have f1 : decide (A.codes = C.codes) = true := decide_eq_true h1
    have f2 : (A.kind == C.kind) = false := by rw [beq_eq_false_iff_ne]; exact h2
    have hs : Mp.same A C = false := by cases hh : Mp.same A C with | false => rfl | true => exact absurd (congrArg Pk.kind ((Mp.same_iff _ _).1 hh)) h2
    rw [f0] at HE1
    rw [f1] at HE2
    have HS := hid hs
    clear hs h0 h1 h2 f0 f1
    go_enter Try.func15, Try.ntmps15
    go_upto_region 1 with (fail)
    rw [← HW.out]
    clear HW
    go_wp2_with (first | (go_at_call 27; refine HE1.out.mono ?_; rintro e w2 ⟨rfl, m1, rfl⟩) | (go_at_call 28; refine (HE2.out _).mono ?_; rintro e w3 ⟨rfl, m2, rfl⟩) | fail)
    go_ret
    rw [HS.out]
    exact ⟨rfl, below_drewN' HT.out.below _⟩
  by_cases h3 : A.flags = C.flags
  rotate_left
  · have f0 : decide (A.names = C.names) = true := decide_eq_true h0
    have f1 : decide (A.codes = C.codes) = true := decide_eq_true h1
    have f2 : (A.kind == C.kind) = true := by rw [beq_iff_eq]; exact h2
    have f3 : (A.flags == C.flags) = false := by rw [beq_eq_false_iff_ne]; exact h3
    have hs : Mp.same A C = false := by cases hh : Mp.same A C with | false => rfl | true => exact absurd (congrArg Pk.flags ((Mp.same_iff _ _).1 hh)) h3
    rw [f0] at HE1
    rw [f1] at HE2
    have HS := hid hs
    clear hs h0 h1 h2 h3 f0 f1
    go_enter Try.func15, Try.ntmps15
    go_upto_region 1 with (fail)
    rw [← HW.out]
    clear HW
    go_wp2_with (first | (go_at_call 27; refine HE1.out.mono ?_; rintro e w2 ⟨rfl, m1, rfl⟩) | (go_at_call 28; refine (HE2.out _).mono ?_; rintro e w3 ⟨rfl, m2, rfl⟩) | fail)
    go_ret
    rw [HS.out]
    exact ⟨rfl, below_drewN' HT.out.below _⟩
  by_cases h4 : A.id = C.id
  rotate_left
  · have f0 : decide (A.names = C.names) = true := decide_eq_true h0
    have f1 : decide (A.codes = C.codes) = true := decide_eq_true h1
    have f2 : (A.kind == C.kind) = true := by rw [beq_iff_eq]; exact h2
    have f3 : (A.flags == C.flags) = true := by rw [beq_iff_eq]; exact h3
    have f4 : (A.id == C.id) = false := by rw [beq_eq_false_iff_ne]; exact h4
    have hs : Mp.same A C = false := by cases hh : Mp.same A C with | false => rfl | true => exact absurd (congrArg Pk.id ((Mp.same_iff _ _).1 hh)) h4
    rw [f0] at HE1
    rw [f1] at HE2
    have HS := hid hs
    clear hs h0 h1 h2 h3 h4 f0 f1
    go_enter Try.func15, Try.ntmps15
    go_upto_region 1 with (fail)
    rw [← HW.out]
    clear HW
    go_wp2_with (first | (go_at_call 27; refine HE1.out.mono ?_; rintro e w2 ⟨rfl, m1, rfl⟩) | (go_at_call 28; refine (HE2.out _).mono ?_; rintro e w3 ⟨rfl, m2, rfl⟩) | fail)
    go_ret
    rw [HS.out]
    exact ⟨rfl, below_drewN' HT.out.below _⟩
  by_cases h5 : A.code = C.code
  rotate_left
  · have f0 : decide (A.names = C.names) = true := decide_eq_true h0
    have f1 : decide (A.codes = C.codes) = true := decide_eq_true h1
    have f2 : (A.kind == C.kind) = true := by rw [beq_iff_eq]; exact h2
    have f3 : (A.flags == C.flags) = true := by rw [beq_iff_eq]; exact h3
    have f4 : (A.id == C.id) = true := by rw [beq_iff_eq]; exact h4
    have f5 : (A.code == C.code) = false := by rw [beq_eq_false_iff_ne]; exact h5
    have hs : Mp.same A C = false := by cases hh : Mp.same A C with | false => rfl | true => exact absurd (congrArg Pk.code ((Mp.same_iff _ _).1 hh)) h5
    rw [f0] at HE1
    rw [f1] at HE2
    have HS := hid hs
    clear hs h0 h1 h2 h3 h4 h5 f0 f1
    go_enter Try.func15, Try.ntmps15
    go_upto_region 1 with (fail)
    rw [← HW.out]
    clear HW
    go_wp2_with (first | (go_at_call 27; refine HE1.out.mono ?_; rintro e w2 ⟨rfl, m1, rfl⟩) | (go_at_call 28; refine (HE2.out _).mono ?_; rintro e w3 ⟨rfl, m2, rfl⟩) | fail)
    go_ret
    rw [HS.out]
    exact ⟨rfl, below_drewN' HT.out.below _⟩
  by_cases h6 : A.name = C.name
  rotate_left
  · have f0 : decide (A.names = C.names) = true := decide_eq_true h0
    have f1 : decide (A.codes = C.codes) = true := decide_eq_true h1
    have f2 : (A.kind == C.kind) = true := by rw [beq_iff_eq]; exact h2
    have f3 : (A.flags == C.flags) = true := by rw [beq_iff_eq]; exact h3
    have f4 : (A.id == C.id) = true := by rw [beq_iff_eq]; exact h4
    have f5 : (A.code == C.code) = true := by rw [beq_iff_eq]; exact h5
    have f6 : ((str A.name).toList == (str C.name).toList) = false := by rw [str_toList, str_toList, beq_eq_false_iff_ne]; exact h6
    have hs : Mp.same A C = false := by cases hh : Mp.same A C with | false => rfl | true => exact absurd (congrArg Pk.name ((Mp.same_iff _ _).1 hh)) h6
    rw [f0] at HE1
    rw [f1] at HE2
    have HS := hid hs
    clear hs h0 h1 h2 h3 h4 h5 h6 f0 f1
    go_enter Try.func15, Try.ntmps15
    go_upto_region 1 with (fail)
    rw [← HW.out]
    clear HW
    go_wp2_with (first | (go_at_call 27; refine HE1.out.mono ?_; rintro e w2 ⟨rfl, m1, rfl⟩) | (go_at_call 28; refine (HE2.out _).mono ?_; rintro e w3 ⟨rfl, m2, rfl⟩) | fail)
    go_ret
    rw [HS.out]
    exact ⟨rfl, below_drewN' HT.out.below _⟩
  by_cases h7 : A.text = C.text
  rotate_left
  · have f0 : decide (A.names = C.names) = true := decide_eq_true h0
    have f1 : decide (A.codes = C.codes) = true := decide_eq_true h1
    have f2 : (A.kind == C.kind) = true := by rw [beq_iff_eq]; exact h2
    have f3 : (A.flags == C.flags) = true := by rw [beq_iff_eq]; exact h3
    have f4 : (A.id == C.id) = true := by rw [beq_iff_eq]; exact h4
    have f5 : (A.code == C.code) = true := by rw [beq_iff_eq]; exact h5
    have f6 : ((str A.name).toList == (str C.name).toList) = true := by rw [str_toList, str_toList, beq_iff_eq]; exact h6
    have f7 : ((str A.text).toList == (str C.text).toList) = false := by rw [str_toList, str_toList, beq_eq_false_iff_ne]; exact h7
    have hs : Mp.same A C = false := by cases hh : Mp.same A C with | false => rfl | true => exact absurd (congrArg Pk.text ((Mp.same_iff _ _).1 hh)) h7
    rw [f0] at HE1
    rw [f1] at HE2
    have HS := hid hs
    clear hs h0 h1 h2 h3 h4 h5 h6 h7 f0 f1
    go_enter Try.func15, Try.ntmps15
    go_upto_region 1 with (fail)
    rw [← HW.out]
    clear HW
    go_wp2_with (first | (go_at_call 27; refine HE1.out.mono ?_; rintro e w2 ⟨rfl, m1, rfl⟩) | (go_at_call 28; refine (HE2.out _).mono ?_; rintro e w3 ⟨rfl, m2, rfl⟩) | fail)
    go_ret
    rw [HS.out]
    exact ⟨rfl, below_drewN' HT.out.below _⟩
  by_cases h8 : A.keep = C.keep
  rotate_left
  · have f0 : decide (A.names = C.names) = true := decide_eq_true h0
    have f1 : decide (A.codes = C.codes) = true := decide_eq_true h1
    have f2 : (A.kind == C.kind) = true := by rw [beq_iff_eq]; exact h2
    have f3 : (A.flags == C.flags) = true := by rw [beq_iff_eq]; exact h3
    have f4 : (A.id == C.id) = true := by rw [beq_iff_eq]; exact h4
    have f5 : (A.code == C.code) = true := by rw [beq_iff_eq]; exact h5
    have f6 : ((str A.name).toList == (str C.name).toList) = true := by rw [str_toList, str_toList, beq_iff_eq]; exact h6
    have f7 : ((str A.text).toList == (str C.text).toList) = true := by rw [str_toList, str_toList, beq_iff_eq]; exact h7
    have f8 : (A.keep == C.keep) = false := by rw [beq_eq_false_iff_ne]; exact h8
    have hs : Mp.same A C = false := by cases hh : Mp.same A C with | false => rfl | true => exact absurd (congrArg Pk.keep ((Mp.same_iff _ _).1 hh)) h8
    rw [f0] at HE1
    rw [f1] at HE2
    have HS := hid hs
    clear hs h0 h1 h2 h3 h4 h5 h6 h7 h8 f0 f1
    go_enter Try.func15, Try.ntmps15
    go_upto_region 1 with (fail)
    rw [← HW.out]
    clear HW
    go_wp2_with (first | (go_at_call 27; refine HE1.out.mono ?_; rintro e w2 ⟨rfl, m1, rfl⟩) | (go_at_call 28; refine (HE2.out _).mono ?_; rintro e w3 ⟨rfl, m2, rfl⟩) | fail)
    go_ret
    rw [HS.out]
    exact ⟨rfl, below_drewN' HT.out.below _⟩
  by_cases h9 : A.will = C.will
  rotate_left
  · have f0 : decide (A.names = C.names) = true := decide_eq_true h0
    have f1 : decide (A.codes = C.codes) = true := decide_eq_true h1
    have f2 : (A.kind == C.kind) = true := by rw [beq_iff_eq]; exact h2
    have f3 : (A.flags == C.flags) = true := by rw [beq_iff_eq]; exact h3
    have f4 : (A.id == C.id) = true := by rw [beq_iff_eq]; exact h4
    have f5 : (A.code == C.code) = true := by rw [beq_iff_eq]; exact h5
    have f6 : ((str A.name).toList == (str C.name).toList) = true := by rw [str_toList, str_toList, beq_iff_eq]; exact h6
    have f7 : ((str A.text).toList == (str C.text).toList) = true := by rw [str_toList, str_toList, beq_iff_eq]; exact h7
    have f8 : (A.keep == C.keep) = true := by rw [beq_iff_eq]; exact h8
    have f9 : (A.will == C.will) = false := by rw [beq_eq_false_iff_ne]; exact h9
    have hs : Mp.same A C = false := by cases hh : Mp.same A C with | false => rfl | true => exact absurd (congrArg Pk.will ((Mp.same_iff _ _).1 hh)) h9
    rw [f0] at HE1
    rw [f1] at HE2
    have HS := hid hs
    clear hs h0 h1 h2 h3 h4 h5 h6 h7 h8 h9 f0 f1
    go_enter Try.func15, Try.ntmps15
    go_upto_region 1 with (fail)
    rw [← HW.out]
    clear HW
    go_wp2_with (first | (go_at_call 27; refine HE1.out.mono ?_; rintro e w2 ⟨rfl, m1, rfl⟩) | (go_at_call 28; refine (HE2.out _).mono ?_; rintro e w3 ⟨rfl, m2, rfl⟩) | fail)
    go_ret
    rw [HS.out]
    exact ⟨rfl, below_drewN' HT.out.below _⟩
  by_cases h10 : A.topic = C.topic
  rotate_left
  · have f0 : decide (A.names = C.names) = true := decide_eq_true h0
    have f1 : decide (A.codes = C.codes) = true := decide_eq_true h1
    have f2 : (A.kind == C.kind) = true := by rw [beq_iff_eq]; exact h2
    have f3 : (A.flags == C.flags) = true := by rw [beq_iff_eq]; exact h3
    have f4 : (A.id == C.id) = true := by rw [beq_iff_eq]; exact h4
    have f5 : (A.code == C.code) = true := by rw [beq_iff_eq]; exact h5
    have f6 : ((str A.name).toList == (str C.name).toList) = true := by rw [str_toList, str_toList, beq_iff_eq]; exact h6
    have f7 : ((str A.text).toList == (str C.text).toList) = true := by rw [str_toList, str_toList, beq_iff_eq]; exact h7
    have f8 : (A.keep == C.keep) = true := by rw [beq_iff_eq]; exact h8
    have f9 : (A.will == C.will) = true := by rw [beq_iff_eq]; exact h9
    have f10 : ((str A.topic).toList == (str C.topic).toList) = false := by rw [str_toList, str_toList, beq_eq_false_iff_ne]; exact h10
    have hs : Mp.same A C = false := by cases hh : Mp.same A C with | false => rfl | true => exact absurd (congrArg Pk.topic ((Mp.same_iff _ _).1 hh)) h10
    rw [f0] at HE1
    rw [f1] at HE2
    have HS := hid hs
    clear hs h0 h1 h2 h3 h4 h5 h6 h7 h8 h9 h10 f0 f1
    go_enter Try.func15, Try.ntmps15
    go_upto_region 1 with (fail)
    rw [← HW.out]
    clear HW
    go_wp2_with (first | (go_at_call 27; refine HE1.out.mono ?_; rintro e w2 ⟨rfl, m1, rfl⟩) | (go_at_call 28; refine (HE2.out _).mono ?_; rintro e w3 ⟨rfl, m2, rfl⟩) | fail)
    go_ret
    rw [HS.out]
    exact ⟨rfl, below_drewN' HT.out.below _⟩
  by_cases h11 : A.clean = C.clean
  rotate_left
  · have f0 : decide (A.names = C.names) = true := decide_eq_true h0
    have f1 : decide (A.codes = C.codes) = true := decide_eq_true h1
    have f2 : (A.kind == C.kind) = true := by rw [beq_iff_eq]; exact h2
    have f3 : (A.flags == C.flags) = true := by rw [beq_iff_eq]; exact h3
    have f4 : (A.id == C.id) = true := by rw [beq_iff_eq]; exact h4
    have f5 : (A.code == C.code) = true := by rw [beq_iff_eq]; exact h5
    have f6 : ((str A.name).toList == (str C.name).toList) = true := by rw [str_toList, str_toList, beq_iff_eq]; exact h6
    have f7 : ((str A.text).toList == (str C.text).toList) = true := by rw [str_toList, str_toList, beq_iff_eq]; exact h7
    have f8 : (A.keep == C.keep) = true := by rw [beq_iff_eq]; exact h8
    have f9 : (A.will == C.will) = true := by rw [beq_iff_eq]; exact h9
    have f10 : ((str A.topic).toList == (str C.topic).toList) = true := by rw [str_toList, str_toList, beq_iff_eq]; exact h10
    have f11 : (A.clean == C.clean) = false := by rw [beq_eq_false_iff_ne]; exact h11
    have hs : Mp.same A C = false := by cases hh : Mp.same A C with | false => rfl | true => exact absurd (congrArg Pk.clean ((Mp.same_iff _ _).1 hh)) h11
    rw [f0] at HE1
    rw [f1] at HE2
    have HS := hid hs
    clear hs h0 h1 h2 h3 h4 h5 h6 h7 h8 h9 h10 h11 f0 f1
    go_enter Try.func15, Try.ntmps15
    go_upto_region 1 with (fail)
    rw [← HW.out]
    clear HW
    go_wp2_with (first | (go_at_call 27; refine HE1.out.mono ?_; rintro e w2 ⟨rfl, m1, rfl⟩) | (go_at_call 28; refine (HE2.out _).mono ?_; rintro e w3 ⟨rfl, m2, rfl⟩) | fail)
    go_ret
    rw [HS.out]
    exact ⟨rfl, below_drewN' HT.out.below _⟩
  have f0 : decide (A.names = C.names) = true := decide_eq_true h0
  have f1 : decide (A.codes = C.codes) = true := decide_eq_true h1
  have f2 : (A.kind == C.kind) = true := by rw [beq_iff_eq]; exact h2
  have f3 : (A.flags == C.flags) = true := by rw [beq_iff_eq]; exact h3
  have f4 : (A.id == C.id) = true := by rw [beq_iff_eq]; exact h4
  have f5 : (A.code == C.code) = true := by rw [beq_iff_eq]; exact h5
  have f6 : ((str A.name).toList == (str C.name).toList) = true := by rw [str_toList, str_toList, beq_iff_eq]; exact h6
  have f7 : ((str A.text).toList == (str C.text).toList) = true := by rw [str_toList, str_toList, beq_iff_eq]; exact h7
  have f8 : (A.keep == C.keep) = true := by rw [beq_iff_eq]; exact h8
  have f9 : (A.will == C.will) = true := by rw [beq_iff_eq]; exact h9
  have f10 : ((str A.topic).toList == (str C.topic).toList) = true := by rw [str_toList, str_toList, beq_iff_eq]; exact h10
  have f11 : (A.clean == C.clean) = true := by rw [beq_iff_eq]; exact h11
  have hs : Mp.same A C = true := (Mp.same_iff _ _).2 (by cases A; cases C; simp_all)
  rw [f0] at HE1
  rw [f1] at HE2
  have HS := hid hs
  clear hs h0 h1 h2 h3 h4 h5 h6 h7 h8 h9 h10 h11 f0 f1
  go_enter Try.func15, Try.ntmps15
  go_upto_region 1 with (fail)
  rw [← HW.out]
  clear HW
  go_wp2_with (first | (go_at_call 27; refine HE1.out.mono ?_; rintro e w2 ⟨rfl, m1, rfl⟩) | (go_at_call 28; refine (HE2.out _).mono ?_; rintro e w3 ⟨rfl, m2, rfl⟩) | fail)
  go_ret
  rw [HS.out]
  exact ⟨rfl, below_drewN' HT.out.below _⟩
end Go.Proofs.Ytnljmllkfmgclaa
