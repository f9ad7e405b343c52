/-
  THE PROGRAM: rest (14), what all kinds have in common; the small kinds. Conditions: those that each contract names.
-/
import Derived.Test.YtnljmllkfmgclaaMpacPK
import Derived.Test.YtnljmllkfmgclaaRegF
namespace Go.Proofs.Ytnljmllkfmgclaa
open Go.RowKit
set_option linter.unusedVariables false
set_option linter.unusedSimpArgs false

/-- Bytes just laid, as a row of one's own. -/
theorem own_new (w : World) (l : List UInt8) (hl : l.length ≤ maxLen) : (w.alloc (.cells (l.map B).toArray 5)).ownsRow w.heap.size 5 1 (.slice (some ⟨w.heap.size, 0, none⟩) l.length l.length) l.length (l.map B) :=
  ⟨by simp, .inr ⟨w.heap.size, l.length, (l.map B).toArray, rfl, Nat.le_refl _, heap_alloc_new _ _, Nat.le_refl _, hl, by simp, by simp; exact List.take_of_length_le (by simp)⟩⟩
/-- Behind the packet's box and the number's bytes. -/
structure Rest (w w2 : World) (P : Pk) (nv cv : Value) : Prop where
  pk : PIn w2 w.heap.size P nv cv
  idr : w2.ownsRow (w.heap.size + 1) 5 1 (.slice (some ⟨w.heap.size + 1, 0, none⟩) 2 2) 2 ((Mp.be2 P.id).map B)
  nv : SeesV w2 nv (P.names.map S)
  cv : SeesV w2 cv (P.codes.map I)
  below : Below w.heap.size w w2
  size : w2.heap.size = w.heap.size + 2
theorem rest_start {w : World} {P : Pk} {nv cv : Value} (hn : SeesV w nv (P.names.map S)) (hc : SeesV w cv (P.codes.map I)) :
    Rest w ((w.alloc (.cells (pkCells P nv cv) 25)).alloc (.cells #[B (Mp.b1 (P.id / 256)), B (Mp.b1 P.id)] 5)) P nv cv := by
  have hB : Below w.heap.size w ((w.alloc (.cells (pkCells P nv cv) 25)).alloc (.cells #[B (Mp.b1 (P.id / 256)), B (Mp.b1 P.id)] 5)) := ((Below.refl _ _).alloc (Nat.le_refl _) _).alloc (by simp) _
  have h1 := own_new (w.alloc (.cells (pkCells P nv cv) 25)) (Mp.be2 P.id) (by simp [Mp.be2, maxLen])
  rw [show (w.alloc (.cells (pkCells P nv cv) 25)).heap.size = w.heap.size + 1 by simp] at h1
  exact ⟨(Below.heap_alloc _ _ _ (by simp)).trans (heap_alloc_new _ _), h1, hn.below hB, hc.below hB, hB, by simp⟩
/-- What is laid later keeps what was there. -/
theorem Rest.on {w w2 w3 : World} {P : Pk} {nv cv : Value} (h : Rest w w2 P nv cv) (hb : Below (w.heap.size + 2) w2 w3) : PIn w3 w.heap.size P nv cv ∧ Below w.heap.size w w3 :=
  ⟨h.pk.keep (hb.block _ (by omega)), h.below.trans (hb.mono (by omega))⟩
theorem Rest.on1 {w w2 w3 : World} {P : Pk} {nv cv : Value} (h : Rest w w2 P nv cv) (hb : Below (w.heap.size + 1) w2 w3) : PIn w3 w.heap.size P nv cv ∧ Below w.heap.size w w3 :=
  ⟨h.pk.keep (hb.block _ (by omega)), h.below.trans (hb.mono (by omega))⟩
set_option maxRecDepth 100000 in
set_option maxHeartbeats 3200000 in
/-- Of a kind that has a number alone. -/
theorem rest_4 (w : World) (v : Value) (P : Pk) (h : PkV w v P) (hk : P.kind = 4 ∨ P.kind = 5 ∨ P.kind = 6 ∨ P.kind = 7 ∨ P.kind = 11) : Calls Try.prog 14 #[v] w (Fresh w (Mp.rest P)) := by
  obtain ⟨⟨nv, cv, rfl, hn, hc⟩, bn, bc⟩ := h
  have hr : Mp.rest P = Mp.be2 P.id := by
    unfold Mp.rest
    rw [if_neg (by omega), if_neg (by omega), if_neg (by omega), if_pos (by omega)]
  rw [hr]
  have hS := rest_start hn hc
  have e1 := b1_wrap (P.id / 256)
  have e2 := b1_wrap P.id
  generalize Mp.b1 (P.id / 256) = a at *
  generalize Mp.b1 P.id = c at *
  obtain ⟨w1, hw1⟩ : ∃ w1, w1 = w.alloc (.cells (pkCells P nv cv) 25) := ⟨_, rfl⟩
  obtain ⟨w2, hw2⟩ : ∃ w2, w2 = w1.alloc (.cells #[B a, B c] 5) := ⟨_, rfl⟩
  have c2 : w1.cell? ⟨w.heap.size, 2, none⟩ = some (I P.id) := by rw [hw1, cell_of_row _ _ _ _ _ _ (heap_alloc_new w _)]; rfl
  have hz : w1.heap.size = w.heap.size + 1 := by rw [hw1]; simp
  rw [← hw1, ← hw2] at hS
  have c0 : w2.cell? ⟨w.heap.size, 0, none⟩ = some (I P.kind) := hS.pk.cell 0
  have HW1 := hid hw1
  have HW2 := hid hw2
  have HS := hid hS
  clear hw1 hw2 hS hr
  rcases hk with hk | hk | hk | hk | hk
  all_goals
    rw [hk] at c0
    clear hk
    go_enter Try.func14, Try.ntmps14
    go_upto_region 2 with (fail)
    rw [← HW1.out]
    go_upto_region 3 with (fail)
    rw [← HW2.out]
    clear c2 e1 e2 hz HW1 HW2
    go_wp2
    go_ret
    exact ⟨_, rfl, own_anew HS.out.idr (fun k hk => by have := (own_lt HS.out.idr k hk).1; omega), HS.out.below⟩
set_option maxRecDepth 100000 in
set_option maxHeartbeats 3200000 in
/-- Of a kind that has nothing. -/
theorem rest_0 (w : World) (v : Value) (P : Pk) (h : PkV w v P) (hk : P.kind = 12 ∨ P.kind = 13 ∨ P.kind = 14) : Calls Try.prog 14 #[v] w (Fresh w (Mp.rest P)) := by
  obtain ⟨⟨nv, cv, rfl, hn, hc⟩, bn, bc⟩ := h
  have hr : Mp.rest P = [] := by
    unfold Mp.rest
    rw [if_neg (by omega), if_neg (by omega), if_neg (by omega), if_neg (by omega), if_neg (by omega)]
  rw [hr]
  have hS := rest_start hn hc
  have e1 := b1_wrap (P.id / 256)
  have e2 := b1_wrap P.id
  generalize Mp.b1 (P.id / 256) = a at *
  generalize Mp.b1 P.id = c at *
  obtain ⟨w1, hw1⟩ : ∃ w1, w1 = w.alloc (.cells (pkCells P nv cv) 25) := ⟨_, rfl⟩
  obtain ⟨w2, hw2⟩ : ∃ w2, w2 = w1.alloc (.cells #[B a, B c] 5) := ⟨_, rfl⟩
  have c2 : w1.cell? ⟨w.heap.size, 2, none⟩ = some (I P.id) := by rw [hw1, cell_of_row _ _ _ _ _ _ (heap_alloc_new w _)]; rfl
  have hz : w1.heap.size = w.heap.size + 1 := by rw [hw1]; simp
  rw [← hw1, ← hw2] at hS
  have c0 : w2.cell? ⟨w.heap.size, 0, none⟩ = some (I P.kind) := hS.pk.cell 0
  have HW1 := hid hw1
  have HW2 := hid hw2
  have HS := hid hS
  clear hw1 hw2 hS hr
  rcases hk with hk | hk | hk
  all_goals
    rw [hk] at c0
    clear hk
    go_enter Try.func14, Try.ntmps14
    go_upto_region 2 with (fail)
    rw [← HW1.out]
    go_upto_region 3 with (fail)
    rw [← HW2.out]
    clear c2 e1 e2 hz HW1 HW2
    go_wp2
    go_ret
    exact ⟨_, rfl, World.ownsRow_nil _ _ _ _, HS.out.below⟩
set_option maxRecDepth 100000 in
set_option maxHeartbeats 3200000 in
/-- Of the kind 2. -/
theorem rest_2 (w : World) (v : Value) (P : Pk) (h : PkV w v P) (hk : P.kind = 2) : Calls Try.prog 14 #[v] w (Fresh w (Mp.rest P)) := by
  obtain ⟨⟨nv, cv, rfl, hn, hc⟩, bn, bc⟩ := h
  have hr : Mp.rest P = [Mp.b1 P.keep, Mp.b1 P.code] := by
    unfold Mp.rest
    rw [if_neg (by omega), if_pos (by omega)]
  rw [hr]
  have hS := rest_start hn hc
  have e1 := b1_wrap (P.id / 256)
  have e2 := b1_wrap P.id
  generalize Mp.b1 (P.id / 256) = a at *
  generalize Mp.b1 P.id = c at *
  obtain ⟨w1, hw1⟩ : ∃ w1, w1 = w.alloc (.cells (pkCells P nv cv) 25) := ⟨_, rfl⟩
  obtain ⟨w2, hw2⟩ : ∃ w2, w2 = w1.alloc (.cells #[B a, B c] 5) := ⟨_, rfl⟩
  have c2 : w1.cell? ⟨w.heap.size, 2, none⟩ = some (I P.id) := by rw [hw1, cell_of_row _ _ _ _ _ _ (heap_alloc_new w _)]; rfl
  have hz : w1.heap.size = w.heap.size + 1 := by rw [hw1]; simp
  rw [← hw1, ← hw2] at hS
  have c0 : w2.cell? ⟨w.heap.size, 0, none⟩ = some (I P.kind) := hS.pk.cell 0
  have HW1 := hid hw1
  have HW2 := hid hw2
  have HS := hid hS
  clear hw1 hw2 hS hr
  have c6 : w2.cell? ⟨w.heap.size, 6, none⟩ = some (I P.keep) := HS.out.pk.cell 6
  have c3 : w2.cell? ⟨w.heap.size, 3, none⟩ = some (I P.code) := HS.out.pk.cell 3
  have e3 := b1_wrap P.keep
  have e4 := b1_wrap P.code
  generalize Mp.b1 P.keep = x at *
  generalize Mp.b1 P.code = y at *
  rw [hk] at c0
  clear hk
  go_enter Try.func14, Try.ntmps14
  go_upto_region 2 with (fail)
  rw [← HW1.out]
  go_upto_region 3 with (fail)
  rw [← HW2.out]
  clear c2 e1 e2 hz HW1 HW2
  go_wp2
  go_ret
  have h1 := own_new w2 [x, y] (by simp [maxLen])
  have hs2 := HS.out.size
  exact ⟨_, rfl, own_anew h1 (fun k hk => by have := (own_lt h1 k hk).1; omega), HS.out.below.alloc (by omega) _⟩
end Go.Proofs.Ytnljmllkfmgclaa
