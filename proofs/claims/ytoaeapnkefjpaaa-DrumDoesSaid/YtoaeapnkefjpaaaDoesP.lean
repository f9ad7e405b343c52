/-
  DrumDoes: Call.page: a write's bytes. Conditions: none.
-/
import Derived.Test.YtoaeapnkefjpaaaRefP8
namespace Go.Proofs.Ytoaeapnkefjpaaa
open Go.RowKit
set_option linter.unusedVariables false
set_option linter.unusedSimpArgs false

/-- The first j bytes laid. -/
def partG (f : Nat → UInt8) (j : Nat) : List UInt8 := (List.range 256).map fun i => if i < j then f i else 0
theorem partG_len (f : Nat → UInt8) (j : Nat) : (partG f j).length = 256 := by simp [partG]
theorem partG_set (f : Nat → UInt8) (j : Nat) (hj : j < 256) : (partG f j).set j (f j) = partG f (j + 1) := by
  apply List.ext_getElem?
  intro i
  unfold partG
  by_cases hi : i < 256
  · by_cases e : j = i
    · subst e
      simp [hi]
    · simp only [List.getElem?_set, e, if_false, List.getElem?_map, List.getElem?_range, hi, Option.map_some]
      congr 1
      by_cases h2 : i < j
      · rw [if_pos h2, if_pos (by omega)]
      · rw [if_neg h2, if_neg (by omega)]
  · simp [hi]
/-- A write's byte. -/
def byteAt (c : UInt8) (j : Nat) : UInt8 := c + UInt8.ofNat (j % 7)
def pageOf (c : UInt8) (short : Bool) : List UInt8 := if short then (partG (byteAt c) 256).take 255 else partG (byteAt c) 256
theorem byteAt_val (c : UInt8) (j : Nat) : ((byteAt c j).toNat : Int) = (((c.toNat : Int) + ((j % 7 : Nat) : Int)) % 256) := by
  unfold byteAt
  rw [UInt8.toNat_add, UInt8.toNat_ofNat']
  have := c.toNat_lt
  omega
theorem own_rebase {w : World} {b b' : Nat} {e : TypeId} {size n : Nat} {v : Value} {xs : List Value} (h : w.ownsRow b e size v n xs) (hb : ∀ k, v.ownBlock = some k → b' ≤ k) : w.ownsRow b' e size v n xs := by
  refine ⟨h.1, ?_⟩
  rcases h.2 with h0 | ⟨g, cap, cur, rfl, _, r⟩
  · exact .inl h0
  · exact .inr ⟨g, cap, cur, rfl, hb g rfl, r⟩
/-- A row's beginning. -/
theorem own_prefix {w : World} {base : Nat} {e : TypeId} {n g cap m : Nat} {xs : List Value} (h : w.ownsRow base e 1 (.slice (some ⟨g, 0, none⟩) n cap) n xs) (hm : m ≤ n) : w.ownsRow base e 1 (.slice (some ⟨g, 0, none⟩) m cap) m (xs.take m) := by
  obtain ⟨h1, h2⟩ := h
  refine ⟨by rw [List.length_take]; omega, ?_⟩
  rcases h2 with ⟨h0, _⟩ | ⟨g', cap', cur, hv, hb, hg, hnc, hcm, hcs, ht⟩
  · cases h0
  · simp only [Value.slice.injEq, Option.some.injEq, Addr.mk.injEq] at hv
    obtain ⟨⟨rfl, _⟩, _, rfl⟩ := hv
    refine .inr ⟨g, cap, cur, rfl, hb, hg, by omega, hcm, hcs, ?_⟩
    rw [← ht, List.take_take]
    congr 1
    omega
set_option maxRecDepth 100000 in
set_option maxHeartbeats 800000 in
theorem page_any (w : World) (k a n : Int) (c : UInt8) (s : Bool) : Calls Try.prog 62 #[.agg #[I k, I a, I n, B c, .bool s]] w (Fresh w (pageOf c s)) := by
  obtain ⟨i5, hi, hz, hs, hb⟩ := info_parts info5'
  have hmk := fun w => run_makeSlice (P := Try.prog) w 23 5 i5 _ Try.underlying23 hi hz .i64 .i64 256 256 (by omega) (by omega) (by rw [hs]; decide) (by rw [hb]; decide) (by omega)
  rw [hs] at hmk
  have hcells : madeCells (Value.int .u8 0).cells ((256 : Int).toNat * 1) = ((partG (byteAt c) 0).map B).toArray := by kernel_rfl
  rw [hcells] at hmk
  have h0 : ∀ w : World, (w.alloc (.cells ((partG (byteAt c) 0).map B).toArray 5)).ownsRow w.heap.size 5 1 (.slice (some ⟨w.heap.size, 0, none⟩) 256 256) 256 ((partG (byteAt c) 0).map B) := fun w => by
    refine ⟨by rw [List.length_map, partG_len], .inr ⟨w.heap.size, 256, _, rfl, Nat.le_refl _, heap_alloc_new w _, Nat.le_refl _, by unfold maxLen; omega, by rw [List.size_toArray, List.length_map, partG_len], ?_⟩⟩
    rw [List.take_of_length_le (by rw [List.length_map, partG_len]; omega)]
  have H0 := hid h0
  clear hi hz hs hb hcells h0
  go_enter Try.func62, Try.ntmps62
  obtain ⟨z0, hz0⟩ : ∃ z, z = partG (byteAt c) 0 := ⟨_, rfl⟩
  rw [← hz0] at hmk H0
  have HZ0 := hid hz0
  clear hz0
  go_wp2
  obtain ⟨wa, hwa⟩ : ∃ wa, wa = w.alloc (.cells #[I k, I a, I n, B c, .bool s] 83) := ⟨_, rfl⟩
  have hz : wa.heap.size = w.heap.size + 1 := by rw [hwa]; simp
  have hba : Below w.heap.size w wa := by rw [hwa]; exact (Below.refl _ _).alloc (Nat.le_refl _) _
  have hca : wa.heap[w.heap.size]? = some (.cells #[I k, I a, I n, B c, .bool s] 83 (0, 0)) := by rw [hwa]; exact heap_alloc_new _ _
  rw [← hwa]
  have H0' := hid (H0.out wa)
  rw [hz] at H0'
  have HBA := hid hba
  have HCA := hid hca
  have HZ := hid hz
  clear hwa hz hba hca hmk H0
  go_loopw [8] (fun i wr => ∃ (j : Nat), j ≤ 256 ∧ i = I j ∧ Hid (wr.ownsRow (w.heap.size + 1) 5 1 (.slice (some ⟨w.heap.size + 1, 0, none⟩) 256 256) 256 ((partG (byteAt c) j).map B)) ∧ Hid (Below (w.heap.size + 1) wa wr)) (fun i _ => 256 - (intOf i).toNat)
  case atStart => exact ⟨0, by omega, rfl, by rw [← HZ0.out]; exact H0', hid ((Below.refl _ _).alloc (by rw [HZ.out]; exact Nat.le_refl _) _)⟩
  case round =>
    obtain ⟨j, hj, rfl, hO, hB⟩ := hrel
    have hblk : wr.heap[w.heap.size]? = some (.cells #[I k, I a, I n, B c, .bool s] 83 (0, 0)) := (hB.out.block _ (by omega)).trans HCA.out
    have c3 : wr.cell? ⟨w.heap.size, 3, none⟩ = some (B c) := by rw [cell_of_row wr _ _ _ _ _ hblk]; rfl
    have c4 : wr.cell? ⟨w.heap.size, 4, none⟩ = some (.bool s) := by rw [cell_of_row wr _ _ _ _ _ hblk]; rfl
    clear hblk
    by_cases hlt : j < 256
    · have hlen := partG_len (byteAt c) j
      have hcell := own_cell hO.out (i := j) (u := B (partG (byteAt c) j)[j]) (by rw [List.getElem?_map, List.getElem?_eq_getElem (by omega)]; rfl)
      have hfr := own_frozen hO.out j
      have hO' := own_set hO.out hlt (B (byteAt c j))
      rw [← List.map_set, partG_set _ j hlt] at hO'
      have HO := hid hO'
      have hv := byteAt_val c j
      have HV := hid hv
      have hcb := byte_bd c
      generalize (partG (byteAt c) j)[j] = u0 at *
      clear hO' hlen hv
      go_wp2
      have e : Value.int .u8 (((c.toNat : Int) + (j : Int) % 7) % 256) = B (byteAt c j) := by
        show _ = Value.int .u8 _
        rw [HV.out]
        congr 2
      rw [e]
      exact ⟨⟨j + 1, by omega, by go_num, HO, hid (hB.out.setCell (p := ⟨w.heap.size + 1, j, none⟩) (Nat.le_refl _) _)⟩, by simp [intOf]; omega⟩
    · obtain rfl : j = 256 := by omega
      have hBB : Below w.heap.size w wr := HBA.out.trans (hB.out.mono (by omega))
      have HBB := hid hBB
      clear hBB
      cases s
      all_goals
        go_wp2
        go_ret
        refine ⟨_, rfl, ?_, HBB.out⟩
        have h1 := hO.out
        refine own_rebase (b := w.heap.size + 1) ?_ (fun k hk => ?_)
        · first
          | exact own_len h1 (partG_len _ _).symm rfl
          | exact own_len (own_prefix h1 (m := 255) (by omega)) (by show 255 = ((partG (byteAt c) 256).take 255).length; rw [List.length_take, partG_len]; rfl) (by show _ = ((partG (byteAt c) 256).take 255).map B; rw [List.map_take])
        · have := (own_lt h1 k (by exact hk)).1; omega
end Go.Proofs.Ytoaeapnkefjpaaa
