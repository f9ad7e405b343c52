/-
  A slice of arrays of two ints, opened as an argument. Conditions: none beyond the lemma's.
-/
import Derived.Test.YtoaeapnkefjpaaaTwo
import Derived.Test.YtoaeapnkefjpaaaMem
import Derived.Deep.Slices
namespace Go.Proofs.Ytoaeapnkefjpaaa
open Go.ChangeShapes Go.WideShapes Go.ChangeAt Go.RowKit
set_option linter.unusedVariables false
set_option linter.unusedSimpArgs false
set_option maxRecDepth 100000 in
/-- A slice of such arrays that came in. -/
theorem in_pairs {H : Type} {enc : TypeId × Value → H} {W : World} {base : Nat} {sp : Nat → Bool} {held : Bool} {a : Option Addr} {len cap : Nat} {d : DataW H} {p : List MemPlace} (h : DataW.Trod enc Try.prog W base sp held 76 (Value.slice a len cap) d p) :
    len ≤ 9223372036854775807 ∧ (0 < len → ∃ g off, a = some ⟨g, off, none⟩ ∧ ∀ i, i < len → ∃ u v : Int, W.cell? ⟨g, off + i * 2, none⟩ = some (.int .i64 u) ∧ W.cell? ⟨g, off + i * 2 + 1, none⟩ = some (.int .i64 v) ∧ (-9223372036854775808 ≤ u ∧ u ≤ 9223372036854775807) ∧ -9223372036854775808 ≤ v ∧ v ≤ 9223372036854775807) := by
  have c29 : Try.prog.cellsOf 29 = 2 := by kernel_rfl
  have c3 : Try.prog.cellsOf 3 = 1 := by kernel_rfl
  obtain ⟨fuel, hf⟩ := h
  rcases Deep.open_slice Try.underlying76 hf with ⟨hcs, _⟩ | ⟨x, l, c, m, n, D, Pl, hcs, _, hl, hm, hmm, _, hx⟩
  · simp [Value.cells] at hcs
    obtain ⟨rfl, rfl, rfl⟩ := hcs
    exact ⟨by omega, fun h => absurd h (by omega)⟩
  · simp [Value.cells] at hcs
    obtain ⟨rfl, rfl, rfl⟩ := hcs
    refine ⟨by unfold maxLen at hm; omega, fun h0 => ?_⟩
    have hlm : len ≤ m := by rw [hmm]; split <;> omega
    have key : ∀ i, i < len → ∃ u v : Int, W.cell? (x.add (i * 2)) = some (.int .i64 u) ∧ W.cell? ((x.add (i * 2)).add 1) = some (.int .i64 v) ∧ (-9223372036854775808 ≤ u ∧ u ≤ 9223372036854775807) ∧ -9223372036854775808 ≤ v ∧ v ≤ 9223372036854775807 := by
      intro i hi
      obtain ⟨cs', h1, h2⟩ := hx i (by omega)
      rw [c29] at h1
      obtain ⟨_, hlen, hcell⟩ := World.cells?_some h1
      obtain ⟨xs, k, -, -, -, hxl, hxx⟩ := DataW.trod_array Try.underlying29 h2
      have hx0 := hxx 0 (by omega)
      have hx1 := hxx 1 (by omega)
      rw [c3] at hx0 hx1
      obtain ⟨y0, e0⟩ : ∃ y, xs[0]? = some y := ⟨_, List.getElem?_eq_getElem (by omega)⟩
      obtain ⟨y1, e1⟩ : ∃ y, xs[1]? = some y := ⟨_, List.getElem?_eq_getElem (by omega)⟩
      rw [e0] at hx0
      rw [e1] at hx1
      match cs', hlen with
      | [v0, v1], _ =>
        simp at hx0 hx1
        obtain ⟨u, eu, -, wu⟩ := DataW.trod_int Try.underlying3 hx0
        obtain ⟨v, ev, -, wv⟩ := DataW.trod_int Try.underlying3 hx1
        simp at eu ev
        subst eu ev
        have a0 := hcell 0 (by omega)
        have a1 := hcell 1 (by omega)
        have ez : ∀ y : Addr, y.add 0 = y := fun y => by unfold Addr.add; split <;> simp_all
        rw [ez] at a0
        exact ⟨u, v, a0, a1, bounds_i64 wu, bounds_i64 wv⟩
    obtain ⟨g, off, spot⟩ := x
    obtain ⟨u, v, h1, -⟩ := key 0 h0
    have hs : spot = none := by simpa [Addr.add] using World.cell?_spot h1
    subst hs
    refine ⟨g, off, rfl, fun i hi => ?_⟩
    obtain ⟨u, v, h1, h2, h3⟩ := key i hi
    rw [add_off] at h1 h2
    rw [add_off] at h2
    exact ⟨u, v, h1, h2, h3⟩
end Go.Proofs.Ytoaeapnkefjpaaa
