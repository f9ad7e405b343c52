/-
  A list of records, opened as an argument. Conditions: none beyond the lemmas'.
-/
import Derived.Test.YtoaeapnkefjpaaaElems
import Derived.Test.YtoaeapnkefjpaaaTapeW
namespace Go.Proofs.Ytoaeapnkefjpaaa
open Go.ChangeShapes Go.WideShapes Go.ChangeAt Go.RowKit
set_option linter.unusedVariables false
set_option linter.unusedSimpArgs false
theorem list_of {α : Type} {P : Nat → α → Prop} : ∀ (n : Nat), (∀ i, i < n → ∃ x, P i x) → ∃ L : List α, L.length = n ∧ ∀ i x, L[i]? = some x → P i x
  | 0, _ => ⟨[], rfl, fun i x h => by simp at h⟩
  | n + 1, h => by
    obtain ⟨L, hl, hp⟩ := list_of n (fun i hi => h i (by omega))
    obtain ⟨x, hx⟩ := h n (by omega)
    refine ⟨L ++ [x], by simp [hl], fun i y hy => ?_⟩
    by_cases hi : i < n
    · rw [List.getElem?_append_left (by omega)] at hy
      exact hp i y hy
    · have hlt := (List.getElem?_eq_some_iff.1 hy).1
      simp only [List.length_append, List.length_cons, List.length_nil] at hlt
      have : i = n := by omega
      subst this
      rw [List.getElem?_append_right (by omega), hl, Nat.sub_self] at hy
      simp only [List.getElem?_cons_zero, Option.some.injEq] at hy
      exact hy ▸ hx
set_option maxRecDepth 100000 in
theorem in_bytes {H : Type} {enc : TypeId × Value → H} {W : World} {base : Nat} {held : Bool} {fuel : Nat} {v : Value} {y : DataW H × List MemPlace} (h : DataW.trod enc Try.prog W base (fun _ => true) held fuel 23 [v] = some y) : ∃ l, Sees W v l := by
  rcases open_ints Try.underlying23 Try.underlying5 (by kernel_rfl) h with ⟨hcs, _⟩ | ⟨x, l, c, zs, hcs, _, hl, hm, hz, _, hcell, hwz⟩
  · simp at hcs
    subst hcs
    exact ⟨[], Sees.nil W⟩
  · simp at hcs
    subst hcs
    obtain ⟨r, -, hr⟩ := sees_in (w := W) (a := some x) (len := l) (cap := c) (zs := zs) (.inr ⟨x, rfl, hl, hm, by simpa using hz, hcell, hwz⟩)
    exact ⟨r, hr⟩
set_option maxRecDepth 100000 in
theorem in_recs {H : Type} {enc : TypeId × Value → H} {W : World} {base : Nat} {held : Bool} {a : Option Addr} {len cap : Nat} {d : DataW H} {p : List MemPlace} (h : DataW.Trod enc Try.prog W base (fun _ => true) held 45 (Value.slice a len cap) d p) :
    ∃ L, L.length = len ∧ Shows W (.slice a len cap) L := by
  obtain ⟨⟨h1, h2⟩, h3⟩ := in_elems (n := 1) Try.underlying45 (by kernel_rfl) (by omega) h
  by_cases h0 : 0 < len
  · obtain ⟨g, off, rfl, hx⟩ := h3 h0
    obtain ⟨L, hl, hL⟩ := list_of (P := fun i r => ∃ u, W.cell? ⟨g, off + i, none⟩ = some u ∧ Sees W u r) len (fun i hi => by
      obtain ⟨cs, fu, y, hlen, hcell, hy⟩ := hx i hi
      obtain ⟨v, rfl⟩ := list1 hlen
      obtain ⟨l, hs⟩ := in_bytes hy
      have := hcell 0 v rfl
      rw [Nat.mul_one, Nat.add_zero] at this
      exact ⟨l, v, this, hs⟩)
    exact ⟨L, hl, _, cap, by rw [hl], by omega, h2, fun _ => ⟨g, off, rfl, hL⟩⟩
  · have : len = 0 := by omega
    subst this
    exact ⟨[], rfl, a, cap, rfl, Nat.zero_le _, h2, fun h => by simp at h⟩
end Go.Proofs.Ytoaeapnkefjpaaa
