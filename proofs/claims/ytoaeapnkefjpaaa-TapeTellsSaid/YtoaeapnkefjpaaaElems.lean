/-
  A slice whose elements have several cells, opened as an argument. Conditions: none beyond the lemmas'.
-/
import Derived.Test.YtoaeapnkefjpaaaTwo
import Derived.Test.YtoaeapnkefjpaaaMem
import Derived.Deep.Slices
namespace Go.Proofs.Ytoaeapnkefjpaaa
open Go.ChangeShapes Go.WideShapes Go.ChangeAt Go.RowKit
set_option linter.unusedVariables false
set_option linter.unusedSimpArgs false
set_option maxRecDepth 100000 in
theorem in_elems {H : Type} {enc : TypeId × Value → H} {W : World} {base : Nat} {sp : Nat → Bool} {held : Bool} {t e : TypeId} {n : Nat} {a : Option Addr} {len cap : Nat} {d : DataW H} {p : List MemPlace} (ht : Try.prog.underlying t = some (.slice e)) (hc : Try.prog.cellsOf e = n) (hn : 0 < n)
    (h : DataW.Trod enc Try.prog W base sp held t (Value.slice a len cap) d p) :
    (len ≤ cap ∧ cap ≤ maxLen) ∧ (0 < len → ∃ g off, a = some ⟨g, off, none⟩ ∧ ∀ i, i < len → ∃ (cs : List Value) (fuel : Nat) (y : DataW H × List MemPlace), cs.length = n ∧ (∀ j v, cs[j]? = some v → W.cell? ⟨g, off + i * n + j, none⟩ = some v) ∧ DataW.trod enc Try.prog W base sp held fuel e cs = some y) := by
  obtain ⟨fuel, hf⟩ := h
  rcases Deep.open_slice ht hf with ⟨hcs, _⟩ | ⟨x, l, c, m, k, D, Pl, hcs, _, hl, hm, hmm, _, hx⟩
  · simp [Value.cells] at hcs
    obtain ⟨rfl, rfl, rfl⟩ := hcs
    exact ⟨⟨Nat.le_refl _, Nat.zero_le _⟩, fun h => absurd h (by omega)⟩
  · simp [Value.cells] at hcs
    obtain ⟨rfl, rfl, rfl⟩ := hcs
    refine ⟨⟨hl, hm⟩, fun h0 => ?_⟩
    have hlm : len ≤ m := by rw [hmm]; split <;> omega
    have key : ∀ i, i < len → ∃ (cs : List Value) (fuel : Nat) (y : DataW H × List MemPlace), cs.length = n ∧ (∀ j, (hj : j < cs.length) → W.cell? ((x.add (i * n)).add j) = some cs[j]) ∧ DataW.trod enc Try.prog W base sp held fuel e cs = some y := by
      intro i hi
      obtain ⟨cs', h1, h2⟩ := hx i (by omega)
      rw [hc] at h1
      obtain ⟨_, hlen, hcell⟩ := World.cells?_some h1
      exact ⟨cs', k, _, hlen, fun j hj => (hcell j (by omega)).trans (List.getElem?_eq_getElem hj), h2⟩
    obtain ⟨g, off, spot⟩ := x
    obtain ⟨cs, _, _, hlen, h1, -⟩ := key 0 h0
    have hs : spot = none := by simpa [Addr.add] using World.cell?_spot (h1 0 (by omega))
    subst hs
    refine ⟨g, off, rfl, fun i hi => ?_⟩
    obtain ⟨cs, fu, y, hlen, h1, h2⟩ := key i hi
    refine ⟨cs, fu, y, hlen, fun j v hj => ?_, h2⟩
    have hjl := (List.getElem?_eq_some_iff.1 hj).1
    have := h1 j hjl
    rw [add_off, add_off] at this
    rw [this, ← hj, List.getElem?_eq_getElem hjl]
/-- A struct of five fields of one cell each. -/
theorem list5 {cs : List Value} (h : cs.length = 5) : ∃ a b c d e, cs = [a, b, c, d, e] := by
  match cs, h with
  | [a, b, c, d, e], _ => exact ⟨a, b, c, d, e, rfl⟩
theorem list4 {cs : List Value} (h : cs.length = 4) : ∃ a b c d, cs = [a, b, c, d] := by
  match cs, h with
  | [a, b, c, d], _ => exact ⟨a, b, c, d, rfl⟩
theorem list1 {cs : List Value} (h : cs.length = 1) : ∃ a, cs = [a] := by
  match cs, h with
  | [a], _ => exact ⟨a, rfl⟩
/-- A byte that came in. -/
theorem byte_of {n : Int} (h : (Lit.int .u8 n).wf = true) : ∃ c : UInt8, n = (c.toNat : Int) := by
  simp only [Lit.wf, IntKind.min, IntKind.max, IntKind.signed, IntKind.bits, Bool.and_eq_true, decide_eq_true_eq] at h
  have h1 : 0 ≤ n ∧ n ≤ 255 := by simpa using h
  exact ⟨UInt8.ofNat n.toNat, by rw [UInt8.toNat_ofNat_of_lt' (by simp [UInt8.size]; omega)]; omega⟩
set_option maxRecDepth 100000 in
/-- A script of the drum's that came in. -/
theorem in_calls3 {H : Type} {enc : TypeId × Value → H} {W : World} {base : Nat} {sp : Nat → Bool} {held : Bool} {a : Option Addr} {len cap : Nat} {d : DataW H} {p : List MemPlace} (h : DataW.Trod enc Try.prog W base sp held 81 (Value.slice a len cap) d p) :
    len ≤ 9223372036854775807 ∧ (0 < len → ∃ g off, a = some ⟨g, off, none⟩ ∧ ∀ i, i < len → ∃ (k a n : Int) (c : UInt8) (s : Bool), W.cell? ⟨g, off + i * 5, none⟩ = some (.int .i64 k) ∧ W.cell? ⟨g, off + i * 5 + 1, none⟩ = some (.int .i64 a) ∧ W.cell? ⟨g, off + i * 5 + 2, none⟩ = some (.int .i64 n) ∧ W.cell? ⟨g, off + i * 5 + 3, none⟩ = some (B c) ∧ W.cell? ⟨g, off + i * 5 + 4, none⟩ = some (.bool s) ∧
    (-9223372036854775808 ≤ a ∧ a ≤ 9223372036854775807) ∧ (-9223372036854775808 ≤ n ∧ n ≤ 9223372036854775807)) := by
  have c3 : Try.prog.cellsOf 3 = 1 := by kernel_rfl
  have c4 : Try.prog.cellsOf 4 = 1 := by kernel_rfl
  have c5 : Try.prog.cellsOf 5 = 1 := by kernel_rfl
  obtain ⟨⟨h1, h2⟩, h3⟩ := in_elems (n := 5) Try.underlying81 (by kernel_rfl) (by omega) h
  refine ⟨by unfold maxLen at h2; omega, fun h0 => ?_⟩
  obtain ⟨g, off, rfl, hx⟩ := h3 h0
  refine ⟨g, off, rfl, fun i hi => ?_⟩
  obtain ⟨cs, fu, y, hlen, hcell, hy⟩ := hx i hi
  obtain ⟨v0, v1, v2, v3, v4, rfl⟩ := list5 hlen
  obtain ⟨xs, k, -, -, -, hxl, hxx⟩ := DataW.trod_struct Try.underlying83 hy
  have g0 : DataW.trod enc Try.prog W base sp held k 3 (([v0, v1, v2, v3, v4].drop 0).take (Try.prog.cellsOf 3)) = xs[0]? := hxx 0 _ rfl
  have g1 : DataW.trod enc Try.prog W base sp held k 3 (([v0, v1, v2, v3, v4].drop 1).take (Try.prog.cellsOf 3)) = xs[1]? := hxx 1 _ rfl
  have g2 : DataW.trod enc Try.prog W base sp held k 3 (([v0, v1, v2, v3, v4].drop 2).take (Try.prog.cellsOf 3)) = xs[2]? := hxx 2 _ rfl
  have g3 : DataW.trod enc Try.prog W base sp held k 5 (([v0, v1, v2, v3, v4].drop 3).take (Try.prog.cellsOf 5)) = xs[3]? := hxx 3 _ rfl
  have g4 : DataW.trod enc Try.prog W base sp held k 4 (([v0, v1, v2, v3, v4].drop 4).take (Try.prog.cellsOf 4)) = xs[4]? := hxx 4 _ rfl
  replace hxl : xs.length = 5 := hxl
  simp only [c3, c4, c5] at g0 g1 g2 g3 g4
  rw [List.getElem?_eq_getElem (by omega)] at g0 g1 g2 g3 g4
  simp at g0 g1 g2 g3 g4
  obtain ⟨n0, e0, -, w0⟩ := DataW.trod_int Try.underlying3 g0
  obtain ⟨n1, e1, -, w1⟩ := DataW.trod_int Try.underlying3 g1
  obtain ⟨n2, e2, -, w2⟩ := DataW.trod_int Try.underlying3 g2
  obtain ⟨n3, e3, -, w3⟩ := DataW.trod_int Try.underlying5 g3
  obtain ⟨n4, e4, -⟩ := DataW.trod_bool Try.underlying4 g4
  simp at e0 e1 e2 e3 e4
  subst e0 e1 e2 e3 e4
  obtain ⟨c, rfl⟩ := byte_of w3
  exact ⟨n0, n1, n2, c, n4, hcell 0 _ rfl, hcell 1 _ rfl, hcell 2 _ rfl, hcell 3 _ rfl, hcell 4 _ rfl, bounds_i64 w1, bounds_i64 w2⟩
end Go.Proofs.Ytoaeapnkefjpaaa
