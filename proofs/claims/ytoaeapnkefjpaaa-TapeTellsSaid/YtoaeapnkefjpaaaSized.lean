/-
  Arguments opened, with the bound on how many bytes each slice takes. Conditions: none beyond the lemmas'.
-/
import Derived.Test.YtoaeapnkefjpaaaTapeRows
import Derived.SizedLaws
namespace Go.Proofs.Ytoaeapnkefjpaaa
open Go.ChangeShapes Go.WideShapes Go.ChangeAt Go.RowKit
set_option linter.unusedVariables false
set_option linter.unusedSimpArgs false

theorem weightsAll_mem {H : Type} {P : Program} {e : TypeId} : ∀ {ds : List (DataW H)} {d : DataW H}, d ∈ ds → ∀ n ∈ d.weights P e, n ∈ DataW.weightsAll P e ds
  | [], d, h, n, hn => by simp at h
  | x :: r, d, h, n, hn => by
    rw [DataW.weightsAll]
    rcases List.mem_cons.1 h with rfl | h
    · exact List.mem_append.2 (.inl hn)
    · exact List.mem_append.2 (.inr (weightsAll_mem h n hn))
theorem bytes5 : Try.prog.bytesOf 5 = 1 := by kernel_rfl
set_option maxRecDepth 100000 in
theorem in_bytes_sized {H : Type} {enc : TypeId × Value → H} {W : World} {base : Nat} {held : Bool} {fuel : Nat} {v : Value} {y : DataW H × List MemPlace} (h : DataW.trod enc Try.prog W base (fun _ => true) held fuel 23 [v] = some y) :
    ∃ l, Sees W v l ∧ ((∀ n ∈ y.1.weights Try.prog 23, n ≤ reachBytes) → l.length ≤ 140737488355328) := by
  rcases open_ints Try.underlying23 Try.underlying5 (by kernel_rfl) h with ⟨hcs, _⟩ | ⟨x, l, c, zs, hcs, _, hl, hm, hz, hy, hcell, hwz⟩
  · simp at hcs
    subst hcs
    exact ⟨[], Sees.nil W, fun _ => by simp⟩
  · simp at hcs
    subst hcs
    replace hz : zs.length = c := by simpa using hz
    obtain ⟨r, hrl, hr⟩ := sees_in (w := W) (a := some x) (len := l) (cap := c) (zs := zs) (.inr ⟨x, rfl, hl, hm, hz, hcell, hwz⟩)
    refine ⟨r, hr, fun hw => ?_⟩
    have h1 := hw ((((lits .u8 (zs.take l)).length + (lits .u8 (zs.drop l)).length) : Nat) * Try.prog.bytesOf 5) (by rw [hy]; rw [DataW.weights, Try.underlying23]; exact List.mem_cons_self ..)
    rw [bytes5] at h1
    simp only [lits, List.length_map, List.length_take, List.length_drop, reachBytes] at h1
    omega
set_option maxRecDepth 100000 in
theorem in_elems_sized {H : Type} {enc : TypeId × Value → H} {W : World} {base : Nat} {sp : Nat → Bool} {held : Bool} {t e : TypeId} {n : Nat} {a : Option Addr} {len cap : Nat} {d : DataW H} {p : List MemPlace} (ht : Try.prog.underlying t = some (.slice e)) (hc : Try.prog.cellsOf e = n) (hn : 0 < n)
    (h : DataW.Trod enc Try.prog W base sp held t (Value.slice a len cap) d p) :
    (len ≤ cap ∧ cap ≤ maxLen) ∧ (0 < len → ∃ g off, a = some ⟨g, off, none⟩ ∧ ∀ i, i < len → ∃ (cs : List Value) (fuel : Nat) (y : DataW H × List MemPlace), cs.length = n ∧ (∀ j v, cs[j]? = some v → W.cell? ⟨g, off + i * n + j, none⟩ = some v) ∧ DataW.trod enc Try.prog W base sp held fuel e cs = some y ∧ ∀ n ∈ y.1.weights Try.prog e, n ∈ d.weights Try.prog t) := by
  obtain ⟨fuel, hf⟩ := h
  rcases Deep.open_slice ht hf with ⟨hcs, _⟩ | ⟨x, l, c, m, k, D, Pl, hcs, _, hl, hm, hmm, hd, hx⟩
  · simp [Value.cells] at hcs
    obtain ⟨rfl, rfl, rfl⟩ := hcs
    exact ⟨⟨Nat.le_refl _, Nat.zero_le _⟩, fun h => absurd h (by omega)⟩
  · simp [Value.cells] at hcs
    obtain ⟨rfl, rfl, rfl⟩ := hcs
    refine ⟨⟨hl, hm⟩, fun h0 => ?_⟩
    have hlm : len ≤ m := by rw [hmm]; split <;> omega
    have hde : d = .slice ((List.range len).map D) ((List.range (m - len)).map fun j => D (len + j)) := (Prod.mk.inj hd).1
    have key : ∀ i, i < len → ∃ (cs : List Value) (fuel : Nat) (y : DataW H × List MemPlace), cs.length = n ∧ (∀ j, (hj : j < cs.length) → W.cell? ((x.add (i * n)).add j) = some cs[j]) ∧ DataW.trod enc Try.prog W base sp held fuel e cs = some y ∧ ∀ n ∈ y.1.weights Try.prog e, n ∈ d.weights Try.prog t := by
      intro i hi
      obtain ⟨cs', h1, h2⟩ := hx i (by omega)
      rw [hc] at h1
      obtain ⟨_, hlen, hcell⟩ := World.cells?_some h1
      refine ⟨cs', k, _, hlen, fun j hj => (hcell j (by omega)).trans (List.getElem?_eq_getElem hj), h2, fun q hq => ?_⟩
      rw [hde, DataW.weights, ht]
      refine List.mem_cons_of_mem _ (List.mem_append.2 (.inl (weightsAll_mem (d := D i) ?_ q hq)))
      exact List.mem_map.2 ⟨i, List.mem_range.2 hi, rfl⟩
    obtain ⟨g, off, spot⟩ := x
    obtain ⟨cs, _, _, hlen, h1, -⟩ := key 0 h0
    have hs : spot = none := by simpa [Addr.add] using World.cell?_spot (h1 0 (by omega))
    subst hs
    refine ⟨g, off, rfl, fun i hi => ?_⟩
    obtain ⟨cs, fu, y, hlen, h1, h2, h3⟩ := key i hi
    refine ⟨cs, fu, y, hlen, fun j v hj => ?_, h2, h3⟩
    have hjl := (List.getElem?_eq_some_iff.1 hj).1
    have := h1 j hjl
    rw [add_off, add_off] at this
    rw [this, ← hj, List.getElem?_eq_getElem hjl]
set_option maxRecDepth 100000 in
theorem in_recs_sized {H : Type} {enc : TypeId × Value → H} {W : World} {base : Nat} {held : Bool} {a : Option Addr} {len cap : Nat} {d : DataW H} {p : List MemPlace} (h : DataW.Trod enc Try.prog W base (fun _ => true) held 45 (Value.slice a len cap) d p)
    (hw : ∀ n ∈ d.weights Try.prog 45, n ≤ reachBytes) :
    ∃ L, L.length = len ∧ Shows W (.slice a len cap) L ∧ ∀ r ∈ L, r.length ≤ 140737488355328 := by
  obtain ⟨⟨h1, h2⟩, h3⟩ := in_elems_sized (n := 1) Try.underlying45 (by kernel_rfl) (by omega) h
  by_cases h0 : 0 < len
  · obtain ⟨g, off, rfl, hx⟩ := h3 h0
    obtain ⟨L, hl, hL⟩ := list_of (P := fun i r => (∃ u, W.cell? ⟨g, off + i, none⟩ = some u ∧ Sees W u r) ∧ r.length ≤ 140737488355328) len (fun i hi => by
      obtain ⟨cs, fu, y, hlen, hcell, hy, hz⟩ := hx i hi
      obtain ⟨v, rfl⟩ := list1 hlen
      obtain ⟨l, hs, hb⟩ := in_bytes_sized hy
      have := hcell 0 v rfl
      rw [Nat.mul_one, Nat.add_zero] at this
      exact ⟨l, ⟨v, this, hs⟩, hb (fun n hn => hw n (hz n hn))⟩)
    refine ⟨L, hl, ⟨_, cap, by rw [hl], by omega, h2, fun _ => ⟨g, off, rfl, fun i r hr => (hL i r hr).1⟩⟩, fun r hr => ?_⟩
    obtain ⟨i, hi⟩ := List.getElem?_of_mem hr
    exact (hL i r hi).2
  · have : len = 0 := by omega
    subst this
    exact ⟨[], rfl, ⟨a, cap, rfl, Nat.zero_le _, h2, fun h => by simp at h⟩, fun r hr => by simp at hr⟩
end Go.Proofs.Ytoaeapnkefjpaaa
