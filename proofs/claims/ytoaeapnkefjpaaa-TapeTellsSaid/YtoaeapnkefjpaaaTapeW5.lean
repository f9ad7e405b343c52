/-
  Rows of bytes whose cells are set from outside. Conditions: those that each lemma names.
-/
import Derived.Test.YtoaeapnkefjpaaaTapeW4
namespace Go.Proofs.Ytoaeapnkefjpaaa
open Go.RowKit
set_option linter.unusedVariables false
set_option linter.unusedSimpArgs false

/-- A row of bytes of one's own, of so many bytes, whatever they are. -/
def Loose (w : World) (base : Nat) (u : Value) (n : Nat) : Prop := ∃ bs : List UInt8, bs.length = n ∧ w.ownsRow base 5 1 u n (bs.map B)
theorem Loose.set {w : World} {base : Nat} {u : Value} {n : Nat} (h : Loose w base u n) (g j : Nat) (c : UInt8) : Loose (w.setCell ⟨g, j, none⟩ (B c)) base u n := by
  obtain ⟨bs, hl, h1, h2⟩ := h
  rcases h2 with ⟨rfl, h0⟩ | ⟨g', cap, cur, rfl, hb, hg, hnc, hcm, hcs, ht⟩
  · exact ⟨bs, hl, h1, .inl ⟨rfl, h0⟩⟩
  · by_cases e : g' = g
    · subst e
      refine ⟨bs.set j c, by rw [List.length_set]; exact hl, by simpa using h1, .inr ⟨g', cap, cur.setIfInBounds j (B c), rfl, hb, heap_setCell_same w g' j cur 5 (B c) hg, hnc, hcm, by simpa using hcs, ?_⟩⟩
      rw [Array.toList_setIfInBounds, List.take_set, ht, ← List.map_set]
    · exact ⟨bs, hl, h1, .inr ⟨g', cap, cur, rfl, hb, (heap_setCell_other w ⟨g, j, none⟩ g' _ e).trans hg, hnc, hcm, hcs, ht⟩⟩
/-- Records whose bytes are overwritten. -/
structure LooseRecs (w : World) (base : Nat) (v : Value) (vs : List Value) (L : List (List UInt8)) : Prop where
  row : w.ownsRow base 23 1 v L.length vs
  len : vs.length = L.length
  each : ∀ (i : Nat) (u : Value) (r : List UInt8), vs[i]? = some u → L[i]? = some r → Loose w base u r.length ∧ ∀ k, u.ownBlock = some k → v.ownBlock ≠ some k
theorem LooseRecs.of {w : World} {base : Nat} {v : Value} {vs : List Value} {pb : Nat → Prop} {L : List (List UInt8)} (h : RecsIn w base v vs pb L) : LooseRecs w base v vs L :=
  ⟨h.row, h.len, fun i u r hu hr => ⟨⟨r, rfl, (h.each i u r hu hr).1⟩, fun k hk e => h.out k e ((h.each i u r hu hr).2 k hk)⟩⟩
theorem LooseRecs.set {w : World} {base : Nat} {v : Value} {vs : List Value} {L : List (List UInt8)} (h : LooseRecs w base v vs L) {g : Nat} (hg : v.ownBlock ≠ some g) (j : Nat) (c : UInt8) : LooseRecs (w.setCell ⟨g, j, none⟩ (B c)) base v vs L :=
  ⟨own_setCell_other h.row (a := ⟨g, j, none⟩) hg _, h.len, fun i u r hu hr => ⟨(h.each i u r hu hr).1.set g j c, (h.each i u r hu hr).2⟩⟩
theorem LooseRecs.at {w : World} {base : Nat} {ao : Option Addr} {n co : Nat} {vs : List Value} {L : List (List UInt8)} (h : LooseRecs w base (.slice ao n co) vs L) {i : Nat} {r : List UInt8} (hr : L[i]? = some r) :
    ∃ G u, ao = some ⟨G, 0, none⟩ ∧ vs[i]? = some u ∧ w.cell? ⟨G, i, none⟩ = some u ∧ Loose w base u r.length ∧ (∀ k, u.ownBlock = some k → (Value.slice ao n co).ownBlock ≠ some k ∧ base ≤ k) := by
  have hi := (List.getElem?_eq_some_iff.1 hr).1
  obtain ⟨u, hu⟩ : ∃ u, vs[i]? = some u := ⟨_, List.getElem?_eq_getElem (by rw [h.len]; exact hi)⟩
  have hrow := h.row
  obtain ⟨G, cp, hv, h1, h2, h3, h4⟩ := own_slice h.row (by omega)
  simp only [Value.slice.injEq] at hv
  obtain ⟨rfl, rfl, rfl⟩ := hv
  obtain ⟨hl, ho⟩ := h.each i u r hu hr
  refine ⟨G, u, rfl, hu, own_cell hrow hu, hl, fun k hk => ⟨ho k hk, ?_⟩⟩
  obtain ⟨bs, _, hb⟩ := hl
  exact (own_lt hb k hk).1
theorem Loose.at {w : World} {base : Nat} {ao : Option Addr} {n m co : Nat} (h : Loose w base (.slice ao m co) n) {j : Nat} (hj : j < n) : ∃ g c, ao = some ⟨g, 0, none⟩ ∧ n ≤ co ∧ w.cell? ⟨g, j, none⟩ = some (B c) ∧ w.frozen? ⟨g, j, none⟩ = false := by
  obtain ⟨bs, hl, hb⟩ := h
  obtain ⟨g, cp, hv, h1, -⟩ := own_slice hb (by omega)
  simp only [Value.slice.injEq] at hv
  obtain ⟨rfl, rfl, rfl⟩ := hv
  exact ⟨g, bs[j]'(by omega), rfl, h1, own_cell hb (by rw [List.getElem?_map, List.getElem?_eq_getElem (by omega)]; rfl), own_frozen hb j⟩
theorem Loose.form {w : World} {base : Nat} {u : Value} {n : Nat} (h : Loose w base u n) : ∃ ao co, u = .slice ao n co := by
  obtain ⟨bs, hl, hb⟩ := h
  exact own_form hb
theorem St.keepBelow {w0 w w' : World} {own : Nat → Prop} {p : Nat} {D : DS} {n : Nat} (h : St w0 own p D w) (ho : ∀ k, own k → k < n) (hw : w0.heap.size ≤ n) (hb : Below n w w') : St w0 own p D w' :=
  ⟨h.at'.keep (fun k hk => hb.block k (ho k hk)) hb.size, h.fresh, h.below.trans (hb.mono hw)⟩
end Go.Proofs.Ytoaeapnkefjpaaa
