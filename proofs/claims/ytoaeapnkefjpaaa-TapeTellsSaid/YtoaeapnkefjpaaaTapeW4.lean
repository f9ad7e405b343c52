/-
  THE TAPE'S LAWS: the list of records that a law gathers. Conditions: those that each lemma names.
-/
import Derived.Test.YtoaeapnkefjpaaaTapeClearsW
namespace Go.Proofs.Ytoaeapnkefjpaaa
open Go.RowKit
set_option linter.unusedVariables false
set_option linter.unusedSimpArgs false

/-- Values that came in, gathered in a row of one's own. -/
structure WantsIn (w0 w : World) (base : Nat) (v : Value) (us : List Value) (recs : List (List UInt8)) : Prop where
  row : w.ownsRow base 23 1 v recs.length us
  len : us.length = recs.length
  each : ∀ (j : Nat) (u : Value) (r : List UInt8), us[j]? = some u → recs[j]? = some r → Sees w0 u r
theorem WantsIn.nil (w0 w : World) (base : Nat) : WantsIn w0 w base (.slice none 0 0) [] [] := ⟨World.ownsRow_nil _ _ _ _, rfl, fun j u r hu => by simp at hu⟩
theorem WantsIn.keep {w0 w w' : World} {base : Nat} {v : Value} {us : List Value} {recs : List (List UInt8)} (h : WantsIn w0 w base v us recs) (hb : ∀ k, v.ownBlock = some k → w'.heap[k]? = w.heap[k]?) : WantsIn w0 w' base v us recs := ⟨own_mod h.row hb, h.len, h.each⟩
theorem WantsIn.below {w0 w w' : World} {base : Nat} {v : Value} {us : List Value} {recs : List (List UInt8)} (h : WantsIn w0 w base v us recs) (hb : Below w.heap.size w w') : WantsIn w0 w' base v us recs := h.keep (fun k hk => hb.block k (own_lt h.row k hk).2)
theorem WantsIn.push {w0 w w' : World} {base : Nat} {v v' u : Value} {us : List Value} {recs : List (List UInt8)} {r : List UInt8} (h : WantsIn w0 w base v us recs) (hr : Sees w0 u r) (ho : w'.ownsRow base 23 1 v' (recs.length + 1) (us ++ [u])) : WantsIn w0 w' base v' (us ++ [u]) (recs ++ [r]) := by
  refine ⟨own_len ho (by simp) rfl, by simp [h.len], fun j x y hx hy => ?_⟩
  by_cases hj : j < recs.length
  · rw [List.getElem?_append_left (by rw [h.len]; exact hj)] at hx
    rw [List.getElem?_append_left hj] at hy
    exact h.each j x y hx hy
  · have hlt := (List.getElem?_eq_some_iff.1 hy).1
    simp only [List.length_append, List.length_cons, List.length_nil] at hlt
    have e : j = recs.length := by omega
    subst e
    rw [List.getElem?_append_right (by rw [h.len]; exact Nat.le_refl _), h.len, Nat.sub_self] at hx
    rw [List.getElem?_append_right (Nat.le_refl _), Nat.sub_self] at hy
    simp only [List.getElem?_cons_zero, Option.some.injEq] at hx hy
    rw [← hx, ← hy]
    exact hr
theorem WantsIn.shows {w0 w : World} {base : Nat} {v : Value} {us : List Value} {recs : List (List UInt8)} (h : WantsIn w0 w base v us recs) (hb : Below w0.heap.size w0 w) : Shows w v recs := by
  by_cases h0 : 0 < recs.length
  · obtain ⟨g, cap, rfl, h1, h2, h3, h4⟩ := own_slice h.row h0
    refine ⟨_, cap, rfl, h1, h2, fun _ => ⟨g, 0, rfl, fun i r hr => ?_⟩⟩
    have hi := (List.getElem?_eq_some_iff.1 hr).1
    obtain ⟨u, hu⟩ : ∃ u, us[i]? = some u := ⟨_, List.getElem?_eq_getElem (by rw [h.len]; exact hi)⟩
    refine ⟨u, ?_, (h.each i u r hu hr).below hb⟩
    rw [Nat.zero_add]
    exact own_cell h.row hu
  · have : recs = [] := List.length_eq_zero_iff.1 (by omega)
    subst this
    rcases h.row.2 with ⟨rfl, -⟩ | ⟨g, cap, cur, rfl, hb, hg, hnc, hcm, r⟩
    · exact ⟨none, 0, rfl, Nat.le_refl _, by decide, fun h => by simp at h⟩
    · exact ⟨_, cap, rfl, hnc, hcm, fun h => by simp at h⟩
end Go.Proofs.Ytoaeapnkefjpaaa
