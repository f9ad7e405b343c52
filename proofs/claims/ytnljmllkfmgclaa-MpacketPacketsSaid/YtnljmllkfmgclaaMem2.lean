/-
  WORDS FOR MEMORY, second file: a row of one's own that is written cell by cell.
  Conditions: none beyond what each lemma names.
-/
import Derived.Test.YtnljmllkfmgclaaMem
import Derived.Deep.RegionHeld3
import Derived.Deep.QuietTactic
import Derived.BigQuiet
import Derived.Lib.AppendStr
namespace Go.Proofs.Ytnljmllkfmgclaa
open Go.RowKit
set_option linter.unusedVariables false
set_option linter.unusedSimpArgs false

theorem own_slice {w : World} {base : Nat} {e : TypeId} {size n : Nat} {v : Value} {xs : List Value} (h : w.ownsRow base e size v n xs) (hn : 0 < n) :
    ∃ g cap, v = .slice (some ⟨g, 0, none⟩) n cap ∧ n ≤ cap ∧ cap ≤ maxLen ∧ base ≤ g ∧ g < w.heap.size := by
  rcases h.2 with ⟨rfl, h0⟩ | ⟨g, cap, cur, rfl, hb, hg, hnc, hcm, _⟩
  · omega
  · exact ⟨g, cap, rfl, hnc, hcm, hb, (Array.getElem?_eq_some_iff.1 hg).1⟩
theorem own_cell {w : World} {base : Nat} {e : TypeId} {size n g cap : Nat} {xs : List Value} (h : w.ownsRow base e size (.slice (some ⟨g, 0, none⟩) n cap) n xs) {i : Nat} {u : Value} (hi : xs[i]? = some u) : w.cell? ⟨g, i, none⟩ = some u := by
  have := h.cells (g := g) rfl i u hi
  rwa [add_off, Nat.zero_add] at this
theorem own_frozen {w : World} {base : Nat} {e : TypeId} {size n g cap : Nat} {xs : List Value} (h : w.ownsRow base e size (.slice (some ⟨g, 0, none⟩) n cap) n xs) (i : Nat) : w.frozen? ⟨g, i, none⟩ = false := by
  rcases h.2 with ⟨h0, _⟩ | ⟨g', cap', cur, hv, hb, hg, _⟩
  · cases h0
  · simp only [Value.slice.injEq, Option.some.injEq, Addr.mk.injEq] at hv
    obtain ⟨⟨rfl, _⟩, _⟩ := hv
    simp [World.frozen?, hg]
theorem take_set {α : Type} (l : List α) (i n : Nat) (u : α) (h : i < n) : (l.set i u).take n = (l.take n).set i u := by
  apply List.ext_getElem?
  intro j
  simp only [List.getElem?_take, List.getElem?_set]
  by_cases hj : j < n <;> by_cases hij : i = j <;> simp_all [List.length_take]
  all_goals (try (split <;> simp_all <;> omega))
theorem own_set {w : World} {base : Nat} {e : TypeId} {n g cap : Nat} {xs : List Value} (h : w.ownsRow base e 1 (.slice (some ⟨g, 0, none⟩) n cap) n xs) {i : Nat} (hi : i < n) (u : Value) : (w.setCell ⟨g, i, none⟩ u).ownsRow base e 1 (.slice (some ⟨g, 0, none⟩) n cap) n (xs.set i u) := by
  obtain ⟨h1, h2⟩ := h
  refine ⟨by simpa using h1, ?_⟩
  rcases h2 with ⟨h0, _⟩ | ⟨g', cap', cur, hv, hb, hg, hnc, hcm, hcs, ht⟩
  · cases h0
  · simp only [Value.slice.injEq, Option.some.injEq, Addr.mk.injEq] at hv
    obtain ⟨⟨rfl, _⟩, _, rfl⟩ := hv
    refine .inr ⟨g, cap, cur.setIfInBounds i u, rfl, hb, heap_setCell_same w g i cur e u hg, hnc, hcm, by simpa using hcs, ?_⟩
    rw [Array.toList_setIfInBounds, take_set _ _ _ _ (by omega), ht]
theorem own_setCell_other {w : World} {base : Nat} {e : TypeId} {size n : Nat} {v : Value} {xs : List Value} (h : w.ownsRow base e size v n xs) {a : Addr} (ha : v.ownBlock ≠ some a.block) (u : Value) : (w.setCell a u).ownsRow base e size v n xs := by
  refine ⟨h.1, ?_⟩
  rcases h.2 with h0 | ⟨g, cap, cur, rfl, hb, hg, r⟩
  · exact .inl h0
  · refine .inr ⟨g, cap, cur, rfl, hb, ?_, r⟩
    rw [heap_setCell_other _ _ _ _ (fun e => ha (by simp [Value.ownBlock, e]))]
    exact hg
/-- A row's list seen anew at another length's spelling. -/
theorem own_len {w : World} {base : Nat} {e : TypeId} {size n m : Nat} {v : Value} {xs ys : List Value} (h : w.ownsRow base e size v n xs) (hn : n = m) (hx : xs = ys) : w.ownsRow base e size v m ys := by
  subst hn; subst hx; exact h
/-- A contract that leaves the world alone, inside a region that draws. -/
theorem quiet_mine {P : Program} {f : FuncId} {args : Array Value} {w : World} {n : Nat} {v : Value}
    (h : Calls P f args (w.drewN n) fun e w' => e = .returned v ∧ w.drewN n = w') : Calls P f args (w.drewN n) fun e w'' => e = .returned v ∧ ∃ m, w'' = w.drewN m :=
  h.mono fun _ _ ⟨he, hm⟩ => ⟨he, n, hm.symm⟩
theorem Sees.drewN {w : World} {v : Value} {l : List UInt8} (h : Sees w v l) (n : Nat) : Sees (w.drewN n) v l := h.keep (fun _ _ => rfl)
theorem Sees.drew {w : World} {v : Value} {l : List UInt8} (h : Sees w v l) : Sees w.drew v l := h.keep (fun _ _ => rfl)
theorem Sees.setCell {w : World} {v : Value} {l : List UInt8} (h : Sees w v l) {a : Addr} (ha : v.ownBlock ≠ some a.block) (u : Value) : Sees (w.setCell a u) v l :=
  h.keep (fun k hk => heap_setCell_other w a k u (fun e => ha (by rw [hk, e])))
theorem Sees.take {w : World} {g off n cap : Nat} {L : List UInt8} (h : Sees w (.slice (some ⟨g, off, none⟩) n cap) L) (m : Nat) (hm : m ≤ L.length) : Sees w (.slice (some ⟨g, off, none⟩) m cap) (L.take m) := by
  obtain ⟨ao, c, hv, h1, h2, h3⟩ := h
  simp only [Value.slice.injEq] at hv
  obtain ⟨rfl, rfl, rfl⟩ := hv
  have hl : (L.take m).length = m := by simp; omega
  refine ⟨_, cap, by rw [hl], by omega, h2, fun hp => ⟨g, off, rfl, fun i c hi => ?_⟩⟩
  obtain ⟨g', off', he, hc⟩ := h3 (by omega)
  simp only [Option.some.injEq, Addr.mk.injEq, and_true] at he
  obtain ⟨rfl, rfl⟩ := he
  rw [List.getElem?_take] at hi
  split at hi
  · exact hc i c hi
  · cases hi
theorem own_below {w w' : World} {base : Nat} {e : TypeId} {size n : Nat} {v : Value} {xs : List Value} (h : w.ownsRow base e size v n xs) (hb : Below w.heap.size w w') : w'.ownsRow base e size v n xs := by
  refine ⟨h.1, ?_⟩
  rcases h.2 with h0 | ⟨g, cap, cur, rfl, hbg, hg, r⟩
  · exact .inl h0
  · exact .inr ⟨g, cap, cur, rfl, hbg, (hb.block g (Array.getElem?_eq_some_iff.1 hg).1).trans hg, r⟩
end Go.Proofs.Ytnljmllkfmgclaa
