/-
  THE PROGRAM'S TAPE, sixth file: Open. Conditions: those that each contract names.
-/
import Derived.Test.YtoaeapnkefjpaaaTapeP5
namespace Go.Proofs.Ytoaeapnkefjpaaa
open Go.RowKit
set_option linter.unusedVariables false
set_option linter.unusedSimpArgs false

theorem info23t : (Try.prog.info? 23).map (fun i => (i.zero, i.size, i.bytes)) = some (some (.slice none 0 0), 1, 24) := by kernel_rfl
/-- Records in memory, from block 'base' on: the row v, its elements vs, whose blocks are pb's. -/
structure RecsIn (w : World) (base : Nat) (v : Value) (vs : List Value) (pb : Nat → Prop) (recs : List (List UInt8)) : Prop where
  row : w.ownsRow base 23 1 v recs.length vs
  len : vs.length = recs.length
  each : ∀ (i : Nat) (u : Value) (r : List UInt8), vs[i]? = some u → recs[i]? = some r → w.ownsRow base 5 1 u r.length (r.map B) ∧ ∀ k, u.ownBlock = some k → pb k
  pb1 : ∀ k, pb k → base ≤ k ∧ k < w.heap.size
  out : ∀ k, v.ownBlock = some k → ¬ pb k
def Recs (w : World) (base : Nat) (v : Value) (recs : List (List UInt8)) : Prop := ∃ vs pb, RecsIn w base v vs pb recs
theorem RecsIn.keep {w w' : World} {base : Nat} {v : Value} {vs : List Value} {pb : Nat → Prop} {recs : List (List UInt8)} (h : RecsIn w base v vs pb recs) (hb : ∀ k, base ≤ k → k < w.heap.size → w'.heap[k]? = w.heap[k]?) (hz : w.heap.size ≤ w'.heap.size) : RecsIn w' base v vs pb recs :=
  ⟨own_mod h.row (fun k hk => hb k (own_lt h.row k hk).1 (own_lt h.row k hk).2), h.len, fun i u r hu hr => ⟨own_mod (h.each i u r hu hr).1 (fun k hk => hb k (own_lt (h.each i u r hu hr).1 k hk).1 (own_lt (h.each i u r hu hr).1 k hk).2), (h.each i u r hu hr).2⟩, fun k hk => ⟨(h.pb1 k hk).1, Nat.lt_of_lt_of_le (h.pb1 k hk).2 hz⟩, h.out⟩
theorem Recs.below {w w' : World} {base : Nat} {v : Value} {recs : List (List UInt8)} (h : Recs w base v recs) (hb : Below w.heap.size w w') : Recs w' base v recs := by
  obtain ⟨vs, pb, h⟩ := h
  exact ⟨vs, pb, h.keep (fun k _ hk => hb.block k hk) hb.size⟩
theorem RecsIn.nil (w : World) (base : Nat) : RecsIn w base (.slice none 0 0) [] (fun _ => False) [] :=
  ⟨World.ownsRow_nil _ _ _ _, rfl, fun i u r hu => by simp at hu, fun k hk => hk.elim, fun k hk => by cases hk⟩
theorem Recs.form {w : World} {base : Nat} {v : Value} {recs : List (List UInt8)} (h : Recs w base v recs) : ∃ ao cap, v = .slice ao recs.length cap := by
  obtain ⟨vs, pb, h⟩ := h
  exact own_form h.row
/-- A record more: r's row u is new, and so is what the row has grown by. -/
theorem RecsIn.push {w w' : World} {base : Nat} {v v' u : Value} {vs : List Value} {pb : Nat → Prop} {recs : List (List UInt8)} {r : List UInt8} (h : RecsIn w base v vs pb recs)
    (hu : w.ownsRow base 5 1 u r.length (r.map B)) (hun : ∀ k, u.ownBlock = some k → ¬ pb k ∧ v.ownBlock ≠ some k) (hrow : w'.ownsRow base 23 1 v' (recs.length + 1) (vs ++ [u])) (hkeep : ∀ k, base ≤ k → k < w.heap.size → v.ownBlock ≠ some k → w'.heap[k]? = w.heap[k]?) (hz : w.heap.size ≤ w'.heap.size)
    (hv' : ∀ k, v'.ownBlock = some k → v.ownBlock = some k ∨ w.heap.size ≤ k) : RecsIn w' base v' (vs ++ [u]) (fun k => pb k ∨ u.ownBlock = some k) (recs ++ [r]) := by
  refine ⟨by rw [List.length_append]; exact hrow, by simp [h.len], fun i x q hx hq => ?_, fun k hk => ?_, fun k hk hp => ?_⟩
  · by_cases hi : i < vs.length
    · rw [List.getElem?_append_left hi] at hx
      rw [List.getElem?_append_left (by rw [← h.len]; exact hi)] at hq
      obtain ⟨e1, e2⟩ := h.each i x q hx hq
      exact ⟨own_mod e1 (fun k hk => hkeep k (own_lt e1 k hk).1 (own_lt e1 k hk).2 (fun e => h.out k e (e2 k hk))), fun k hk => .inl (e2 k hk)⟩
    · have e : i = vs.length := by
        have := (List.getElem?_eq_some_iff.1 hx).1
        simp at this; omega
      subst e
      rw [List.getElem?_append_right (Nat.le_refl _), Nat.sub_self] at hx
      rw [h.len, List.getElem?_append_right (Nat.le_refl _), Nat.sub_self] at hq
      simp at hx hq
      subst hx; subst hq
      exact ⟨own_mod hu (fun k hk => hkeep k (own_lt hu k hk).1 (own_lt hu k hk).2 (hun k hk).2), fun k hk => .inr hk⟩
  · rcases hk with hk | hk
    · exact ⟨(h.pb1 k hk).1, Nat.lt_of_lt_of_le (h.pb1 k hk).2 hz⟩
    · exact ⟨(own_lt hu k hk).1, Nat.lt_of_lt_of_le (own_lt hu k hk).2 hz⟩
  · rcases hv' k hk with h1 | h1
    · rcases hp with hp | hp
      · exact h.out k h1 hp
      · exact (hun k hp).2 h1
    · rcases hp with hp | hp
      · have := (h.pb1 k hp).2; omega
      · have := (own_lt hu k hp).2; omega
/-- Between two rounds of an opening: acc was found; r is pending (or none). -/
structure Op (w0 : World) (t p n : Nat) (T : TS) (acc : List (List UInt8)) (u : Value) (pr : Option (List UInt8)) (wr : World) : Prop where
  ex : ∃ (sv : Value) (vs : List Value) (pb : Nat → Prop), Born w0 t p n T sv wr ∧ RecsIn wr (w0.heap.size + 4) sv vs pb acc ∧ ∀ r, pr = some r → wr.ownsRow (w0.heap.size + 4) 5 1 u r.length (r.map B) ∧ ∀ k, u.ownBlock = some k → ¬ pb k ∧ sv.ownBlock ≠ some k
theorem Op.start {w0 : World} {t p n : Nat} {T : TS} {wr : World} (h : Born w0 t p n T (.slice none 0 0) wr) (u : Value) : Op w0 t p n T [] u none wr := ⟨_, _, _, h, RecsIn.nil _ _, fun r e => by cases e⟩
section
variable {w0 wr w' : World} {t p n : Nat} {T : TS} {acc : List (List UInt8)} {u : Value}
theorem Op.on (h : Op w0 t p n T acc u none wr) (hb : Below wr.heap.size wr w') (u' : Value) : Op w0 t p n T acc u' none w' := by
  obtain ⟨sv, vs, pb, h1, h2, h3⟩ := h.ex
  exact ⟨sv, vs, pb, h1.on hb, h2.keep (fun k _ hk => hb.block k hk) hb.size, fun r e => by cases e⟩
theorem Op.yes (h : Op w0 t p n T acc u none wr) {v : Value} {r : List UInt8} {T' : TS} (hv : w'.ownsRow wr.heap.size 5 1 v r.length (r.map B)) (ht : TapeIn w' t p n T') (hm : Mod (fun k => k = t) wr w') : Op w0 t p n T' acc v (some r) w' := by
  obtain ⟨sv, vs, pb, h1, h2, h3⟩ := h.ex
  have hlt := h1.lt
  have htt := h1.tt
  refine ⟨sv, vs, pb, h1.blocks (fun k hk => hm.block k (by omega) (by omega)) ht (h1.below.trans (hm.below h1.below.size (fun i hi => by omega))), h2.keep (fun k h5 hk => hm.block k hk (by omega)) hm.size, fun q e => ?_⟩
  cases e
  refine ⟨own_anew hv (fun k hk => by have := (own_lt hv k hk).1; omega), fun k hk => ?_⟩
  have := (own_lt hv k hk).1
  exact ⟨fun e => by have := (h2.pb1 k e).2; omega, fun e => by have := (own_lt h2.row k e).2; omega⟩
end
end Go.Proofs.Ytoaeapnkefjpaaa
