/-
  THE DOCUMENT'S DRUM IN MEMORY: pointer p, the rows sv (pages), wv (places that wait), xv (pages that wait), the pages' blocks pb; the blocks that it owns.
  Conditions: none beyond what each lemma names.
-/
import Derived.Test.YtoaeapnkefjpaaaDrumG
namespace Go.Proofs.Ytoaeapnkefjpaaa
open Go.RowKit
set_option linter.unusedVariables false
set_option linter.unusedSimpArgs false

/-- The values are slices that read the pages, in blocks of pb. -/
def Pages (w : World) (pb : Nat → Prop) (vs : List Value) (ps : List (List UInt8)) : Prop :=
  vs.length = ps.length ∧ ∀ (i : Nat) (v : Value) (q : List UInt8), vs[i]? = some v → ps[i]? = some q → Sees w v q ∧ ∀ k, v.ownBlock = some k → pb k
theorem Pages.keep {w w' : World} {pb : Nat → Prop} {vs : List Value} {ps : List (List UInt8)} (h : Pages w pb vs ps) (hk : ∀ k, pb k → w'.heap[k]? = w.heap[k]?) : Pages w' pb vs ps :=
  ⟨h.1, fun i v q hv hq => ⟨(h.2 i v q hv hq).1.keep (fun k hb => hk k ((h.2 i v q hv hq).2 k hb)), (h.2 i v q hv hq).2⟩⟩
theorem Pages.more {w : World} {pb pb' : Nat → Prop} {vs : List Value} {ps : List (List UInt8)} (h : Pages w pb vs ps) (hk : ∀ k, pb k → pb' k) : Pages w pb' vs ps :=
  ⟨h.1, fun i v q hv hq => ⟨(h.2 i v q hv hq).1, fun k hb => hk k ((h.2 i v q hv hq).2 k hb)⟩⟩
theorem Pages.nil (w : World) (pb : Nat → Prop) : Pages w pb [] [] := ⟨rfl, fun i v q hv => by simp at hv⟩
theorem Pages.snoc {w : World} {pb : Nat → Prop} {vs : List Value} {ps : List (List UInt8)} (h : Pages w pb vs ps) {v : Value} {q : List UInt8} (hv : Sees w v q) (hb : ∀ k, v.ownBlock = some k → pb k) : Pages w pb (vs ++ [v]) (ps ++ [q]) := by
  refine ⟨by simp [h.1], fun i u r hu hr => ?_⟩
  by_cases hi : i < vs.length
  · rw [List.getElem?_append_left hi] at hu
    rw [List.getElem?_append_left (by rw [← h.1]; exact hi)] at hr
    exact h.2 i u r hu hr
  · have e : i = vs.length := by
      have := (List.getElem?_eq_some_iff.1 hu).1
      simp at this; omega
    subst e
    rw [List.getElem?_append_right (Nat.le_refl _), Nat.sub_self] at hu
    rw [h.1, List.getElem?_append_right (Nat.le_refl _), Nat.sub_self] at hr
    simp at hu hr
    subst hu; subst hr
    exact ⟨hv, hb⟩
theorem Pages.set {w : World} {pb : Nat → Prop} {vs : List Value} {ps : List (List UInt8)} (h : Pages w pb vs ps) (j : Nat) {v : Value} {q : List UInt8} (hv : Sees w v q) (hb : ∀ k, v.ownBlock = some k → pb k) : Pages w pb (vs.set j v) (ps.set j q) := by
  refine ⟨by simp [h.1], fun i u r hu hr => ?_⟩
  rw [List.getElem?_set] at hu hr
  by_cases e : j = i
  · subst e
    rw [if_pos rfl] at hu hr
    split at hu
    · split at hr
      · simp only [Option.some.injEq] at hu hr
        subst hu; subst hr
        exact ⟨hv, hb⟩
      · cases hr
    · cases hu
  · rw [if_neg e] at hu hr
    exact h.2 i u r hu hr
theorem Pages.get {w : World} {pb : Nat → Prop} {vs : List Value} {ps : List (List UInt8)} (h : Pages w pb vs ps) {i : Nat} {q : List UInt8} (hq : ps[i]? = some q) : ∃ v, vs[i]? = some v ∧ Sees w v q ∧ ∀ k, v.ownBlock = some k → pb k := by
  have hi : i < vs.length := by rw [h.1]; exact (List.getElem?_eq_some_iff.1 hq).1
  exact ⟨vs[i], List.getElem?_eq_getElem hi, h.2 i _ q (List.getElem?_eq_getElem hi) hq⟩

structure RefIn (w : World) (p : Nat) (sv wv xv : Value) (ss xs : List Value) (pb own : Nat → Prop) (D : DS) : Prop where
  ok : D.Ok
  op : own p
  pp : ¬ pb p
  pown : ∀ k, pb k → own k
  s1 : ∀ k, sv.ownBlock = some k → own k ∧ k ≠ p ∧ ¬ pb k ∧ wv.ownBlock ≠ some k ∧ xv.ownBlock ≠ some k
  w1 : ∀ k, wv.ownBlock = some k → own k ∧ k ≠ p ∧ ¬ pb k ∧ xv.ownBlock ≠ some k
  x1 : ∀ k, xv.ownBlock = some k → own k ∧ k ≠ p ∧ ¬ pb k
  lt : ∀ k, own k → k < w.heap.size
  hp : w.heap[p]? = some (.cells #[sv, wv, xv, .bool (!D.off), I D.ops, I D.armed, I D.keep] 59 (0, 0))
  hs : w.ownsRow 0 23 1 sv D.safe.length ss
  hw : w.ownsRow 0 3 1 wv D.waits.length (D.waits.map fun x => I x.1)
  hx : w.ownsRow 0 23 1 xv D.waits.length xs
  ps : Pages w pb ss D.safe
  px : Pages w pb xs (D.waits.map (·.2))
def RefAt (w : World) (p : Nat) (own : Nat → Prop) (D : DS) : Prop := ∃ sv wv xv ss xs pb, RefIn w p sv wv xv ss xs pb own D
theorem RefIn.keep {w w' : World} {p : Nat} {sv wv xv : Value} {ss xs : List Value} {pb own : Nat → Prop} {D : DS} (h : RefIn w p sv wv xv ss xs pb own D) (hb : ∀ k, own k → w'.heap[k]? = w.heap[k]?) (hz : w.heap.size ≤ w'.heap.size) : RefIn w' p sv wv xv ss xs pb own D :=
  ⟨h.ok, h.op, h.pp, h.pown, h.s1, h.w1, h.x1, fun k hk => Nat.lt_of_lt_of_le (h.lt k hk) hz, (hb _ h.op).trans h.hp, own_mod h.hs (fun k hk => hb k (h.s1 k hk).1), own_mod h.hw (fun k hk => hb k (h.w1 k hk).1), own_mod h.hx (fun k hk => hb k (h.x1 k hk).1), h.ps.keep (fun k hk => hb k (h.pown k hk)), h.px.keep (fun k hk => hb k (h.pown k hk))⟩
theorem RefAt.keep {w w' : World} {p : Nat} {own : Nat → Prop} {D : DS} (h : RefAt w p own D) (hb : ∀ k, own k → w'.heap[k]? = w.heap[k]?) (hz : w.heap.size ≤ w'.heap.size) : RefAt w' p own D := by
  obtain ⟨sv, wv, xv, ss, xs, pb, h⟩ := h
  exact ⟨sv, wv, xv, ss, xs, pb, h.keep hb hz⟩
theorem RefAt.lt {w : World} {p : Nat} {own : Nat → Prop} {D : DS} (h : RefAt w p own D) : ∀ k, own k → k < w.heap.size := by
  obtain ⟨sv, wv, xv, ss, xs, pb, h⟩ := h
  exact h.lt
theorem RefAt.ok {w : World} {p : Nat} {own : Nat → Prop} {D : DS} (h : RefAt w p own D) : D.Ok := by
  obtain ⟨sv, wv, xv, ss, xs, pb, h⟩ := h
  exact h.ok
theorem RefAt.mod {w w' : World} {p : Nat} {own own2 : Nat → Prop} {D : DS} (h : RefAt w p own D) (hm : Mod own2 w w') (hd : ∀ k, own k → ¬ own2 k) : RefAt w' p own D :=
  h.keep (fun k hk => hm.block k (h.lt k hk) (hd k hk)) hm.size
theorem RefAt.below {w w' : World} {p : Nat} {own : Nat → Prop} {D : DS} (h : RefAt w p own D) (hm : Below w.heap.size w w') : RefAt w' p own D :=
  h.keep (fun k hk => hm.block k (h.lt k hk)) hm.size

section
variable {w : World} {p : Nat} {sv wv xv : Value} {ss xs : List Value} {pb own : Nat → Prop} {D : DS}
theorem RefIn.c0 (h : RefIn w p sv wv xv ss xs pb own D) : w.cell? ⟨p, 0, none⟩ = some sv := by rw [cell_of_row w p _ _ _ _ h.hp]; rfl
theorem RefIn.c1 (h : RefIn w p sv wv xv ss xs pb own D) : w.cell? ⟨p, 1, none⟩ = some wv := by rw [cell_of_row w p _ _ _ _ h.hp]; rfl
theorem RefIn.c2 (h : RefIn w p sv wv xv ss xs pb own D) : w.cell? ⟨p, 2, none⟩ = some xv := by rw [cell_of_row w p _ _ _ _ h.hp]; rfl
theorem RefIn.c3 (h : RefIn w p sv wv xv ss xs pb own D) : w.cell? ⟨p, 3, none⟩ = some (.bool (!D.off)) := by rw [cell_of_row w p _ _ _ _ h.hp]; rfl
theorem RefIn.c4 (h : RefIn w p sv wv xv ss xs pb own D) : w.cell? ⟨p, 4, none⟩ = some (I D.ops) := by rw [cell_of_row w p _ _ _ _ h.hp]; rfl
theorem RefIn.c5 (h : RefIn w p sv wv xv ss xs pb own D) : w.cell? ⟨p, 5, none⟩ = some (I D.armed) := by rw [cell_of_row w p _ _ _ _ h.hp]; rfl
theorem RefIn.c6 (h : RefIn w p sv wv xv ss xs pb own D) : w.cell? ⟨p, 6, none⟩ = some (I D.keep) := by rw [cell_of_row w p _ _ _ _ h.hp]; rfl
theorem RefIn.fr (h : RefIn w p sv wv xv ss xs pb own D) : ∀ i, w.frozen? ⟨p, i, none⟩ = false := frozen_row h.hp
/-- The drum's own cells anew (not the rows). -/
theorem RefIn.at {w' : World} (h : RefIn w p sv wv xv ss xs pb own D) (D' : DS) (hok : D'.Ok) (hsafe : D'.safe = D.safe) (hwaits : D'.waits = D.waits) (hother : ∀ k, k ≠ p → w'.heap[k]? = w.heap[k]?) (hz : w'.heap.size = w.heap.size)
    (hp : w'.heap[p]? = some (.cells #[sv, wv, xv, .bool (!D'.off), I D'.ops, I D'.armed, I D'.keep] 59 (0, 0))) : RefIn w' p sv wv xv ss xs pb own D' := by
  refine ⟨hok, h.op, h.pp, h.pown, h.s1, h.w1, h.x1, fun k hk => by rw [hz]; exact h.lt k hk, hp, ?_, ?_, ?_, ?_, ?_⟩
  · rw [hsafe]; exact own_mod h.hs (fun k hk => hother k (h.s1 k hk).2.1)
  · rw [hwaits]; exact own_mod h.hw (fun k hk => hother k (h.w1 k hk).2.1)
  · rw [hwaits]; exact own_mod h.hx (fun k hk => hother k (h.x1 k hk).2.1)
  · rw [hsafe]; exact h.ps.keep (fun k hk => hother k (fun e => h.pp (e ▸ hk)))
  · rw [hwaits]; exact h.px.keep (fun k hk => hother k (fun e => h.pp (e ▸ hk)))
theorem RefIn.setp (h : RefIn w p sv wv xv ss xs pb own D) (i : Nat) (u : Value) (D' : DS) (hok : D'.Ok) (hsafe : D'.safe = D.safe) (hwaits : D'.waits = D.waits)
    (hc : (#[sv, wv, xv, .bool (!D.off), I D.ops, I D.armed, I D.keep] : Array Value).setIfInBounds i u = #[sv, wv, xv, .bool (!D'.off), I D'.ops, I D'.armed, I D'.keep]) : RefIn (w.setCell ⟨p, i, none⟩ u) p sv wv xv ss xs pb own D' :=
  h.at D' hok hsafe hwaits (fun k hk => heap_setCell_other w ⟨p, i, none⟩ k u hk) (by simp) (by rw [heap_setCell_same w p i _ _ u h.hp, hc])
end
end Go.Proofs.Ytoaeapnkefjpaaa
