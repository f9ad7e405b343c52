/-
  THE PROGRAM: body, of the kinds 8, 9, 10: what the loop's rounds keep. Conditions: those that each lemma names.
-/
import Derived.Test.YtnljmllkfmgclaaMpacP8
import Derived.Deep.LoopGhost
namespace Go.Proofs.Ytnljmllkfmgclaa
open Go.RowKit
set_option linter.unusedVariables false
set_option linter.unusedSimpArgs false

theorem info9 : (Try.prog.info? 9).map (fun i => (i.zero, i.size, i.bytes)) = some (some (.string .empty), 1, 16) := by kernel_rfl
theorem info3 : (Try.prog.info? 3).map (fun i => (i.zero, i.size, i.bytes)) = some (some (I 0), 1, 8) := by kernel_rfl
/-- Two blocks stay. -/
def KeepBP (b p : Nat) (w w' : World) : Prop := w'.heap[b]? = w.heap[b]? ∧ w'.heap[p]? = w.heap[p]? ∧ w.heap.size ≤ w'.heap.size
theorem KeepBP.refl {b p : Nat} (w : World) : KeepBP b p w w := ⟨rfl, rfl, Nat.le_refl _⟩
theorem KeepBP.trans {b p : Nat} (w w' w'' : World) (h : KeepBP b p w w') (k : KeepBP b p w' w'') : KeepBP b p w w'' := ⟨k.1.trans h.1, k.2.1.trans h.2.1, Nat.le_trans h.2.2 k.2.2⟩
theorem KeepBP.mod {b p : Nat} {own : Nat → Prop} {w w' : World} (h : Mod own w w') (hb : b < w.heap.size) (hp : p < w.heap.size) (ho : ¬ own b) (ho2 : ¬ own p) : KeepBP b p w w' := ⟨h.block b hb ho, h.block p hp ho2, h.size⟩
theorem KeepBP.alloc {b p : Nat} {w : World} (o : Obj) (hb : b < w.heap.size) (hp : p < w.heap.size) : KeepBP b p w (w.alloc o) := ⟨Below.heap_alloc w o _ hb, Below.heap_alloc w o _ hp, by simp⟩
theorem KeepBP.grown {b p : Nat} {w w' : World} {o : Option Nat} (h : w.grownBy w' o) (hb : b < w.heap.size) (hp : p < w.heap.size) (ho : o ≠ some b) (ho2 : o ≠ some p) : KeepBP b p w w' := ⟨h.block b hb (fun e => ho e.symm), h.block p hp (fun e => ho2 e.symm), h.size⟩
theorem Boxed.cell0 {w wa : World} {b r p : Nat} {s : List UInt8} {P : Pk} {nv cv : Value} (h : Boxed w wa b r p s P nv cv) : ∀ w', KeepBP b p wa w' → w'.cell? ⟨b, 0, none⟩ = some (.pointer (some ⟨p, 0, none⟩)) := fun w' hh => (h.box.keep hh.1).cell
theorem Boxed.cellp {w wa : World} {b r p : Nat} {s : List UInt8} {P : Pk} {nv cv : Value} (h : Boxed w wa b r p s P nv cv) (i : Nat) : ∀ w', KeepBP b p wa w' → w'.cell? ⟨p, i, none⟩ = (pkCells P nv cv)[i]? := fun w' hh => (h.pk.keep hh.2.1).cell i
theorem own_ge {w : World} {base : Nat} {e : TypeId} {size n : Nat} {v : Value} {xs : List Value} (h : w.ownsRow base e size v n xs) {k : Nat} (hk : k < base) : v.ownBlock ≠ some k := fun e => by have := (own_lt h k e).1; omega
/-- A row grown, and its slice stored into the packet. -/
theorem row_step {w wr w1 w3 : World} {b r p : Nat} {s t : List UInt8} {P : Pk} {nv cv nv2 cv2 : Value} (hrp : r ≠ p) (hlb : r < b ∧ p < b) (h : Boxed w wr b r p s P nv cv) {e1 e2 : TypeId} {mv mv' ov : Value} {n n' no : Nat} {xs xs' os : List Value}
    (mr : wr.ownsRow (b + 1) e1 1 mv n xs) (hor : wr.ownsRow (b + 1) e2 1 ov no os) (dj : ∀ g, mv.ownBlock = some g → ov.ownBlock ≠ some g) (hm : Mod (fun k => k = r) wr w1) (hr : RdIn w1 r t) (ob : Obj) (ho3 : w3.ownsRow (b + 1) e1 1 mv' n' xs')
    (hg3 : (w1.alloc ob).grownBy w3 mv.ownBlock) (hb3 : mv'.ownBlock = mv.ownBlock ∨ mv'.ownBlock = some (w1.alloc ob).heap.size) (i : Nat) (he : (pkCells P nv cv).setIfInBounds i mv' = pkCells P nv2 cv2) :
    Boxed w (w3.setCell ⟨p, i, none⟩ mv') b r p t P nv2 cv2 ∧ (w3.setCell ⟨p, i, none⟩ mv').ownsRow (b + 1) e1 1 mv' n' xs' ∧ (w3.setCell ⟨p, i, none⟩ mv').ownsRow (b + 1) e2 1 ov no os ∧ ∀ g, mv'.ownBlock = some g → ov.ownBlock ≠ some g := by
  have h1 := h.read hrp hm hr
  have hsz : (w1.alloc ob).heap.size = w1.heap.size + 1 := by simp
  have hst : ∀ k, k < w1.heap.size → mv.ownBlock ≠ some k → w3.heap[k]? = w1.heap[k]? := fun k hk hn => (hg3.block k (by omega) (fun e => hn e.symm)).trans (Below.heap_alloc w1 ob _ hk)
  have hM3 : Mod (fun k => k = r ∨ k = p) w w3 := by
    refine h1.mod.then (own' := fun k => mv.ownBlock = some k) ?_ (fun k hk e => ?_)
    · have : Mod (fun k => mv.ownBlock = some k) w1 (w1.alloc ob) := Mod.alloc ob
      exact this.trans ⟨hg3.os, hg3.tape, hg3.output, hg3.size, fun k hk hn => hg3.block k hk (fun e => hn e.symm)⟩
    · have := (own_lt mr k e).1
      have := h.new
      omega
  have hbx : Boxed w w3 b r p t P nv cv := by
    refine ⟨h1.box.keep (hst b h1.lt (own_ge mr (Nat.lt_succ_self _))), h1.rd.keep (hst r h1.rd.lt (own_ge mr (by omega))), h1.pk.keep (hst p h1.pk.lt (own_ge mr (by omega))), hM3, h.br, h.bp, ?_, h.new⟩
    have := hg3.size
    have := h1.lt
    omega
  have hov : ∀ k, ov.ownBlock = some k → w3.heap[k]? = wr.heap[k]? := fun k hk => by
    have hk2 := own_lt hor k hk
    exact (hst k (Nat.lt_of_lt_of_le hk2.2 hm.size) (fun e => dj k e hk)).trans (hm.block k hk2.2 (by omega))
  have hor3 : w3.ownsRow (b + 1) e2 1 ov no os := own_mod hor hov
  refine ⟨hbx.set hrp i mv' he, own_setCell_other ho3 (own_ge ho3 (show p < b + 1 by omega)) _, own_setCell_other hor3 (own_ge hor3 (show p < b + 1 by omega)) _, fun g hg e => ?_⟩
  rcases hb3 with h3 | h3
  · exact dj g (h3.symm.trans hg) e
  · have h4 := (own_lt hor g e).2
    have h5 := hm.size
    rw [h3] at hg
    have h6 := Option.some.inj hg
    omega
/-- What a round of the loop finds. -/
structure LoopIn (w wr : World) (b r p k f n m : Nat) (s : List UInt8) (ns : List (List UInt8)) (cs : List Int) (nv cv : Value) (O : Option Pk) : Prop where
  bx : Boxed w wr b r p s { Pk.new k f with id := n } nv cv
  nr : wr.ownsRow (b + 1) 9 1 nv ns.length (ns.map S)
  cr : wr.ownsRow (b + 1) 3 1 cv cs.length (cs.map I)
  dj : ∀ g, nv.ownBlock = some g → cv.ownBlock ≠ some g
  le : s.length ≤ m
  nl : ns.length ≤ 32
  cl : cs.length ≤ 32
  eq : O = (Mp.items k m ns cs s).bind fun x => if x.2.all (Mp.codeOk k) then some { Pk.new k f with id := n, names := x.1, codes := x.2 } else none
end Go.Proofs.Ytnljmllkfmgclaa
