/-
  THE DOCUMENT'S ANSWER: read (25), what its steps share. Conditions: those that each contract names.
-/
import Derived.Test.YtnljmllkfmgclaaMpacZA
namespace Go.Proofs.Ytnljmllkfmgclaa
open Go.RowKit
set_option linter.unusedVariables false
set_option linter.unusedSimpArgs false

/-- The document's reading under way: the reader at r, the packet at p, the answer's block at q. -/
structure RB (w wr : World) (r p q : Nat) (x : Rp.St) (P : Pk) (nv cv : Value) : Prop where
  rd : RdB wr r x
  pk : PIn wr p P nv cv
  qk : PIn wr q Pk.zero nil0 nil0
  below : Below w.heap.size w wr
  lo : w.heap.size ≤ q
  qr : q < r
  rp : r < p
theorem RB.lt {w wr : World} {r p q : Nat} {x : Rp.St} {P : Pk} {nv cv : Value} (h : RB w wr r p q x P nv cv) : p < wr.heap.size := h.pk.lt
theorem RB.read {w wr w2 : World} {r p q : Nat} {x y : Rp.St} {P : Pk} {nv cv : Value} (h : RB w wr r p q x P nv cv) (hr : RdB w2 r y) (hm : Mod (fun k => k = r) wr w2) : RB w w2 r p q y P nv cv := by
  have h1 := h.lo
  have h2 := h.qr
  have h3 := h.rp
  have h4 := h.below.size
  exact ⟨hr, h.pk.mod hm (by omega), h.qk.mod hm (by omega), h.below.trans (hm.below h4 (fun i hi => by omega)), h1, h2, h3⟩
theorem RB.set {w wr : World} {r p q : Nat} {x : Rp.St} {P : Pk} {nv cv : Value} (h : RB w wr r p q x P nv cv) (i : Nat) (u : Value) {P' : Pk} {nv' cv' : Value} (e : (pkCells P nv cv).setIfInBounds i u = pkCells P' nv' cv') : RB w (wr.setCell ⟨p, i, none⟩ u) r p q x P' nv' cv' := by
  have h1 := h.lo
  have h2 := h.qr
  have h3 := h.rp
  exact ⟨h.rd.keep (heap_setCell_other _ ⟨p, i, none⟩ r _ (by simp only; omega)), h.pk.set i u e, h.qk.keep (heap_setCell_other _ ⟨p, i, none⟩ q _ (by simp only; omega)), h.below.setCell (by simp only; omega) u, h1, h2, h3⟩
theorem RB.drew {w wr : World} {r p q : Nat} {x : Rp.St} {P : Pk} {nv cv : Value} (h : RB w wr r p q x P nv cv) : RB w wr.drew r p q x P nv cv :=
  ⟨h.rd.keep rfl, h.pk.keep rfl, h.qk.keep rfl, h.below.drew, h.lo, h.qr, h.rp⟩
theorem rb_start (w : World) (k f : Nat) (s : List UInt8) (hs : s.length ≤ 1048576) :
    RB w ((((w.alloc (.cells (pkCells Pk.zero nil0 nil0) 25)).alloc (.cells #[S s, .bool false] 65)).alloc (.cells (pkCells Pk.zero nil0 nil0) 25)).setCells ((w.alloc (.cells (pkCells Pk.zero nil0 nil0) 25)).alloc (.cells #[S s, .bool false] 65)).heap.size 0 (pkCells (Pk.new k f) nil0 nil0).toList) (w.alloc (.cells (pkCells Pk.zero nil0 nil0) 25)).heap.size ((w.alloc (.cells (pkCells Pk.zero nil0 nil0) 25)).alloc (.cells #[S s, .bool false] 65)).heap.size w.heap.size (s, false) (Pk.new k f) nil0 nil0 := by
  obtain ⟨wa, hwa⟩ : ∃ wa, wa = w.alloc (.cells (pkCells Pk.zero nil0 nil0) 25) := ⟨_, rfl⟩
  have q1 : PIn wa w.heap.size Pk.zero nil0 nil0 := by rw [hwa]; exact pk_box
  have b1 : Below w.heap.size w wa := by rw [hwa]; exact (Below.refl _ _).alloc (Nat.le_refl _) _
  have z1 : wa.heap.size = w.heap.size + 1 := by rw [hwa]; simp
  rw [← hwa]
  obtain ⟨wb, hwb⟩ : ∃ wb, wb = wa.alloc (.cells #[S s, .bool false] 65) := ⟨_, rfl⟩
  have r2 : RdB wb wa.heap.size (s, false) := ⟨hs, by rw [hwb]; exact heap_alloc_new wa _⟩
  have b2 : Below wa.heap.size wa wb := by rw [hwb]; exact (Below.refl _ _).alloc (Nat.le_refl _) _
  have z2 : wb.heap.size = wa.heap.size + 1 := by rw [hwb]; simp
  rw [← hwb]
  obtain ⟨p3, b3⟩ := stored25 wb (Pk.new k f) nil0 nil0
  exact ⟨r2.below b3, p3, (q1.below b2).below b3, b1.trans ((b2.trans (b3.mono (by omega))).mono (by omega)), Nat.le_refl _, by omega, by omega⟩
/-- What read comes to. -/
def ReadB (w : World) (x : Pk × Bool) (e : Ending) (w' : World) : Prop :=
  Below w.heap.size w w' ∧ ∃ nv cv, e = .returned (.tuple #[.agg (pkCells x.1 nv cv), .bool x.2]) ∧ w'.ownsRow w.heap.size 9 1 nv x.1.names.length (x.1.names.map S) ∧ w'.ownsRow w.heap.size 3 1 cv x.1.codes.length (x.1.codes.map I)
theorem KeepBP.set {b p q i : Nat} {w : World} {v : Value} (h1 : b ≠ q) (h2 : p ≠ q) : KeepBP b p w (w.setCell ⟨q, i, none⟩ v) := ⟨heap_setCell_other _ ⟨q, i, none⟩ b _ h1, heap_setCell_other _ ⟨q, i, none⟩ p _ h2, by simp⟩
theorem setCells_size (q : Nat) : ∀ (vs : List Value) (o : Nat) (w : World), (w.setCells q o vs).heap.size = w.heap.size
  | [], _, _ => rfl
  | v :: r, o, w => (setCells_size q r (o + 1) _).trans (by simp)
theorem KeepBP.setCells {b p q : Nat} (h1 : b ≠ q) (h2 : p ≠ q) (vs : List Value) (o : Nat) (w : World) : KeepBP b p w (w.setCells q o vs) := by
  have hm : Mod (fun k => k = q) w (w.setCells q o vs) := Mod.setCells (own := fun k => k = q) rfl _ _ _
  refine ⟨?_, ?_, hm.size⟩
  · by_cases hb : b < w.heap.size
    · exact hm.block b hb (by omega)
    · rw [Array.getElem?_eq_none (by have := setCells_size q vs o w; omega), Array.getElem?_eq_none (by omega)]
  · by_cases hb : p < w.heap.size
    · exact hm.block p hb (by omega)
    · rw [Array.getElem?_eq_none (by have := setCells_size q vs o w; omega), Array.getElem?_eq_none (by omega)]
/-- The answer laid. -/
theorem RB.out {w wr : World} {r p q : Nat} {x : Rp.St} {P : Pk} {nv cv : Value} (h : RB w wr r p q x P nv cv) (h1 : nv.oneCell' = true) (h2 : cv.oneCell' = true) :
    (Instr.storeAt 25 (.pointer (some ⟨q, 0, none⟩)) (.agg (pkCells P nv cv))).run Try.prog wr = .ok () (wr.setCells q 0 (pkCells P nv cv).toList) ∧ PIn (wr.setCells q 0 (pkCells P nv cv).toList) q P nv cv ∧ Below w.heap.size w (wr.setCells q 0 (pkCells P nv cv).toList) := by
  have hm : Mod (fun k => k = q) wr (wr.setCells q 0 (pkCells P nv cv).toList) := Mod.setCells (own := fun k => k = q) rfl _ _ _
  have h4 := h.lo
  exact ⟨h.qk.store h1 h2, h.qk.stored _ _ _, h.below.trans (hm.below h.below.size (fun i hi => by omega))⟩
theorem ret25 {w wr : World} {q : Nat} {x : Pk × Bool} {nv cv : Value} {tmps : Array Value} {b : Bool} (hq : PIn wr q x.1 nv cv) (hb : Below w.heap.size w wr) (hn : wr.ownsRow w.heap.size 9 1 nv x.1.names.length (x.1.names.map S)) (hc : wr.ownsRow w.heap.size 3 1 cv x.1.codes.length (x.1.codes.map I))
    (h6 : tmps[6]?.getD undef = .pointer (some ⟨q, 0, none⟩)) (h7 : tmps[7]?.getD undef = .bool b) (hx : x.2 = b) : bodyPost Try.prog Try.f25 (ReadB w x) Exit.ret { tmps := tmps, defers := [] } wr := by
  have k0 : wr.cell? ⟨q, 0, none⟩ = some (I x.1.kind) := hq.cell 0
  have k1 : wr.cell? ⟨q, 1, none⟩ = some (I x.1.flags) := hq.cell 1
  have k2 : wr.cell? ⟨q, 2, none⟩ = some (I x.1.id) := hq.cell 2
  have k3 : wr.cell? ⟨q, 3, none⟩ = some (I x.1.code) := hq.cell 3
  have k4 : wr.cell? ⟨q, 4, none⟩ = some (S x.1.name) := hq.cell 4
  have k5 : wr.cell? ⟨q, 5, none⟩ = some (S x.1.text) := hq.cell 5
  have k6 : wr.cell? ⟨q, 6, none⟩ = some (I x.1.keep) := hq.cell 6
  have k7 : wr.cell? ⟨q, 7, none⟩ = some (.bool x.1.will) := hq.cell 7
  have k8 : wr.cell? ⟨q, 8, none⟩ = some (S x.1.topic) := hq.cell 8
  have k9 : wr.cell? ⟨q, 9, none⟩ = some (.bool x.1.clean) := hq.cell 9
  have k10 : wr.cell? ⟨q, 10, none⟩ = some nv := hq.cell 10
  have k11 : wr.cell? ⟨q, 11, none⟩ = some cv := hq.cell 11
  have hh : ReadB w x (.returned (.tuple #[.agg #[I x.1.kind, I x.1.flags, I x.1.id, I x.1.code, S x.1.name, S x.1.text, I x.1.keep, .bool x.1.will, S x.1.topic, .bool x.1.clean, nv, cv], .bool b])) wr := ⟨hb, nv, cv, by rw [hx]; rfl, hn, hc⟩
  simp [bodyPost, results, Try.results25, go_sem, h6, h7, hh, k0, k1, k2, k3, k4, k5, k6, k7, k8, k9, k10, k11]
/-- A row grown. -/
theorem RB.grow {w wr w1 w3 : World} {r p q : Nat} {x y : Rp.St} {P : Pk} {nv cv : Value} (h : RB w wr r p q x P nv cv) {e1 e2 : TypeId} {mv mv' ov : Value} {n n' no : Nat} {xs xs' os : List Value}
    (mr : wr.ownsRow (p + 1) e1 1 mv n xs) (hor : wr.ownsRow (p + 1) e2 1 ov no os) (dj : ∀ g, mv.ownBlock = some g → ov.ownBlock ≠ some g) (hm : Mod (fun k => k = r) wr w1) (hr : RdB w1 r y) (ob : Obj) (ho3 : w3.ownsRow (p + 1) e1 1 mv' n' xs')
    (hg3 : (w1.alloc ob).grownBy w3 mv.ownBlock) (hb3 : mv'.ownBlock = mv.ownBlock ∨ mv'.ownBlock = some (w1.alloc ob).heap.size) :
    RB w w3 r p q y P nv cv ∧ w3.ownsRow (p + 1) e2 1 ov no os ∧ ∀ g, mv'.ownBlock = some g → ov.ownBlock ≠ some g := by
  have h1 := h.read hr hm
  have hsz : (w1.alloc ob).heap.size = w1.heap.size + 1 := by simp
  have g1 := h.lo
  have g2 := h.qr
  have g3 := h.rp
  have g4 := h1.lt
  have hst : ∀ k, k < w1.heap.size → mv.ownBlock ≠ some k → w3.heap[k]? = w1.heap[k]? := fun k hk hn => (hg3.block k (by omega) (fun e => hn e.symm)).trans (Below.heap_alloc w1 ob _ hk)
  have hbel : Below w.heap.size w w3 := (h1.below.alloc h1.below.size ob).grown hg3 (by have := h1.below.size; omega) (fun k hk => by have := (own_lt mr k hk).1; omega)
  have hov : ∀ k, ov.ownBlock = some k → w3.heap[k]? = wr.heap[k]? := fun k hk => by
    have hk2 := own_lt hor k hk
    exact (hst k (Nat.lt_of_lt_of_le hk2.2 hm.size) (fun e => dj k e hk)).trans (hm.block k hk2.2 (by omega))
  refine ⟨⟨h1.rd.keep (hst r (by omega) (own_ge mr (by omega))), h1.pk.keep (hst p (by omega) (own_ge mr (by omega))), h1.qk.keep (hst q (by omega) (own_ge mr (by omega))), hbel, g1, g2, g3⟩, own_mod hor hov, fun g hg e => ?_⟩
  rcases hb3 with h3 | h3
  · exact dj g (h3.symm.trans hg) e
  · have h4 := (own_lt hor g e).2
    have h5 := hm.size
    rw [h3] at hg
    have h6 := Option.some.inj hg
    omega
theorem KeepOne.grown {b : Nat} {w w' : World} {o : Option Nat} (h : w.grownBy w' o) (hb : b < w.heap.size) (ho : o ≠ some b) : KeepOne b w w' := ⟨h.block b hb (fun e => ho e.symm), h.size⟩
/-- What a round of the loop finds. -/
structure LI (w wr : World) (r p q : Nat) (x : Rp.Lp) (P : Pk) (nv cv : Value) (k : Nat) (Y : Rp.Lp) : Prop where
  rb : RB w wr r p q x.r P nv cv
  nr : wr.ownsRow (p + 1) 9 1 nv x.ns.length (x.ns.map S)
  cr : wr.ownsRow (p + 1) 3 1 cv x.cs.length (x.cs.map I)
  dj : ∀ g, nv.ownBlock = some g → cv.ownBlock ≠ some g
  nl : x.ns.length ≤ x.n
  cl : x.cs.length ≤ x.n
  eq : Rp.loop k (33 - x.n) x = Y
theorem Rp.loop_go {k : Nat} {x : Rp.Lp} (h : Rp.goes x = true) (hn : x.n ≤ 32) : Rp.loop k (33 - x.n) x = Rp.loop k (33 - (x.n + 1)) (Rp.round k x) := by
  obtain ⟨m, hm⟩ : ∃ m, 33 - x.n = m + 1 := ⟨32 - x.n, by omega⟩
  rw [hm, show 33 - (x.n + 1) = m by omega]
  conv => lhs; unfold Rp.loop
  rw [if_pos h]
end Go.Proofs.Ytnljmllkfmgclaa
