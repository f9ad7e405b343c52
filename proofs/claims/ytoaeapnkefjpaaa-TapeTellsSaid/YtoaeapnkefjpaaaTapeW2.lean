/-
  THE TAPE'S LAWS: a drum and its tape that are newer than w0; wakes. Conditions: those that each contract names.
-/
import Derived.Test.YtoaeapnkefjpaaaRFrame
import Derived.Test.YtoaeapnkefjpaaaDrumG
namespace Go.Proofs.Ytoaeapnkefjpaaa
open Go.RowKit
set_option linter.unusedVariables false
set_option linter.unusedSimpArgs false

theorem TS.doIt_len (D : DS) (T : TS) (r : List UInt8) : (TS.doIt D T r).2.1.safe.length = D.safe.length := by
  rw [TS.doIt_eq]
  have h1 := TS.layR_len D T T.pos (TS.body T r)
  generalize TS.layR D T T.pos (TS.body T r) = X1 at *
  obtain ⟨e1, D1⟩ := X1
  simp only at h1 ⊢
  have h2 := DS.Flush_len D1
  generalize D1.Flush = X2 at *
  obtain ⟨e2, D2⟩ := X2
  have h3 := DS.write_len D2 (T.lo + T.pos / 256 : Nat) (TS.marked D2 T)
  simp only at h2 ⊢
  generalize D2.write (T.lo + T.pos / 256 : Nat) (TS.marked D2 T) = X3 at *
  obtain ⟨e3, D3⟩ := X3
  have h4 := DS.Flush_len D3
  simp only at h3 ⊢
  generalize D3.Flush = X4 at *
  obtain ⟨e4, D4⟩ := X4
  simp only at h4 ⊢
  split
  · exact h1
  · split
    · exact h2.trans h1
    · split
      · exact h3.trans (h2.trans h1)
      · split
        · exact h4.trans (h3.trans (h2.trans h1))
        · exact h4.trans (h3.trans (h2.trans h1))
theorem TS.append_len (D : DS) (T : TS) (r : List UInt8) : (TS.append D T r).2.1.safe.length = D.safe.length := by
  unfold TS.append
  split
  · rfl
  · split
    · rfl
    · split
      · rfl
      · exact TS.doIt_len D T r
theorem TS.doIt_waits (D : DS) (T : TS) (r : List UInt8) (hr : r.length ≤ 65536) : (TS.doIt D T r).2.1.waits.length ≤ D.waits.length + 400 := by
  rw [TS.doIt_eq]
  have h1 := TS.layR_waits D T T.pos (TS.body T r) (by have := TS.body_len T r; omega)
  generalize TS.layR D T T.pos (TS.body T r) = X1 at *
  obtain ⟨e1, D1⟩ := X1
  simp only at h1 ⊢
  have h2 := DS.Flush_waits D1
  generalize D1.Flush = X2 at *
  obtain ⟨e2, D2⟩ := X2
  have h3 := DS.write_waits' D2 (T.lo + T.pos / 256 : Nat) (TS.marked D2 T)
  simp only at h2 ⊢
  generalize D2.write (T.lo + T.pos / 256 : Nat) (TS.marked D2 T) = X3 at *
  obtain ⟨e3, D3⟩ := X3
  have h4 := DS.Flush_waits D3
  simp only at h3 ⊢
  generalize D3.Flush = X4 at *
  obtain ⟨e4, D4⟩ := X4
  simp only at h4 ⊢
  split
  · simp only; omega
  · split
    · simp only; omega
    · split
      · simp only; omega
      · split <;> (simp only; omega)
theorem TS.append_waits (D : DS) (T : TS) (r : List UInt8) : (TS.append D T r).2.1.waits.length ≤ D.waits.length + 400 := by
  unfold TS.append
  split
  · simp
  · split
    · simp
    · split
      · simp
      · exact TS.doIt_waits D T r (by omega)
/-- A drum and a tape over it, newer than w0. -/
structure TSt (w0 : World) (own : Nat → Prop) (p t : Nat) (T : TS) (D : DS) (w : World) : Prop where
  drum : St w0 own p D w
  tape : TapeIn w t p D.safe.length T
  nt : ¬ own t
  tf : w0.heap.size ≤ t
theorem TSt.on {w0 w w' : World} {own : Nat → Prop} {p t : Nat} {T : TS} {D : DS} (h : TSt w0 own p t T D w) (hb : Below w.heap.size w w') : TSt w0 own p t T D w' := ⟨h.drum.on hb, h.tape.below hb, h.nt, h.tf⟩
theorem tst_open {w0 w : World} {own : Nat → Prop} {p : Nat} {D : DS} (h : St w0 own p D w) (lo hi : Int) (hl : -9223372036854775808 ≤ lo ∧ lo ≤ 9223372036854775807) (hh : -9223372036854775808 ≤ hi ∧ hi ≤ 9223372036854775807) :
    Calls Try.prog 65 #[.pointer (some ⟨p, 0, none⟩), I lo, I hi] w fun e w' =>
      ((TS.opn D lo hi).1 ≠ 0 ∧ e = .returned (.tuple #[.pointer none, .slice none 0 0, I (TS.opn D lo hi).1]) ∧ Below w.heap.size w w') ∨
      ((TS.opn D lo hi).1 = 0 ∧ ∃ t v, e = .returned (.tuple #[.pointer (some ⟨t, 0, none⟩), v, I 0]) ∧ TSt w0 own p t ⟨lo.toNat, hi.toNat, (TS.opn D lo hi).2.2.1, (TS.opn D lo hi).2.2.2, 0⟩ D w' ∧ w.heap.size ≤ t ∧ Recs w' (t + 1) v (TS.opn D lo hi).2.1 ∧ Below w.heap.size w w') := by
  refine (open_any w p own D lo hi h.at' hl hh).mono fun e w' hx => ?_
  rcases hx with ⟨h1, h2, h3⟩ | ⟨h1, t, v, h2, h3, h4, h5, h6⟩
  · exact .inl ⟨h1, h2, h3⟩
  · exact .inr ⟨h1, t, v, h2, ⟨h.on h6, h4, fun e => by have := h.at'.lt t e; omega, Nat.le_trans h.below.size h3⟩, h3, h5, h6⟩
theorem tst_append {w0 w : World} {own : Nat → Prop} {p t : Nat} {T : TS} {D : DS} (h : TSt w0 own p t T D w) {v : Value} {r : List UInt8} (hv : Sees w v r) (hN : D.waits.length ≤ 800000000) :
    Calls Try.prog 66 #[.pointer (some ⟨t, 0, none⟩), v] w fun e w' => e = .returned (I (TS.append D T r).1) ∧ ∃ own', TSt w0 own' p t (TS.append D T r).2.2 (TS.append D T r).2.1 w' ∧ (∀ k, own' k → own k ∨ w.heap.size ≤ k) ∧ Mod (fun k => own k ∨ k = t) w w' := by
  refine (tappend_any w t p own T D v r h.tape h.drum.at' h.nt hv hN).mono fun e w' hx => ?_
  obtain ⟨h1, h2, own', h3, h4, h5⟩ := hx
  have htl := h.tape.lt
  refine ⟨h1, own', ⟨⟨h3, fun k hk => ?_, h.drum.below.trans (h5.below h.drum.below.size (fun i hi ho => ?_))⟩, by rw [TS.append_len]; exact h2, fun e => ?_, h.tf⟩, h4, h5⟩
  · rcases h4 k hk with h' | h'
    · exact h.drum.fresh k h'
    · exact Nat.le_trans h.drum.below.size h'
  · rcases ho with ho | ho
    · have := h.drum.fresh i ho; omega
    · have := h.tf; omega
  · rcases h4 t e with h' | h'
    · exact h.nt h'
    · omega
namespace Wk4
def D0 : DS := DS.new 3
def T0 : TS := ⟨1, 3, 0, 0, 0⟩
def hi2 : List UInt8 := [104, 105]
def X1 : Int × DS × TS := TS.append D0 T0 hi2
def D1 : DS := X1.2.1
def T1 : TS := X1.2.2
def P1 : List UInt8 := (D1.read 1).2
set_option maxRecDepth 100000
theorem opn0 : TS.opn D0 1 3 = (0, [], 0, 0) := by kernel_rfl
theorem x1 : X1.1 = 0 := by kernel_rfl
theorem ops1 : D1.ops = 4 := by kernel_rfl
theorem rd1 : (D1.read 1).1 = 0 := by kernel_rfl
theorem len1 : P1.length = 256 := by kernel_rfl
theorem frame1 : P1.take 14 = 1 :: TS.framed 0 hi2 ++ hi2 := by kernel_rfl
end Wk4
end Go.Proofs.Ytoaeapnkefjpaaa
