/-
  THE DOCUMENT'S DRUM, fifth file: Flush in one, Write. Conditions: those that each contract names.
-/
import Derived.Test.YtoaeapnkefjpaaaRefP4
namespace Go.Proofs.Ytoaeapnkefjpaaa
open Go.RowKit
set_option linter.unusedVariables false
set_option linter.unusedSimpArgs false

theorem rflush_any (w : World) (p : Nat) (own : Nat → Prop) (D : DS) (h : RefAt w p own D) :
    Calls Try.prog 53 #[.pointer (some ⟨p, 0, none⟩)] w fun e w' => e = .returned (I D.Flush.1) ∧ Reffed' own p w D.Flush.2 w' := by
  by_cases ho : D.off = true
  · have e : D.Flush = (20, D) := by unfold DS.Flush; rw [if_pos ho]
    rw [e]
    exact (rflush_off w p own D h ho).mono fun e w' ⟨h1, h2⟩ => ⟨h1, h2 ▸ ⟨own, h, fun _ hh => .inl hh, Mod.refl _ _⟩⟩
  · have ho' : D.off = false := by simpa using ho
    by_cases hE : D.op.off = true
    · have e : D.Flush = (20, D.op) := by unfold DS.Flush; rw [if_neg ho]; simp only [hE, if_true]
      rw [e]
      exact rflush_down w p own D h ho' hE
    · have hE' : D.op.off = false := by simpa using hE
      have e : D.Flush = (0, { D.op with safe := DS.flush D.op.safe D.op.waits, waits := [] }) := by unfold DS.Flush; rw [if_neg ho]; simp only [hE', Bool.false_eq_true, if_false]
      rw [e]
      exact rflush_on w p own D h ho' hE'
set_option maxRecDepth 100000 in
set_option maxHeartbeats 800000 in
theorem rwrite_bad (w : World) (p : Nat) (own : Nat → Prop) (D : DS) (a : Int) (v : Value) (l : List UInt8) (h : RefAt w p own D) (hv : Sees w v l) (ha : -9223372036854775808 ≤ a ∧ a ≤ 9223372036854775807) (hb : a < 0 ∨ (D.safe.length : Int) ≤ a ∨ l.length ≠ 256) :
    Calls Try.prog 51 #[.pointer (some ⟨p, 0, none⟩), I a, v] w fun e w' => e = .returned (I 1) ∧ w = w' := by
  obtain ⟨sv, wv, xv, ss, xs, pb, h⟩ := h
  have c0 := h.c0
  obtain ⟨ao, cap, rfl, hl⟩ := hv.form0
  obtain ⟨as0, cs, rfl⟩ := own_form h.hs
  have hn := h.ok.n2
  clear h hv
  by_cases h1 : a < 0
  · clear hb
    go_enter Try.func51, Try.ntmps51
    go_wp2
    go_ret
    exact ⟨rfl, rfl⟩
  by_cases h2 : (D.safe.length : Int) ≤ a
  · clear hb
    go_enter Try.func51, Try.ntmps51
    go_wp2
    go_ret
    exact ⟨rfl, rfl⟩
  have h3 : ¬ (l.length : Int) = 256 := by omega
  clear hb
  go_enter Try.func51, Try.ntmps51
  go_wp2
  go_ret
  exact ⟨rfl, rfl⟩
set_option maxRecDepth 100000 in
set_option maxHeartbeats 800000 in
theorem rwrite_off (w : World) (p : Nat) (own : Nat → Prop) (D : DS) (a : Nat) (v : Value) (l : List UInt8) (h : RefAt w p own D) (hv : Sees w v l) (ha : a < D.safe.length) (hl : l.length = 256) (ho : D.off = true) :
    Calls Try.prog 51 #[.pointer (some ⟨p, 0, none⟩), I a, v] w fun e w' => e = .returned (I 20) ∧ w = w' := by
  obtain ⟨sv, wv, xv, ss, xs, pb, h⟩ := h
  have c0 := h.c0
  have c3 : w.cell? ⟨p, 3, none⟩ = some (.bool false) := by have := h.c3; rw [ho] at this; exact this
  obtain ⟨ao, cap, rfl, -⟩ := hv.form0
  obtain ⟨as0, cs, rfl⟩ := own_form h.hs
  rw [hl]
  have hn := h.ok.n2
  clear h hv hl
  go_enter Try.func51, Try.ntmps51
  go_wp2
  go_ret
  exact ⟨rfl, rfl⟩
end Go.Proofs.Ytoaeapnkefjpaaa
