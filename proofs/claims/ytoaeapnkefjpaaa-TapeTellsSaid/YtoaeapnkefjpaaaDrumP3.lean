/-
  THE PROGRAM'S DRUM, third file: op, Write. Conditions: those that each contract names.
-/
import Derived.Test.YtoaeapnkefjpaaaDrumP2
namespace Go.Proofs.Ytoaeapnkefjpaaa
open Go.RowKit
set_option linter.unusedVariables false
set_option linter.unusedSimpArgs false

set_option maxRecDepth 100000 in
set_option maxHeartbeats 800000 in
theorem op_any (w : World) (p : Nat) (own : Nat → Prop) (D : DS) (h : DrumAt w p own D) :
    Calls Try.prog 92 #[.pointer (some ⟨p, 0, none⟩)] w fun e w' => e = .returned (.bool D.op.off) ∧ Drummed own p w D.op w' := by
  obtain ⟨s, wv, h⟩ := h
  have c2 := h.c2
  have c3 := h.c3
  have c4 := h.c4
  have c5 := h.c5
  have fr := h.fr
  have har := h.ok.armed
  have H := hid h
  clear h
  by_cases h0 : 0 < D.armed
  case neg =>
    go_enter Try.func92, Try.ntmps92
    go_wp2
    go_ret
    have h1 := H.out
    have ha := h1.setp 3 (I (DS.inc D.ops)) { D with ops := DS.inc D.ops } _ h1.ok.inc rfl rfl (.inl ⟨rfl, rfl⟩)
    unfold DS.op
    rw [if_neg (by omega)]
    exact ⟨rfl, ⟨s, wv, ha⟩, Mod.set h1.op⟩
  by_cases h2 : D.armed = 1
  case neg =>
    go_enter Try.func92, Try.ntmps92
    go_wp2
    go_ret
    have h1 := H.out
    have ha := h1.setp 3 (I (DS.inc D.ops)) { D with ops := DS.inc D.ops } _ h1.ok.inc rfl rfl (.inl ⟨rfl, rfl⟩)
    have hc := ha.setp 4 (I (D.armed - 1)) { D with ops := DS.inc D.ops, armed := D.armed - 1 } _ (ha.ok.armed' (by show 0 ≤ D.armed - 1 ∧ D.armed - 1 ≤ _; omega)) rfl rfl (.inl ⟨rfl, rfl⟩)
    unfold DS.op
    rw [if_pos h0, if_neg (by omega)]
    exact ⟨rfl, ⟨s, wv, hc⟩, (Mod.set h1.op).trans (Mod.set h1.op)⟩
  go_enter Try.func92, Try.ntmps92
  rw [h2] at c4
  have h1 := H.out
  have ha := h1.setp 3 (I (DS.inc D.ops)) { D with ops := DS.inc D.ops } _ h1.ok.inc rfl rfl (.inl ⟨rfl, rfl⟩)
  have hb := ha.setp 4 (I 0) { D with ops := DS.inc D.ops, armed := 0 } _ (ha.ok.armed' (x := 0) (by simp)) rfl rfl (.inl ⟨rfl, rfl⟩)
  have hat : DrumAt _ p own { D with ops := DS.inc D.ops, armed := 0 } := ⟨s, wv, hb⟩
  have HA := hid hat
  clear h1 ha hb hat
  go_wp2_with (go_at_call 46; refine (off_any _ p own _ D.keep HA.out H.out.ok.keep).mono ?_; rintro e w1 ⟨rfl, h1, hm⟩; have c2 := h1.choose_spec.choose_spec.c2; have H1 := hid h1; have HM := hid hm; clear h1 hm)
  go_ret
  unfold DS.op
  rw [if_pos h0, if_pos (by omega)]
  exact ⟨rfl, H1.out, ((Mod.set H.out.op).trans (Mod.set H.out.op)).trans HM.out⟩
end Go.Proofs.Ytoaeapnkefjpaaa
