/-
  THE DOCUMENT'S DRUM, third file: Off in one, operation. Conditions: those that each contract names.
-/
import Derived.Test.YtoaeapnkefjpaaaRefP2
namespace Go.Proofs.Ytoaeapnkefjpaaa
open Go.RowKit
set_option linter.unusedVariables false
set_option linter.unusedSimpArgs false

theorem roff_any (w : World) (p : Nat) (own : Nat → Prop) (D : DS) (k : Int) (h : RefAt w p own D) (hk : -9223372036854775808 ≤ k ∧ k ≤ 9223372036854775807) :
    Calls Try.prog 47 #[.pointer (some ⟨p, 0, none⟩), I k] w fun e w' => e = .returned (.tuple #[]) ∧ Reffed' own p w (D.Off k) w' := by
  by_cases ho : D.off = true
  · have e : D.Off k = D := by unfold DS.Off; rw [if_pos ho]
    rw [e]
    exact (roff_off w p own D k h ho).mono fun e w' ⟨h1, h2⟩ => ⟨h1, h2 ▸ ⟨own, h, fun _ hh => .inl hh, Mod.refl _ _⟩⟩
  · have e : D.Off k = { D with safe := DS.lay D.safe k D.waits, waits := [], off := true, armed := 0 } := by unfold DS.Off; rw [if_neg ho]
    rw [e]
    exact roff_on w p own D k h hk (by simpa using ho)
set_option maxRecDepth 100000 in
set_option maxHeartbeats 800000 in
theorem roper_any (w : World) (p : Nat) (own : Nat → Prop) (D : DS) (h : RefAt w p own D) (ho : D.off = false) :
    Calls Try.prog 93 #[.pointer (some ⟨p, 0, none⟩)] w fun e w' => e = .returned (.bool D.op.off) ∧ Reffed' own p w D.op w' := by
  obtain ⟨sv, wv, xv, ss, xs, pb, h⟩ := h
  have c4 := h.c4
  have c5 := h.c5
  have c6 := h.c6
  have fr := h.fr
  have har := h.ok.armed
  have H := hid h
  have HO := hid ho
  clear h ho
  by_cases h0 : 0 < D.armed
  case neg =>
    have hz : D.armed = 0 := by omega
    rw [hz] at c5
    go_enter Try.func93, Try.ntmps93
    go_wp2
    go_ret
    have h1 := H.out
    have ha := h1.setp 4 (I (DS.inc D.ops)) { D with ops := DS.inc D.ops } h1.ok.inc rfl rfl rfl
    unfold DS.op
    rw [if_neg (by omega)]
    exact ⟨by show _ = Ending.returned (.bool D.off); rw [HO.out]; rfl, own, ⟨sv, wv, xv, ss, xs, pb, ha⟩, fun _ hh => .inl hh, Mod.set h1.op⟩
  have hnz : ¬ D.armed = 0 := by omega
  by_cases h2 : D.armed = 1
  case neg =>
    have hgt : 0 < D.armed - 1 := by omega
    go_enter Try.func93, Try.ntmps93
    go_wp2
    go_ret
    have h1 := H.out
    have ha := h1.setp 4 (I (DS.inc D.ops)) { D with ops := DS.inc D.ops } h1.ok.inc rfl rfl rfl
    have hc := ha.setp 5 (I (D.armed - 1)) { D with ops := DS.inc D.ops, armed := D.armed - 1 } (ha.ok.armed' (by show 0 ≤ D.armed - 1 ∧ D.armed - 1 ≤ _; omega)) rfl rfl rfl
    unfold DS.op
    rw [if_pos (by omega), if_neg (by omega)]
    exact ⟨by show _ = Ending.returned (.bool D.off); rw [HO.out]; rfl, own, ⟨sv, wv, xv, ss, xs, pb, hc⟩, fun _ hh => .inl hh, (Mod.set h1.op).trans (Mod.set h1.op)⟩
  go_enter Try.func93, Try.ntmps93
  rw [h2] at c5
  have h1 := H.out
  have ha := h1.setp 4 (I (DS.inc D.ops)) { D with ops := DS.inc D.ops } h1.ok.inc rfl rfl rfl
  have hb := ha.setp 5 (I 0) { D with ops := DS.inc D.ops, armed := 0 } (ha.ok.armed' (x := 0) (by simp)) rfl rfl rfl
  have hat : RefAt _ p own { D with ops := DS.inc D.ops, armed := 0 } := ⟨sv, wv, xv, ss, xs, pb, hb⟩
  have HA := hid hat
  clear h1 ha hb hat
  go_wp2_with (go_at_call 47; refine (roff_any _ p own _ D.keep HA.out H.out.ok.keep).mono ?_; rintro e w1 ⟨rfl, own', h1, hN, hm⟩; have H1 := hid h1; have HN := hid hN; have HM := hid hm; clear h1 hm hN)
  go_ret
  unfold DS.op
  rw [if_pos (by omega), if_pos (by omega)]
  refine ⟨?_, own', H1.out, fun i hi => ?_, ((Mod.set H.out.op).trans (Mod.set H.out.op)).trans HM.out⟩
  · have e : ((DS.Off { D with ops := DS.inc D.ops, armed := 0 } D.keep)).off = true := by
      unfold DS.Off
      rw [if_neg (by show ¬ D.off = true; rw [HO.out]; decide)]
    rw [e]
    rfl
  · rcases HN.out i hi with hh | hh
    · exact .inl hh
    · right; simpa using hh
end Go.Proofs.Ytoaeapnkefjpaaa
