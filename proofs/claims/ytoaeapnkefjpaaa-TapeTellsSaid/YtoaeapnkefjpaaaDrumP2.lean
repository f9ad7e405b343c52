/-
  THE PROGRAM'S DRUM, second file: Off, On, Arm, op, what is asked of it. Conditions: those that each contract names.
-/
import Derived.Test.YtoaeapnkefjpaaaDrumP
namespace Go.Proofs.Ytoaeapnkefjpaaa
open Go.RowKit
set_option linter.unusedVariables false
set_option linter.unusedSimpArgs false

/-- What a call leaves of a drum: another state, nothing else changed. -/
def Drummed (own : Nat → Prop) (p : Nat) (w : World) (D : DS) (w' : World) : Prop := DrumAt w' p own D ∧ Mod own w w'

set_option maxRecDepth 100000 in
set_option maxHeartbeats 800000 in
theorem off_any (w : World) (p : Nat) (own : Nat → Prop) (D : DS) (k : Int) (h : DrumAt w p own D) (hk : -9223372036854775808 ≤ k ∧ k ≤ 9223372036854775807) :
    Calls Try.prog 46 #[.pointer (some ⟨p, 0, none⟩), I k] w fun e w' => e = .returned (.tuple #[]) ∧ Drummed own p w (D.Off k) w' := by
  obtain ⟨s, wv, h⟩ := h
  have c2 := h.c2
  by_cases ho : D.off = true
  · have H := hid h
    rw [ho] at c2
    clear h
    go_enter Try.func46, Try.ntmps46
    go_wp2
    ((try simp only [Exit.inBlock, Exit.then]); first | refine bodyPost_end (results_none rfl _ _ _) rfl ?_ | refine bodyPost_ret (results_none rfl _ _ _) rfl ?_)
    refine ⟨rfl, ?_, Mod.refl _ _⟩
    unfold DS.Off
    rw [if_pos ho]
    exact ⟨s, wv, H.out⟩
  · have ho' : D.off = false := by simpa using ho
    have H := hid h
    rw [ho'] at c2
    clear h
    go_enter Try.func46, Try.ntmps46
    go_wp2_with (go_at_call 91; refine (lay_any w p s wv own D k H.out hk).mono ?_; rintro e w1 ⟨rfl, h1, hm⟩; have c2 := h1.c2; have c4 := h1.c4; have fr := h1.fr; have H1 := hid h1; have HM := hid hm; clear h1 hm)
    ((try simp only [Exit.inBlock, Exit.then]); first | refine bodyPost_end (results_none rfl _ _ _) rfl ?_ | refine bodyPost_ret (results_none rfl _ _ _) rfl ?_)
    have h1 := H1.out
    have ha := h1.setp 2 (.bool true) { D with safe := DS.lay D.safe k D.waits, waits := [], off := true } _ ⟨h1.ok.n1, h1.ok.n2, h1.ok.page, h1.ok.wait, h1.ok.ops, h1.ok.armed, h1.ok.keep⟩ rfl rfl (.inl ⟨rfl, rfl⟩)
    have hb := ha.setp 4 (I 0) { D with safe := DS.lay D.safe k D.waits, waits := [], off := true, armed := 0 } _ ⟨h1.ok.n1, h1.ok.n2, h1.ok.page, h1.ok.wait, h1.ok.ops, by simp, h1.ok.keep⟩ rfl rfl (.inl ⟨rfl, rfl⟩)
    refine ⟨rfl, ?_, (HM.out.trans (Mod.set h1.op)).trans (Mod.set h1.op)⟩
    unfold DS.Off
    rw [if_neg ho]
    exact ⟨s, _, hb⟩
set_option maxRecDepth 100000 in
set_option maxHeartbeats 800000 in
theorem on_any (w : World) (p : Nat) (own : Nat → Prop) (D : DS) (h : DrumAt w p own D) :
    Calls Try.prog 48 #[.pointer (some ⟨p, 0, none⟩)] w fun e w' => e = .returned (.tuple #[]) ∧ Drummed own p w D.On w' := by
  obtain ⟨s, wv, h⟩ := h
  have c2 := h.c2
  have fr := h.fr
  have H := hid h
  clear h
  go_enter Try.func48, Try.ntmps48
  go_wp2
  ((try simp only [Exit.inBlock, Exit.then]); first | refine bodyPost_end (results_none rfl _ _ _) rfl ?_ | refine bodyPost_ret (results_none rfl _ _ _) rfl ?_)
  exact ⟨rfl, ⟨s, wv, H.out.setp 2 (.bool false) D.On _ H.out.ok.On rfl rfl (.inl ⟨rfl, rfl⟩)⟩, Mod.set H.out.op⟩
set_option maxRecDepth 100000 in
set_option maxHeartbeats 800000 in
theorem arm_any (w : World) (p : Nat) (own : Nat → Prop) (D : DS) (n k : Int) (h : DrumAt w p own D) (hn : -9223372036854775808 ≤ n ∧ n ≤ 9223372036854775807) (hk : -9223372036854775808 ≤ k ∧ k ≤ 9223372036854775807) :
    Calls Try.prog 44 #[.pointer (some ⟨p, 0, none⟩), I n, I k] w fun e w' => e = .returned (.tuple #[]) ∧ Drummed own p w (D.Arm n k) w' := by
  obtain ⟨s, wv, h⟩ := h
  have c4 := h.c4
  have c5 := h.c5
  have fr := h.fr
  have H := hid h
  have kM : ∀ (ats : Array TypeId) (ty : TypeId) (w : World), (Builtin.max_ ats ty #[.int .i64 n, .int .i64 0]).run Try.prog w = .ok (.int .i64 (max n 0)) w := fun ats ty w => run_max ats ty n 0 w
  clear h
  go_enter Try.func44, Try.ntmps44
  go_wp2
  ((try simp only [Exit.inBlock, Exit.then]); first | refine bodyPost_end (results_none rfl _ _ _) rfl ?_ | refine bodyPost_ret (results_none rfl _ _ _) rfl ?_)
  have h1 := H.out
  have ha := h1.setp 4 (I (max n 0)) { D with armed := max n 0 } _ (h1.ok.armed' (by omega)) rfl rfl (.inl ⟨rfl, rfl⟩)
  have hb := ha.setp 5 (I k) (D.Arm n k) _ (h1.ok.Arm hn.2 hk) rfl rfl (.inl ⟨rfl, rfl⟩)
  exact ⟨rfl, ⟨s, wv, hb⟩, (Mod.set h1.op).trans (Mod.set h1.op)⟩
set_option maxRecDepth 100000 in
set_option maxHeartbeats 800000 in
theorem ops_any (w : World) (p : Nat) (own : Nat → Prop) (D : DS) (h : DrumAt w p own D) :
    Calls Try.prog 59 #[.pointer (some ⟨p, 0, none⟩)] w fun e w' => e = .returned (I D.ops) ∧ w = w' := by
  obtain ⟨s, wv, h⟩ := h
  have c3 := h.c3
  clear h
  go_enter Try.func59, Try.ntmps59
  go_wp2
  go_ret
  exact ⟨rfl, rfl⟩
set_option maxRecDepth 100000 in
set_option maxHeartbeats 800000 in
theorem pages_any (w : World) (p : Nat) (own : Nat → Prop) (D : DS) (h : DrumAt w p own D) :
    Calls Try.prog 60 #[.pointer (some ⟨p, 0, none⟩)] w fun e w' => e = .returned (I D.safe.length) ∧ w = w' := by
  obtain ⟨s, wv, h⟩ := h
  have c0 := h.c0
  clear h
  go_enter Try.func60, Try.ntmps60
  go_wp2
  go_ret
  exact ⟨rfl, rfl⟩
set_option maxRecDepth 100000 in
set_option maxHeartbeats 800000 in
theorem down_any (w : World) (p : Nat) (own : Nat → Prop) (D : DS) (h : DrumAt w p own D) :
    Calls Try.prog 61 #[.pointer (some ⟨p, 0, none⟩)] w fun e w' => e = .returned (.bool D.off) ∧ w = w' := by
  obtain ⟨s, wv, h⟩ := h
  have c2 := h.c2
  clear h
  generalize D.off = b at *
  go_enter Try.func61, Try.ntmps61
  go_wp2
  go_ret
  exact ⟨rfl, rfl⟩
/-! ### a nil drum -/
set_option maxRecDepth 100000 in
set_option maxHeartbeats 800000 in
theorem off_nil (w : World) (k : Int) : Calls Try.prog 46 #[.pointer none, I k] w fun e w' => e = .returned (.tuple #[]) ∧ w = w' := by
  go_enter Try.func46, Try.ntmps46
  go_wp2
  ((try simp only [Exit.inBlock, Exit.then]); first | refine bodyPost_end (results_none rfl _ _ _) rfl ?_ | refine bodyPost_ret (results_none rfl _ _ _) rfl ?_)
  exact ⟨rfl, rfl⟩
theorem on_nil (w : World) : Calls Try.prog 48 #[.pointer none] w fun e w' => e = .returned (.tuple #[]) ∧ w = w' := by
  go_enter Try.func48, Try.ntmps48
  go_wp2
  ((try simp only [Exit.inBlock, Exit.then]); first | refine bodyPost_end (results_none rfl _ _ _) rfl ?_ | refine bodyPost_ret (results_none rfl _ _ _) rfl ?_)
  exact ⟨rfl, rfl⟩
theorem arm_nil (w : World) (n k : Int) : Calls Try.prog 44 #[.pointer none, I n, I k] w fun e w' => e = .returned (.tuple #[]) ∧ w = w' := by
  go_enter Try.func44, Try.ntmps44
  go_wp2
  ((try simp only [Exit.inBlock, Exit.then]); first | refine bodyPost_end (results_none rfl _ _ _) rfl ?_ | refine bodyPost_ret (results_none rfl _ _ _) rfl ?_)
  exact ⟨rfl, rfl⟩
theorem ops_nil (w : World) : Calls Try.prog 59 #[.pointer none] w fun e w' => e = .returned (I 0) ∧ w = w' := by
  go_enter Try.func59, Try.ntmps59
  go_wp2
  go_ret
  exact ⟨rfl, rfl⟩
theorem pages_nil (w : World) : Calls Try.prog 60 #[.pointer none] w fun e w' => e = .returned (I 0) ∧ w = w' := by
  go_enter Try.func60, Try.ntmps60
  go_wp2
  go_ret
  exact ⟨rfl, rfl⟩
theorem down_nil (w : World) : Calls Try.prog 61 #[.pointer none] w fun e w' => e = .returned (.bool false) ∧ w = w' := by
  go_enter Try.func61, Try.ntmps61
  go_wp2
  go_ret
  exact ⟨rfl, rfl⟩
end Go.Proofs.Ytoaeapnkefjpaaa
