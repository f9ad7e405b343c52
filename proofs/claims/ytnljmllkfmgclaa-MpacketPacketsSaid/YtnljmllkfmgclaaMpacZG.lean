/-
  THE DOCUMENT'S ANSWER: flags (16) of any numbers; what Encode (10) asks first. Conditions: those that each contract names.
-/
import Derived.Test.YtnljmllkfmgclaaMpacZE
import Derived.Test.YtnljmllkfmgclaaMpacZF
namespace Go.Proofs.Ytnljmllkfmgclaa
open Go.RowKit
set_option linter.unusedVariables false
set_option linter.unusedSimpArgs false

/-- What flags answers of any numbers. -/
def FlagsR (k n : Int) (w : World) (e : Ending) (w' : World) : Prop :=
  ∃ F : Bool, e = .returned (.bool F) ∧ w = w' ∧ (F = true → (1 ≤ k ∧ k ≤ 14) ∧ (k = 3 ∨ (0 ≤ n ∧ n ≤ 15))) ∧ (F = false → ¬ ((1 ≤ k ∧ k ≤ 14) ∧ (0 ≤ n ∧ n ≤ 15) ∧ Mp.flagsOk k.toNat n.toNat = true))
set_option maxRecDepth 100000 in
set_option maxHeartbeats 1600000 in
theorem flags16_gen (w : World) (k n : Int) : Calls Try.prog 16 #[I k, I n] w (FlagsR k n w) := by
  by_cases hr : (0 ≤ k ∧ k ≤ 15) ∧ 0 ≤ n ∧ n ≤ 15
  · have h := flags16_any w k.toNat n.toNat (by omega) (by omega)
    rw [show ((k.toNat : Nat) : Int) = k by omega, show ((n.toNat : Nat) : Int) = n by omega] at h
    refine h.mono ?_
    rintro e w' ⟨rfl, rfl⟩
    refine ⟨_, rfl, rfl, fun h => ?_, fun h hh => ?_⟩
    · have := Mp.flagsOk_kind h
      omega
    · rw [h] at hh
      cases hh.2.2
  · by_cases h3 : k = 3
    · subst h3
      have HR : Hid (¬ (0 ≤ n ∧ n ≤ 15)) := hid (by omega)
      clear hr
      go_enter Try.func16, Try.ntmps16
      go_wp2
      all_goals
        go_ret
        exact ⟨_, rfl, rfl, fun _ => ⟨by omega, .inl rfl⟩, fun _ hh => HR.out hh.2.1⟩
    · have HR := hid hr
      by_cases h6 : k = 6
      · subst h6
        have h2 : (n == 2) = false := by rw [beq_eq_false_iff_ne]; omega
        have h20 : ¬ n = 2 := by omega
        clear hr h3
        go_enter Try.func16, Try.ntmps16
        go_wp2
        go_ret
        exact ⟨false, rfl, rfl, (fun h => by cases h), fun _ hh => HR.out ⟨by omega, hh.2.1⟩⟩
      by_cases h8 : k = 8
      · subst h8
        have h2 : (n == 2) = false := by rw [beq_eq_false_iff_ne]; omega
        have h20 : ¬ n = 2 := by omega
        clear hr h3 h6
        go_enter Try.func16, Try.ntmps16
        go_wp2
        go_ret
        exact ⟨false, rfl, rfl, (fun h => by cases h), fun _ hh => HR.out ⟨by omega, hh.2.1⟩⟩
      by_cases h10 : k = 10
      · subst h10
        have h2 : (n == 2) = false := by rw [beq_eq_false_iff_ne]; omega
        have h20 : ¬ n = 2 := by omega
        clear hr h3 h6 h8
        go_enter Try.func16, Try.ntmps16
        go_wp2
        go_ret
        exact ⟨false, rfl, rfl, (fun h => by cases h), fun _ hh => HR.out ⟨by omega, hh.2.1⟩⟩
      have e3 : (k == 3) = false := by rw [beq_eq_false_iff_ne]; exact h3
      have e6 : (k == 6) = false := by rw [beq_eq_false_iff_ne]; exact h6
      have e8 : (k == 8) = false := by rw [beq_eq_false_iff_ne]; exact h8
      have e10 : (k == 10) = false := by rw [beq_eq_false_iff_ne]; exact h10
      by_cases h1 : 1 ≤ k
      rotate_left
      · have d1 : decide (1 ≤ k) = false := decide_eq_false h1
        clear hr
        go_enter Try.func16, Try.ntmps16
        go_wp2
        go_ret
        exact ⟨false, rfl, rfl, (fun h => by cases h), fun _ hh => by have := hh.1; omega⟩
      have d1 : decide (1 ≤ k) = true := decide_eq_true h1
      by_cases h14 : k ≤ 14
      rotate_left
      · have d14 : decide (k ≤ 14) = false := decide_eq_false h14
        clear hr
        go_enter Try.func16, Try.ntmps16
        go_wp2
        go_ret
        exact ⟨false, rfl, rfl, (fun h => by cases h), fun _ hh => by have := hh.1; omega⟩
      have d14 : decide (k ≤ 14) = true := decide_eq_true h14
      have h0 : (n == 0) = false := by rw [beq_eq_false_iff_ne]; omega
      clear hr
      go_enter Try.func16, Try.ntmps16
      go_wp2
      go_ret
      exact ⟨false, rfl, rfl, (fun h => by cases h), fun _ hh => HR.out ⟨by omega, hh.2.1⟩⟩
end Go.Proofs.Ytnljmllkfmgclaa
