/-
  THE PROGRAM'S TAPE, tenth file: lay. Conditions: those that each contract names.
-/
import Derived.Test.YtoaeapnkefjpaaaTapeP9
namespace Go.Proofs.Ytoaeapnkefjpaaa
open Go.RowKit
set_option linter.unusedVariables false
set_option linter.unusedSimpArgs false

namespace TS
theorem wr_append : ∀ (D : DS) (a : Nat) (l m : List (List UInt8)), wr D a (l ++ m) = if (wr D a l).1 = 0 then wr (wr D a l).2 (a + l.length) m else wr D a l
  | D, a, [], m => by simp [wr]
  | D, a, p :: ps, m => by
    rw [List.cons_append, wr, wr]
    by_cases h : (D.write a p).1 = 0
    · rw [if_pos h, if_pos h, wr_append]
      rw [show a + 1 + ps.length = a + (p :: ps).length from by rw [List.length_cons]; omega]
    · rw [if_neg h, if_neg h, if_neg h]
theorem wr_snoc (D : DS) (a : Nat) (l : List (List UInt8)) (p : List UInt8) {D1 : DS} (h : wr D a l = (0, D1)) : wr D a (l ++ [p]) = D1.write (a + l.length : Nat) p := by
  rw [wr_append, h]
  simp only [if_true, wr]
  split
  · rename_i h0
    exact Prod.ext h0.symm rfl
  · rfl
theorem wr_stop (D : DS) (a : Nat) (l m : List (List UInt8)) (h : (wr D a l).1 ≠ 0) : wr D a (l ++ m) = wr D a l := by
  rw [wr_append, if_neg h]
theorem wr_safe : ∀ (l : List (List UInt8)) (D : DS) (a : Nat), D.Ok → (wr D a l).2.Ok
  | [], D, a, h => h
  | p :: ps, D, a, h => by
    rw [wr]
    split
    · exact wr_safe ps _ _ (h.write _ _)
    · exact h.write _ _
end TS
theorem DS.Off_waits' (D : DS) (k : Int) : (D.Off k).waits.length ≤ D.waits.length := by unfold DS.Off; split <;> simp
theorem DS.op_waits' (D : DS) : D.op.waits.length ≤ D.waits.length := by
  unfold DS.op
  split
  · split
    · exact DS.Off_waits' _ _
    · exact Nat.le_refl _
  · exact Nat.le_refl _
theorem DS.write_waits' (D : DS) (a : Int) (l : List UInt8) : (D.write a l).2.waits.length ≤ D.waits.length + 1 := by
  unfold DS.write
  split
  · simp
  · split
    · simp
    · simp only []
      have := DS.op_waits' { D with waits := D.waits ++ [(a.toNat, l)] }
      simp only [List.length_append, List.length_cons, List.length_nil] at this
      split <;> simpa using this
theorem TS.wr_waits : ∀ (l : List (List UInt8)) (D : DS) (a : Nat), (TS.wr D a l).2.waits.length ≤ D.waits.length + l.length
  | [], D, a => by simp [TS.wr]
  | p :: ps, D, a => by
    rw [TS.wr]
    have h1 := DS.write_waits' D a p
    split
    · have := TS.wr_waits ps (D.write a p).2 (a + 1)
      rw [List.length_cons]; omega
    · rw [List.length_cons]; omega
theorem bytes_zero (w : World) (t : Nat) (a : Int) : Calls Try.prog 106 #[.pointer (some ⟨t, 0, none⟩), I a, I 0] w fun e w' => e = .returned (.slice none 0 0) ∧ w = w' := by
  go_enter Try.func106, Try.ntmps106
  go_wp2
  refine wp_loop_rounds 1 ?_
  rw [rounds_succ]
  go_wp2
  go_ret
  exact ⟨rfl, rfl⟩
/-- What stands ahead on the first page. -/
def TS.ahead (D : DS) (T : TS) (a : Nat) : List UInt8 := ((TS.bytes D T).drop (a / 256 * 256)).take (a % 256)
theorem ahead_any (w : World) (t p : Nat) (own : Nat → Prop) (T : TS) (D : DS) (h : TapeIn w t p D.safe.length T) (hd : DrumAt w p own D) (a : Nat) (ha : a ≤ T.size) (ho : D.off = false ∨ a % 256 = 0) :
    Calls Try.prog 106 #[.pointer (some ⟨t, 0, none⟩), I (a / 256 * 256 : Nat), I (a % 256 : Nat)] w (Fresh w (TS.ahead D T a)) := by
  rcases ho with ho | ho
  · exact bytes_on w t p own T D h hd ho _ _ (by omega)
  · unfold TS.ahead
    rw [ho, List.take_zero]
    refine (bytes_zero w t _).mono fun e w' hh => ?_
    obtain ⟨rfl, rfl⟩ := hh
    exact ⟨_, rfl, World.ownsRow_nil _ _ _ _, Below.refl _ _⟩
end Go.Proofs.Ytoaeapnkefjpaaa
