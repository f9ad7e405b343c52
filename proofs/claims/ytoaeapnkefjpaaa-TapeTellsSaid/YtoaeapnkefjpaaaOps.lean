/-
  WHAT SINGLE OPERATIONS COME TO: slices cut, min and max of ints.
  Conditions: none beyond what each lemma names.
-/
import Derived.Test.YtoaeapnkefjpaaaReg
import Derived.Test.YtoaeapnkefjpaaaRows
namespace Go.Proofs.Ytoaeapnkefjpaaa
open Go.RowKit
set_option linter.unusedVariables false
set_option linter.unusedSimpArgs false

theorem run_min {P : Program} (ats : Array TypeId) (ty : TypeId) (x y : Int) (w : World) : (Builtin.min_ ats ty #[.int .i64 x, .int .i64 y]).run P w = .ok (.int .i64 (min x y)) w := by
  by_cases h : y < x
  · have e : min x y = y := by omega
    simp [Builtin.min_, Builtin.min2, h, e]
  · have e : min x y = x := by omega
    simp [Builtin.min_, Builtin.min2, h, e]
theorem run_max {P : Program} (ats : Array TypeId) (ty : TypeId) (x y : Int) (w : World) : (Builtin.max_ ats ty #[.int .i64 x, .int .i64 y]).run P w = .ok (.int .i64 (max x y)) w := by
  by_cases h : x < y
  · have e : max x y = y := by omega
    simp [Builtin.max_, Builtin.max2, h, e]
  · have e : max x y = x := by omega
    simp [Builtin.max_, Builtin.max2, h, e]

/-- b[lo:hi] of a slice of bytes. -/
def sl (a : Option Addr) (cap lo hi : Nat) : Value := .slice (if cap = lo then a else a.map (·.add lo)) (hi - lo) (cap - lo)
theorem Sees.sl {w : World} {a : Option Addr} {n cap lo hi : Nat} {L : List UInt8} (h : Sees w (.slice a n cap) L) (h1 : lo ≤ hi) (h2 : hi ≤ n) : Sees w (sl a cap lo hi) ((L.take hi).drop lo) := by
  obtain ⟨ao, c, hv, hc1, hc2, h3⟩ := h
  simp only [Value.slice.injEq] at hv
  obtain ⟨rfl, rfl, rfl⟩ := hv
  have hl : ((L.take hi).drop lo).length = hi - lo := by simp; omega
  refine ⟨_, cap - lo, by unfold Ytoaeapnkefjpaaa.sl; rw [hl], by omega, by omega, fun hp => ?_⟩
  obtain ⟨g, off, rfl, hc⟩ := h3 (by omega)
  have hne : cap ≠ lo := by omega
  refine ⟨g, off + lo, by rw [if_neg hne]; simp [add_off], fun i c hi' => ?_⟩
  rw [List.getElem?_drop, List.getElem?_take] at hi'
  split at hi'
  · rw [Nat.add_assoc]; exact hc (lo + i) c hi'
  · cases hi'
theorem info5' : (Try.prog.info? 5).map (fun i => (i.zero, i.size, i.bytes)) = some (some (.int .u8 0), 1, 1) := by kernel_rfl
theorem run_sl (a : Option Addr) (n cap lo hi : Nat) (h1 : lo ≤ hi) (h2 : hi ≤ cap) (w : World) : (Instr.sliceAt 23 (.slice a n cap) (some (.int .i64 lo)) (some (.int .i64 hi)) none).run Try.prog w = .ok (sl a cap lo hi) w := by
  obtain ⟨i5, hi5, -, hs, -⟩ := info_parts info5'
  have e1 : (0 : Int) ≤ (hi : Int) ∧ (hi : Int) ≤ (cap : Int) := by omega
  have e2 : (0 : Int) ≤ (lo : Int) ∧ (lo : Int) ≤ (hi : Int) := by omega
  simp [Instr.sliceAt, Instr.slice, Instr.sliceBounds, Instr.sliceBound, run_underlying Try.underlying23, sizeOf, typeInfo, hi5, hs, sl, asIntOf, h1, h2]
theorem run_sl_to (a : Option Addr) (n cap hi : Nat) (h2 : hi ≤ cap) (w : World) : (Instr.sliceAt 23 (.slice a n cap) none (some (.int .i64 hi)) none).run Try.prog w = .ok (sl a cap 0 hi) w := by
  obtain ⟨i5, hi5, -, hs, -⟩ := info_parts info5'
  simp [Instr.sliceAt, Instr.slice, Instr.sliceBounds, Instr.sliceBound, run_underlying Try.underlying23, sizeOf, typeInfo, hi5, hs, sl, asIntOf, h2]
theorem run_sl_from (a : Option Addr) (n cap lo : Nat) (h1 : lo ≤ n) (w : World) : (Instr.sliceAt 23 (.slice a n cap) (some (.int .i64 lo)) none none).run Try.prog w = .ok (sl a cap lo n) w := by
  obtain ⟨i5, hi5, -, hs, -⟩ := info_parts info5'
  simp [Instr.sliceAt, Instr.slice, Instr.sliceBounds, Instr.sliceBound, run_underlying Try.underlying23, sizeOf, typeInfo, hi5, hs, sl, asIntOf, h1]
/-- An operation's value out of its instruction's. -/
theorem val_of {P : Program} {s : Sem Value} {w w' : World} {v : Value} (h : s.run P w = .ok v w') : (do pure (Next.value (← s)) : Sem Next).run P w = .ok (.value v) w' := by
  simp [Sem.run_bind, h, Result.andThen]
end Go.Proofs.Ytoaeapnkefjpaaa
