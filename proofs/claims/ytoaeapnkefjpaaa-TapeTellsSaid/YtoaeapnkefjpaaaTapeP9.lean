/-
  THE PROGRAM'S TAPE, ninth file: slices.Chunk and its iterator. Conditions: those that each contract names.
-/
import Derived.Test.YtoaeapnkefjpaaaTapeP8
namespace Go.Proofs.Ytoaeapnkefjpaaa
open Go.RowKit
set_option linter.unusedVariables false
set_option linter.unusedSimpArgs false

theorem chunk_any (w : World) (v : Value) (hv : ∃ ao n cap, v = .slice ao n cap) : Calls Try.prog 114 #[v, I 256] w fun e w' => e = .returned (.func (.func 115) #[] #[.pointer (some ⟨w.heap.size, 0, none⟩), .pointer (some ⟨w.heap.size + 1, 0, none⟩)]) ∧ (w.alloc (.cells #[v] 23)).alloc (.cells #[I 256] 3) = w' := by
  obtain ⟨ao, n, cap, rfl⟩ := hv
  have hmf := closes
  go_enter Try.func114, Try.ntmps114
  go_wp2
  go_ret
  exact ⟨rfl, rfl⟩
set_option maxRecDepth 100000 in
set_option maxHeartbeats 800000 in
theorem iter_any {m : Nat} (l bs bn g off cap k N : Nat) (hN : N = k * 256) (w : World) (J : Nat → World → Prop) (R : Ending → World → Prop) (hcap : N ≤ cap) (hmax : cap ≤ 9223372036854775807) (h0 : J 0 w)
    (hcell : ∀ i W, J i W → W.cell? ⟨bs, 0, none⟩ = some (.slice (some ⟨g, off, none⟩) N cap) ∧ W.cell? ⟨bn, 0, none⟩ = some (I 256))
    (hround : ∀ i W, i < k → J i W → ∃ fn tmps assign body, (Instr.yield l #[.slice (some ⟨g, off + i * 256, none⟩) 256 256]).run Try.prog W = .ok (.round l fn tmps assign body) W ∧
      RoundIn Fence.wide m Try.prog l fn tmps assign body W (fun e W' => (e = .returned (.bool true) ∧ J (i + 1) W') ∨ ∃ c, e = .panicked c ∧ R (.panicked c) W'))
    (hdraw : ∀ i W n, J i W → J i (W.drewN n)) (hend : ∀ W, J k W → R (.returned (.tuple #[])) W) :
    CallsIn Fence.wide (m + 1) Try.prog 115 #[.func (.yield l) #[] #[], .pointer (some ⟨bs, 0, none⟩), .pointer (some ⟨bn, 0, none⟩)] w R := by
  have H0 := hid h0
  have HC := hid hcell
  have HR := hid hround
  have HD := hid hdraw
  have HE := hid hend
  have HN := hid hN
  clear h0 hcell hround hdraw hend hN
  refine (callsIn_wide).2 ?_
  go_enter Try.func115, Try.ntmps115
  go_wp2
  go_loopw [4] (fun y wr => ∃ i x : Nat, i ≤ k ∧ x ≤ N ∧ Hid (x = i * 256) ∧ y = I x ∧ Hid (J i wr)) (fun y _ => N - (intOf y).toNat)
  case atStart => exact ⟨0, 0, Nat.zero_le _, Nat.zero_le _, hid rfl, rfl, H0⟩
  case round =>
    clear H0
    obtain ⟨i, x, hi, hx, HX, rfl, HJ⟩ := hrel
    obtain ⟨cs, cn⟩ := HC.out i wr HJ.out
    by_cases hlt : i < k
    · have hxN : x + 256 ≤ N := by have := HX.out; have := HN.out; omega
      have hne : ¬ cap = x := by omega
      have km : ∀ (ats : Array TypeId) (ty : TypeId) (w : World), (Builtin.min_ ats ty #[.int .i64 256, .int .i64 ((N : Int) - (x : Int))]).run Try.prog w = .ok (.int .i64 256) w := fun ats ty w => by
        have := run_min (P := Try.prog) ats ty 256 ((N : Int) - (x : Int)) w
        rw [this]
        congr 2
        omega
      go_wp2
      go_quiet (fail)
      have HJ2 := hid (HD.out i wr nq HJ.out)
      obtain ⟨fn, tmps, assign, body, hy, hR⟩ := HR.out i (wr.drewN nq) hlt HJ2.out
      rw [← HX.out] at hy
      have cs2 : (wr.drewN nq).cell? ⟨bs, 0, none⟩ = some (.slice (some ⟨g, off, none⟩) N cap) := cs
      have HRR := hid hR
      have HY := hid hy
      clear hR km cs cn HJ HJ2 hy
      generalize wr.drewN nq = w1 at *
      go_upto_region 4 with (fail)
      refine (wpIn_wide (n := m + 1)).1 ?_
      have hy := HY.out
      gi_wp2
      have HXi := hid (show x + 256 = (i + 1) * 256 by have := HX.out; omega)
      clear hy HY cs2
      refine HRR.out.mono ?_
      rintro e W' (⟨rfl, hj⟩ | ⟨c, rfl, hr⟩)
      · have HJ := hid hj
        obtain ⟨-, cn3⟩ := HC.out _ _ hj
        clear hj
        gi_wp2
        go_wp2
        go_roundw
        case rel => exact ⟨i + 1, x + 256, by omega, by omega, HXi, by go_num, HJ⟩
        case measure => simp [intOf]; omega
      · exact And.intro rfl hr
    · have e : i = k := by omega
      have hxN : x = N := by rw [HX.out, HN.out, e]
      subst hxN
      subst e
      go_wp2
      ((try simp only [Exit.inBlock, Exit.then]); first | refine bodyPost_end (results_none rfl _ _ _) rfl ?_ | refine bodyPost_ret (results_none rfl _ _ _) rfl ?_)
      exact HE.out _ HJ.out
end Go.Proofs.Ytoaeapnkefjpaaa
