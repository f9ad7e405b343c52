/-
  THE WALKS of package seal's sums: halves, Add, Start, Of: each tells what Sum.lean says. Conditions: the arguments are of their kinds, the slice can be read.
-/
import Derived.Test.YtoaeapnkefjpaaaRows
import Derived.Test.YtoaeapnkefjpaaaMem
import Derived.Test.YtoaeapnkefjpaaaSum
namespace Go.Proofs.Ytoaeapnkefjpaaa
open Go.RowKit
set_option linter.unusedVariables false
set_option linter.unusedSimpArgs false

theorem ret_int {k : IntKind} {a b : Int} (h : a = b) : Ending.returned (.int k a) = .returned (.int k b) := by rw [h]
theorem ret_int2 {k j : IntKind} {a b c d : Int} (h : a = b) (h' : c = d) : Ending.returned (.tuple #[.int k a, .int j c]) = .returned (.tuple #[.int k b, .int j d]) := by rw [h, h']

theorem halves_any (s : Int) (h0 : 0 ≤ s) (h1 : s < 18446744073709551616) (w : World) :
    Calls Try.prog 75 #[.int .u64 s] w fun e w' => e = .returned (.tuple #[.int .u64 (Sum.hi s), .int .u64 (Sum.lo s)]) ∧ w = w' := by
  have e1 := Sum.and31 (s / 2147483648) (by omega) (by omega)
  have e2 := Sum.and31 s h0 h1
  have H1 := hid e1
  have H2 := hid e2
  clear e1 e2
  go_enter Try.func75, Try.ntmps75
  go_wp2
  go_ret2
  refine ⟨ret_int2 ?_ ?_, rfl⟩
  · rw [H1.out, Int.tmod_eq_emod_of_nonneg (by omega)]; rfl
  · rw [H2.out, Int.tmod_eq_emod_of_nonneg (by omega)]; rfl

theorem byte_bd (c : UInt8) : 0 ≤ (c.toNat : Int) ∧ (c.toNat : Int) ≤ 255 := by have := c.toNat_lt; omega

set_option maxRecDepth 100000 in
set_option maxHeartbeats 800000 in
theorem add_any (s : Int) (h0 : 0 ≤ s) (h1 : s < 18446744073709551616) (v : Value) (l : List UInt8) (w : World) (hv : Sees w v l) :
    Calls Try.prog 26 #[.int .u64 s, v] w fun e w' => e = .returned (.int .u64 (Sum.add s l)) ∧ w = w' := by
  have a1 := Sum.hi_range s
  have a2 := Sum.lo_range s
  rcases hv.open with ⟨rfl, ao, cap, rfl, hcap⟩ | ⟨g, off, cap, hp, rfl, hlc, hcap, hc⟩
  · have H1 := hid (Sum.or31 (Sum.hi s) (Sum.lo s) a1.1 (by omega) a2.1 (by omega))
    go_enter Try.func26, Try.ntmps26
    go_wp2_with (go_at_call 75; refine (halves_any s h0 h1 _).mono ?_; rintro e w' ⟨rfl, rfl⟩)
    go_loop [5, 6, 16] (fun x y i => i = .int .i64 0 ∧ x = .int .u64 (Sum.hi s) ∧ y = .int .u64 (Sum.lo s)) (fun _ _ _ => 0)
    case atStart => exact ⟨rfl, rfl, rfl⟩
    case round =>
      obtain ⟨rfl, rfl, rfl⟩ := hrel
      go_wp2
      go_ret
      exact ⟨ret_int (by rw [H1.out]; rfl), rfl⟩
  · unfold maxLen at hcap
    have HC := hid hc
    clear hc
    go_enter Try.func26, Try.ntmps26
    go_wp2_with (go_at_call 75; refine (halves_any s h0 h1 _).mono ?_; rintro e w' ⟨rfl, rfl⟩)
    go_loop [5, 6, 16] (fun x y i => ∃ k : Nat, k ≤ l.length ∧ i = .int .i64 k ∧ x = .int .u64 (Sum.hash 257 (Sum.hi s) (l.take k)) ∧ y = .int .u64 (Sum.hash 65599 (Sum.lo s) (l.take k))) (fun _ _ i => l.length - (intOf i).toNat)
    case atStart => exact ⟨0, Nat.zero_le _, rfl, rfl, rfl⟩
    case round =>
      obtain ⟨k, hk, rfl, rfl, rfl⟩ := hrel
      have b1 := Sum.hash_range 257 (l.take k) (Sum.hi s) a1.1 a1.2
      have b2 := Sum.hash_range 65599 (l.take k) (Sum.lo s) a2.1 a2.2
      generalize hX : Sum.hash 257 (Sum.hi s) (l.take k) = X at *
      generalize hY : Sum.hash 65599 (Sum.lo s) (l.take k) = Y at *
      have HX := hid hX
      have HY := hid hY
      clear hX hY
      by_cases hlt : k < l.length
      · have hck : w.cell? ⟨g, off + k, none⟩ = some (.int .u8 (l[k].toNat : Int)) := HC.out k _ (List.getElem?_eq_getElem hlt)
        have bb := byte_bd l[k]
        go_wp2
        go_round
        case rel =>
          refine ⟨k + 1, by omega, by go_num, ?_, ?_⟩
          · rw [List.take_succ_eq_append_getElem hlt, Sum.hash_snoc, HX.out]; unfold Sum.st; rw [Int.mul_comm 257 X]
          · rw [List.take_succ_eq_append_getElem hlt, Sum.hash_snoc, HY.out]; unfold Sum.st; rw [Int.mul_comm 65599 Y]
        case measure => simp [intOf]; omega
      · have H1 := hid (Sum.or31 X Y b1.1 (by omega) b2.1 (by omega))
        go_wp2
        go_ret
        refine ⟨ret_int ?_, rfl⟩
        obtain rfl : k = l.length := by omega
        rw [H1.out, ← HX.out, ← HY.out, List.take_length]
        rfl

theorem tmod_pos (x : Int) (h : 0 ≤ x) : x.tmod 2147483647 = x % 2147483647 := Int.tmod_eq_emod_of_nonneg h
theorem tmod_cases (s : Int) : -2147483646 ≤ s.tmod 2147483647 ∧ s.tmod 2147483647 ≤ 2147483646 ∧ (s.tmod 2147483647 + 2147483647) % 2147483647 = s % 2147483647 ∧ (s.tmod 2147483647 < 0 → s.tmod 2147483647 + 2147483647 = s % 2147483647) ∧ (0 ≤ s.tmod 2147483647 → s.tmod 2147483647 = s % 2147483647) := by
  have h : s.tmod 2147483647 = _ := Int.tmod_eq_emod
  split at h <;> omega

theorem start_any (s : Int) (w : World) (h0 : -9223372036854775808 ≤ s) (h1 : s ≤ 9223372036854775807) :
    Calls Try.prog 24 #[.int .i64 s] w fun e w' => e = .returned (.int .u64 (Sum.start s)) ∧ w = w' := by
  obtain ⟨c1, c2, c3, -, -⟩ := tmod_cases s
  have c4 : s.tmod 2147483647 % 2147483647 = Sum.rest s := by unfold Sum.rest; omega
  have c5 : (s.tmod 2147483647 + 1) % 2147483647 = (Sum.rest s + 1) % 2147483647 := by unfold Sum.rest; omega
  have HC := hid c4
  have HD := hid c5
  have a := Sum.rest_range s
  have H1 := hid (Sum.or31 (Sum.rest s) ((Sum.rest s + 1) % 2147483647) a.1 (by omega) (by omega) (by omega))
  clear c3 c4 c5
  go_enter Try.func24, Try.ntmps24
  go_wp2
  go_ret
  refine ⟨ret_int ?_, rfl⟩
  rw [HC.out, HD.out]
  exact H1.out
theorem of_any (s : Int) (h0 : -9223372036854775808 ≤ s) (h1 : s ≤ 9223372036854775807) (v : Value) (l : List UInt8) (w : World) (hv : Sees w v l) :
    Calls Try.prog 28 #[.int .i64 s, v] w fun e w' => e = .returned (.int .u64 (Sum.of s l)) ∧ w = w' := by
  have a := Sum.start_range s
  go_enter Try.func28, Try.ntmps28
  go_wp2_with (first | (go_at_call 24; refine (start_any s _ h0 h1).mono ?_; rintro e w' ⟨rfl, rfl⟩) | (go_at_call 26; refine (add_any (Sum.start s) (by omega) (by omega) v l _ hv).mono ?_; rintro e w' ⟨rfl, rfl⟩))
  go_ret
  exact ⟨rfl, rfl⟩

/-! ### The references -/
theorem rstart_any (s : Int) (w : World) (h0 : -9223372036854775808 ≤ s) (h1 : s ≤ 9223372036854775807) :
    Calls Try.prog 25 #[.int .i64 s] w fun e w' => e = .returned (.int .u64 (Sum.start s)) ∧ w = w' := by
  obtain ⟨c1, c2, -, c4, c5⟩ := tmod_cases s
  have a := Sum.rest_range s
  by_cases hn : s.tmod 2147483647 < 0
  · have HC := hid (c4 hn)
    have b : 0 ≤ s.tmod 2147483647 + 2147483647 ∧ s.tmod 2147483647 + 2147483647 < 2147483647 := by omega
    clear c4 c5
    go_enter Try.func25, Try.ntmps25
    go_wp2
    go_ret
    refine ⟨ret_int ?_, rfl⟩
    rw [HC.out]
    rfl
  · have HC := hid (c5 (by omega))
    have b : 0 ≤ s.tmod 2147483647 ∧ s.tmod 2147483647 < 2147483647 := by omega
    clear c4 c5
    go_enter Try.func25, Try.ntmps25
    go_wp2
    go_ret
    refine ⟨ret_int ?_, rfl⟩
    rw [HC.out]
    rfl
set_option maxRecDepth 100000 in
set_option maxHeartbeats 800000 in
theorem radd_any (s : Int) (h0 : 0 ≤ s) (h1 : s < 18446744073709551616) (v : Value) (l : List UInt8) (w : World) (hv : Sees w v l) :
    Calls Try.prog 27 #[.int .u64 s, v] w fun e w' => e = .returned (.int .u64 (Sum.add s l)) ∧ w = w' := by
  have a1 := Sum.hi_range s
  have a2 := Sum.lo_range s
  rcases hv.open with ⟨rfl, ao, cap, rfl, hcap⟩ | ⟨g, off, cap, hp, rfl, hlc, hcap, hc⟩
  · go_enter Try.func27, Try.ntmps27
    go_wp2
    refine wp_loop_once ?_
    go_wp2
    go_ret
    exact ⟨rfl, rfl⟩
  · unfold maxLen at hcap
    have HC := hid hc
    clear hc
    go_enter Try.func27, Try.ntmps27
    go_wp2
    go_loop [5, 6, 7] (fun x y i => ∃ k : Nat, k ≤ l.length ∧ i = .int .i64 k ∧ x = .int .u64 (Sum.hash 257 (Sum.hi s) (l.take k)) ∧ y = .int .u64 (Sum.hash 65599 (Sum.lo s) (l.take k))) (fun _ _ i => l.length - (intOf i).toNat)
    case atStart => exact ⟨0, Nat.zero_le _, rfl, rfl, rfl⟩
    case round =>
      obtain ⟨k, hk, rfl, rfl, rfl⟩ := hrel
      have b1 := Sum.hash_range 257 (l.take k) (Sum.hi s) a1.1 a1.2
      have b2 := Sum.hash_range 65599 (l.take k) (Sum.lo s) a2.1 a2.2
      generalize hX : Sum.hash 257 (Sum.hi s) (l.take k) = X at *
      generalize hY : Sum.hash 65599 (Sum.lo s) (l.take k) = Y at *
      have HX := hid hX
      have HY := hid hY
      clear hX hY
      by_cases hlt : k < l.length
      · have hck : w.cell? ⟨g, off + k, none⟩ = some (.int .u8 (l[k].toNat : Int)) := HC.out k _ (List.getElem?_eq_getElem hlt)
        have bb := byte_bd l[k]
        go_wp2
        go_round
        case rel =>
          refine ⟨k + 1, by omega, by go_num, ?_, ?_⟩
          · rw [List.take_succ_eq_append_getElem hlt, Sum.hash_snoc, HX.out]; rfl
          · rw [List.take_succ_eq_append_getElem hlt, Sum.hash_snoc, HY.out]; rfl
        case measure => simp [intOf]; omega
      · go_wp2
        go_ret
        refine ⟨ret_int ?_, rfl⟩
        obtain rfl : k = l.length := by omega
        rw [← HX.out, ← HY.out, List.take_length]
        rfl
theorem rof_any (s : Int) (h0 : -9223372036854775808 ≤ s) (h1 : s ≤ 9223372036854775807) (v : Value) (l : List UInt8) (w : World) (hv : Sees w v l) :
    Calls Try.prog 29 #[.int .i64 s, v] w fun e w' => e = .returned (.int .u64 (Sum.of s l)) ∧ w = w' := by
  have a := Sum.start_range s
  go_enter Try.func29, Try.ntmps29
  go_wp2_with (first | (go_at_call 25; refine (rstart_any s _ h0 h1).mono ?_; rintro e w' ⟨rfl, rfl⟩) | (go_at_call 27; refine (radd_any (Sum.start s) (by omega) (by omega) v l _ hv).mono ?_; rintro e w' ⟨rfl, rfl⟩))
  go_ret
  exact ⟨rfl, rfl⟩
end Go.Proofs.Ytoaeapnkefjpaaa
