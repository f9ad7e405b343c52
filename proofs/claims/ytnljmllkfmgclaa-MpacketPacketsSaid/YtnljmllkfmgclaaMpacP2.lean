/-
  THE PROGRAM: flags, length. Conditions: those that each contract names.
-/
import Derived.Test.YtnljmllkfmgclaaMpacP
namespace Go.Proofs.Ytnljmllkfmgclaa
open Go.RowKit
set_option linter.unusedVariables false
set_option linter.unusedSimpArgs false

theorem and8 (n : Nat) (h : n < 16) : Go.bits .and .i64 (n : Int) 8 = ((n / 8 % 2 * 8 : Nat) : Int) := by
  have : ∀ m : Fin 16, Go.bits .and .i64 ((m.val : Nat) : Int) 8 = ((m.val / 8 % 2 * 8 : Nat) : Int) := by decide +kernel
  exact this ⟨n, h⟩
theorem and3 (n : Nat) (h : n < 16) : Go.bits .and .i64 ((n : Int) / 2) 3 = ((n / 2 % 4 : Nat) : Int) := by
  have : ∀ m : Fin 16, Go.bits .and .i64 (((m.val : Nat) : Int) / 2) 3 = ((m.val / 2 % 4 : Nat) : Int) := by decide +kernel
  exact this ⟨n, h⟩
set_option maxRecDepth 100000 in
set_option maxHeartbeats 800000 in
theorem flags_any (w : World) (k n : Nat) (hk : k < 16) (hn : n < 16) : Calls Try.prog 22 #[I k, I n] w fun e w' => e = .returned (.bool (Mp.flagsOk k n)) ∧ w = w' := by
  have h8 := and8 n hn
  have h3 := and3 n hn
  have h16 : n = 0 ∨ n = 1 ∨ n = 2 ∨ n = 3 ∨ n = 4 ∨ n = 5 ∨ n = 6 ∨ n = 7 ∨ n = 8 ∨ n = 9 ∨ n = 10 ∨ n = 11 ∨ n = 12 ∨ n = 13 ∨ n = 14 ∨ n = 15 := by omega
  have k16 : k = 0 ∨ k = 1 ∨ k = 2 ∨ k = 3 ∨ k = 4 ∨ k = 5 ∨ k = 6 ∨ k = 7 ∨ k = 8 ∨ k = 9 ∨ k = 10 ∨ k = 11 ∨ k = 12 ∨ k = 13 ∨ k = 14 ∨ k = 15 := by omega
  have H16 := hid h16
  clear h16
  rcases k16 with rfl | rfl | rfl | rfl | rfl | rfl | rfl | rfl | rfl | rfl | rfl | rfl | rfl | rfl | rfl | rfl
  all_goals
    go_enter Try.func22, Try.ntmps22
    go_wp2
  all_goals
    go_ret
    refine ⟨?_, rfl⟩
    clear h8 h3
    rcases H16.out with rfl | rfl | rfl | rfl | rfl | rfl | rfl | rfl | rfl | rfl | rfl | rfl | rfl | rfl | rfl | rfl <;> first | rfl | simp_all
theorem and127 (c : UInt8) : Go.bits .and .u8 (c.toNat : Int) 127 = ((c.toNat % 128 : Nat) : Int) := by
  have : ∀ m : Fin 256, Go.bits .and .u8 ((m.val : Nat) : Int) 127 = ((m.val % 128 : Nat) : Int) := by decide +kernel
  exact this ⟨c.toNat, c.toNat_lt⟩
theorem and128 (c : UInt8) : Go.bits .and .u8 (c.toNat : Int) 128 = ((c.toNat / 128 * 128 : Nat) : Int) := by
  have : ∀ m : Fin 256, Go.bits .and .u8 ((m.val : Nat) : Int) 128 = ((m.val / 128 * 128 : Nat) : Int) := by decide +kernel
  exact this ⟨c.toNat, c.toNat_lt⟩
theorem or_add (k N x : Nat) (hk : k ≤ 2) (hN : N < 128 ^ k) (hx : x < 128) : Go.bits .or .i64 (N : Int) ((x * 128 ^ k : Nat) : Int) = ((N + x * 128 ^ k : Nat) : Int) := by
  have hp : (128 : Nat) ^ k = 2 ^ (7 * k) := by rw [Nat.pow_mul]
  have hj : N ||| x * 128 ^ k = N + x * 128 ^ k := by
    rw [hp] at hN ⊢
    have := Nat.two_pow_add_eq_or_of_lt (i := 7 * k) (b := N) hN x
    rw [Nat.mul_comm (2 ^ (7 * k)) x] at this
    rw [Nat.or_comm, ← this, Nat.add_comm]
  have hle : (128 : Nat) ^ k ≤ 16384 := by
    have : k = 0 ∨ k = 1 ∨ k = 2 := by omega
    rcases this with rfl | rfl | rfl <;> decide
  have hb : x * 128 ^ k ≤ 128 * 16384 := Nat.mul_le_mul (by omega) hle
  generalize x * 128 ^ k = y at *
  have hN2 : N < 16384 := by omega
  show IntKind.i64.wrap ((BitVec.ofInt 64 (N : Int) ||| BitVec.ofInt 64 (y : Int)).toNat : Int) = _
  rw [BitVec.toNat_or, ofInt_u64 _ (by omega), ofInt_u64 _ (by omega), hj, IntWalk.i64_in _ (by omega)]
/-- What 'length' comes to. -/
def Lengthed (w : World) (L : Mp.Len) (e : Ending) (w' : World) : Prop := w = w' ∧ match L with
  | .bad => e = .panicked gave
  | .short => e = .returned (.tuple #[I 0, I 0])
  | .got n k => e = .returned (.tuple #[I n, I k])
set_option maxRecDepth 100000 in
set_option maxHeartbeats 1600000 in
theorem length_any (w : World) (s : List UInt8) (hs : s.length ≤ 1048576) : Calls Try.prog 23 #[S s] w (Lengthed w (Mp.len s 3 0 0)) := by
  have hz : (str s).size = s.length := str_size _
  obtain ⟨L, hL⟩ : ∃ L, L = Mp.len s 3 0 0 := ⟨_, rfl⟩
  rw [← hL]
  have HL := hid hL
  clear hL
  go_enter Try.func23, Try.ntmps23
  go_wp2
  go_loop [4, 5] (fun x i => ∃ k N : Nat, k ≤ 2 ∧ k ≤ s.length ∧ N < 128 ^ k ∧ x = I N ∧ i = I k ∧ Hid (L = Mp.len s (3 - k) k N)) (fun _ i => 3 - (intOf i).toNat)
  case atStart => exact ⟨0, 0, by omega, by omega, by decide, rfl, rfl, HL⟩
  case round =>
    obtain ⟨k, N, hk, hks, hN, rfl, rfl, hl⟩ := hrel
    have HN := hid hN
    clear hN
    by_cases hlt : k < s.length
    · obtain ⟨c, hc⟩ : ∃ c, c = s[k] := ⟨_, rfl⟩
      have hg : ∀ h, (str s)[k]'h = c := fun _ => hc.symm
      have e1 := and127 c
      have e2 := and128 c
      have e3 := or_add k N (c.toNat % 128) hk HN.out (by omega)
      have hl' : L = Mp.len s (3 - k - 1 + 1) k N := by rw [hl.out]; congr 1; omega
      unfold Mp.len at hl'
      rw [List.getElem?_eq_getElem hlt, ← hc] at hl'
      simp only at hl'
      have HL2 := hid hl'
      have hlo := c.toNat_lt
      clear hl' hl hc HL
      obtain ⟨X, hX⟩ : ∃ X, X = c.toNat % 128 := ⟨_, rfl⟩
      obtain ⟨M, hM⟩ : ∃ M, M = N + X * 128 ^ k := ⟨_, rfl⟩
      rw [← hX] at e1 e3 HL2
      rw [← hM] at e3 HL2
      have hX2 : X < 128 := by omega
      have HX := hid hX
      have HM := hid hM
      have hw1 : IntKind.i64.wrap (X : Int) = (X : Int) := IntWalk.i64_in _ (by omega)
      have hMN : M < 128 ^ (k + 1) := by
        have := HN.out
        have hq : X * 128 ^ k ≤ 127 * 128 ^ k := Nat.mul_le_mul_right _ (by omega)
        rw [Nat.pow_succ]
        omega
      have HMN := hid hMN
      clear hX hM hMN
      by_cases hbad : 16384 < M ∨ (2 ≤ k ∧ 128 ≤ c.toNat)
      · rw [if_pos hbad] at HL2
        have hk3 : Hid (k = 0 ∨ k = 1 ∨ k = 2) := hid (by omega)
        have hw2 : IntKind.i64.wrap ((X : Int) * 128) = (X : Int) * 128 := IntWalk.i64_in _ (by omega)
        have hw3 : IntKind.i64.wrap ((X : Int) * 16384) = (X : Int) * 16384 := IntWalk.i64_in _ (by omega)
        by_cases hM1 : 16384 < M
        · clear hbad e2
          rcases hk3.out with rfl | rfl | rfl
          · have e3' : Go.bits .or .i64 (N : Int) (X : Int) = (M : Int) := by rw [← e3]; congr 1 <;> omega
            clear e3
            go_wp2_with (first | (go_at_call 21; refine (unless_ok _).mono ?_; rintro e w2 ⟨rfl, rfl⟩) | (go_at_call 21; refine (unless_no _).mono ?_; rintro e w2 ⟨rfl, rfl⟩))
            rw [HL2.out]
            exact ⟨rfl, rfl, rfl⟩
          · have e3' : Go.bits .or .i64 (N : Int) ((X : Int) * 128) = (M : Int) := by rw [← e3]; congr 1 <;> omega
            clear e3
            go_wp2_with (first | (go_at_call 21; refine (unless_ok _).mono ?_; rintro e w2 ⟨rfl, rfl⟩) | (go_at_call 21; refine (unless_no _).mono ?_; rintro e w2 ⟨rfl, rfl⟩))
            rw [HL2.out]
            exact ⟨rfl, rfl, rfl⟩
          · have e3' : Go.bits .or .i64 (N : Int) ((X : Int) * 16384) = (M : Int) := by rw [← e3]; congr 1 <;> omega
            clear e3
            go_wp2_with (first | (go_at_call 21; refine (unless_ok _).mono ?_; rintro e w2 ⟨rfl, rfl⟩) | (go_at_call 21; refine (unless_no _).mono ?_; rintro e w2 ⟨rfl, rfl⟩))
            rw [HL2.out]
            exact ⟨rfl, rfl, rfl⟩
        · have hbb : 2 ≤ k ∧ 128 ≤ c.toNat := by omega
          have e2' : Go.bits .and .u8 (c.toNat : Int) 128 = 128 := by rw [e2]; omega
          obtain rfl : k = 2 := by omega
          have e3' : Go.bits .or .i64 (N : Int) ((X : Int) * 16384) = (M : Int) := by rw [← e3]; congr 1 <;> omega
          clear e3 e2 hbad hbb
          go_wp2_with (first | (go_at_call 21; refine (unless_ok _).mono ?_; rintro e w2 ⟨rfl, rfl⟩) | (go_at_call 21; refine (unless_no _).mono ?_; rintro e w2 ⟨rfl, rfl⟩))
          rw [HL2.out]
          exact ⟨rfl, rfl, rfl⟩
      rw [if_neg hbad] at HL2
      have hk3 : Hid (k = 0 ∨ k = 1 ∨ k = 2) := hid (by omega)
      have hw2 : IntKind.i64.wrap ((X : Int) * 128) = (X : Int) * 128 := IntWalk.i64_in _ (by omega)
      have hw3 : IntKind.i64.wrap ((X : Int) * 16384) = (X : Int) * 16384 := IntWalk.i64_in _ (by omega)
      have hM1 : M ≤ 16384 := by omega
      by_cases hc1 : c.toNat < 128
      · rw [if_pos hc1] at HL2
        have e2' : Go.bits .and .u8 (c.toNat : Int) 128 = 0 := by rw [e2]; omega
        clear e2 hbad
        by_cases h0 : k = 0 ∨ c.toNat ≠ 0
        · rw [if_pos h0] at HL2
          rcases hk3.out with rfl | rfl | rfl
          · have e3' : Go.bits .or .i64 (N : Int) (X : Int) = (M : Int) := by rw [← e3]; congr 1 <;> omega
            clear e3 h0
            go_wp2_with (first | (go_at_call 21; refine (unless_ok _).mono ?_; rintro e w2 ⟨rfl, rfl⟩) | (go_at_call 21; refine (unless_no _).mono ?_; rintro e w2 ⟨rfl, rfl⟩))
            go_ret2
            rw [HL2.out]
            exact ⟨rfl, rfl⟩
          · have e3' : Go.bits .or .i64 (N : Int) ((X : Int) * 128) = (M : Int) := by rw [← e3]; congr 1 <;> omega
            have hne : ((c.toNat : Int) != 0) = true := by rw [bne_iff_ne]; omega
            clear e3 h0
            go_wp2_with (first | (go_at_call 21; refine (unless_ok _).mono ?_; rintro e w2 ⟨rfl, rfl⟩) | (go_at_call 21; refine (unless_no _).mono ?_; rintro e w2 ⟨rfl, rfl⟩))
            go_ret2
            rw [HL2.out]
            exact ⟨rfl, rfl⟩
          · have e3' : Go.bits .or .i64 (N : Int) ((X : Int) * 16384) = (M : Int) := by rw [← e3]; congr 1 <;> omega
            have hne : ((c.toNat : Int) != 0) = true := by rw [bne_iff_ne]; omega
            clear e3 h0
            go_wp2_with (first | (go_at_call 21; refine (unless_ok _).mono ?_; rintro e w2 ⟨rfl, rfl⟩) | (go_at_call 21; refine (unless_no _).mono ?_; rintro e w2 ⟨rfl, rfl⟩))
            go_ret2
            rw [HL2.out]
            exact ⟨rfl, rfl⟩
        · rw [if_neg h0] at HL2
          have hc00 : (c.toNat : Int) = 0 := by omega
          have hne : ((c.toNat : Int) != 0) = false := by rw [hc00]; rfl
          have hk0 : k ≠ 0 := by omega
          clear h0 hc00
          rcases hk3.out with rfl | rfl | rfl
          · exact absurd rfl hk0
          · have e3' : Go.bits .or .i64 (N : Int) ((X : Int) * 128) = (M : Int) := by rw [← e3]; congr 1 <;> omega
            clear e3 hk0
            go_wp2_with (first | (go_at_call 21; refine (unless_ok _).mono ?_; rintro e w2 ⟨rfl, rfl⟩) | (go_at_call 21; refine (unless_no _).mono ?_; rintro e w2 ⟨rfl, rfl⟩))
            rw [HL2.out]
            exact ⟨rfl, rfl, rfl⟩
          · have e3' : Go.bits .or .i64 (N : Int) ((X : Int) * 16384) = (M : Int) := by rw [← e3]; congr 1 <;> omega
            clear e3 hk0
            go_wp2_with (first | (go_at_call 21; refine (unless_ok _).mono ?_; rintro e w2 ⟨rfl, rfl⟩) | (go_at_call 21; refine (unless_no _).mono ?_; rintro e w2 ⟨rfl, rfl⟩))
            rw [HL2.out]
            exact ⟨rfl, rfl, rfl⟩
      · rw [if_neg hc1] at HL2
        have e2' : Go.bits .and .u8 (c.toNat : Int) 128 = 128 := by rw [e2]; omega
        have hk2 : k < 2 := by omega
        clear e2 hbad
        rcases hk3.out with rfl | rfl | rfl
        · have e3' : Go.bits .or .i64 (N : Int) (X : Int) = (M : Int) := by rw [← e3]; congr 1 <;> omega
          clear e3 hk2
          go_wp2_with (first | (go_at_call 21; refine (unless_ok _).mono ?_; rintro e w2 ⟨rfl, rfl⟩) | (go_at_call 21; refine (unless_no _).mono ?_; rintro e w2 ⟨rfl, rfl⟩))
          go_round
          case rel => exact ⟨1, M, by omega, by omega, HMN.out, by first | rfl | rw [HM.out], rfl, HL2⟩
          case measure => simp [intOf]
        · have e3' : Go.bits .or .i64 (N : Int) ((X : Int) * 128) = (M : Int) := by rw [← e3]; congr 1 <;> omega
          clear e3 hk2
          go_wp2_with (first | (go_at_call 21; refine (unless_ok _).mono ?_; rintro e w2 ⟨rfl, rfl⟩) | (go_at_call 21; refine (unless_no _).mono ?_; rintro e w2 ⟨rfl, rfl⟩))
          go_round
          case rel => exact ⟨2, M, by omega, by omega, HMN.out, by first | rfl | rw [HM.out], rfl, HL2⟩
          case measure => simp [intOf]
        · omega
    · obtain rfl : k = s.length := by omega
      go_wp2
      go_ret2
      have hl' : L = Mp.len s (3 - s.length - 1 + 1) s.length N := by rw [hl.out]; congr 1; omega
      unfold Mp.len at hl'
      rw [List.getElem?_eq_none (Nat.le_refl _)] at hl'
      rw [hl']
      exact ⟨rfl, rfl⟩
end Go.Proofs.Ytnljmllkfmgclaa
