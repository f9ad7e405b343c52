/-
  THE DOCUMENT'S ANSWER: flags (16), fits (17), Big (19), put (18). Conditions: those that each contract names.
-/
import Derived.Test.YtnljmllkfmgclaaMpacZA
namespace Go.Proofs.Ytnljmllkfmgclaa
open Go.RowKit
set_option linter.unusedVariables false
set_option linter.unusedSimpArgs false

set_option maxRecDepth 100000 in
set_option maxHeartbeats 1600000 in
theorem flags16_any (w : World) (k n : Nat) (hk : k < 16) (hn : n < 16) : Calls Try.prog 16 #[I k, I n] w fun e w' => e = .returned (.bool (Mp.flagsOk k n)) ∧ w = w' := by
  have h16 : n = 0 ∨ n = 1 ∨ n = 2 ∨ n = 3 ∨ n = 4 ∨ n = 5 ∨ n = 6 ∨ n = 7 ∨ n = 8 ∨ n = 9 ∨ n = 10 ∨ n = 11 ∨ n = 12 ∨ n = 13 ∨ n = 14 ∨ n = 15 := by omega
  have k16 : k = 3 ∨ k = 0 ∨ k = 1 ∨ k = 2 ∨ k = 4 ∨ k = 5 ∨ k = 6 ∨ k = 7 ∨ k = 8 ∨ k = 9 ∨ k = 10 ∨ k = 11 ∨ k = 12 ∨ k = 13 ∨ k = 14 ∨ k = 15 := by omega
  have H16 := hid h16
  clear h16
  rcases k16 with rfl | k16
  · rcases H16.out with rfl | rfl | rfl | rfl | rfl | rfl | rfl | rfl | rfl | rfl | rfl | rfl | rfl | rfl | rfl | rfl
    all_goals
      go_enter Try.func16, Try.ntmps16
      go_wp2
      go_ret
      exact ⟨rfl, rfl⟩
  · rcases k16 with rfl | rfl | rfl | rfl | rfl | rfl | rfl | rfl | rfl | rfl | rfl | rfl | rfl | rfl | rfl
    all_goals
      go_enter Try.func16, Try.ntmps16
      go_wp2
    all_goals
      go_ret
      refine ⟨?_, rfl⟩
      rcases H16.out with rfl | rfl | rfl | rfl | rfl | rfl | rfl | rfl | rfl | rfl | rfl | rfl | rfl | rfl | rfl | rfl <;> first | rfl | simp_all
set_option maxRecDepth 100000 in
set_option maxHeartbeats 1600000 in
theorem fits1_any (w : World) (n : Int) : Calls Try.prog 17 #[I n, .int .u64 1] w fun e w' => e = .returned (.bool (decide (0 ≤ n ∧ n < 256))) ∧ w = w' := by
  by_cases h0 : 0 ≤ n
  · have hd : decide (0 ≤ n) = true := decide_eq_true h0
    have hr : decide (0 ≤ n ∧ n < 256) = decide (n < 256) := by rw [decide_eq_decide]; omega
    rw [hr]
    clear h0 hr
    go_enter Try.func17, Try.ntmps17
    go_wp2
    go_ret
    exact ⟨rfl, rfl⟩
  · have hd : decide (0 ≤ n) = false := decide_eq_false h0
    have hr : decide (0 ≤ n ∧ n < 256) = false := decide_eq_false (by omega)
    rw [hr]
    clear h0 hr
    go_enter Try.func17, Try.ntmps17
    go_wp2
    go_ret
    exact ⟨rfl, rfl⟩
set_option maxRecDepth 100000 in
set_option maxHeartbeats 1600000 in
theorem fits2_any (w : World) (n : Int) : Calls Try.prog 17 #[I n, .int .u64 2] w fun e w' => e = .returned (.bool (decide (0 ≤ n ∧ n < 65536))) ∧ w = w' := by
  by_cases h0 : 0 ≤ n
  · have hd : decide (0 ≤ n) = true := decide_eq_true h0
    have hr : decide (0 ≤ n ∧ n < 65536) = decide (n < 65536) := by rw [decide_eq_decide]; omega
    rw [hr]
    clear h0 hr
    go_enter Try.func17, Try.ntmps17
    go_wp2
    go_ret
    exact ⟨rfl, rfl⟩
  · have hd : decide (0 ≤ n) = false := decide_eq_false h0
    have hr : decide (0 ≤ n ∧ n < 65536) = false := decide_eq_false (by omega)
    rw [hr]
    clear h0 hr
    go_enter Try.func17, Try.ntmps17
    go_wp2
    go_ret
    exact ⟨rfl, rfl⟩
/-- What grows: an own row, all that lay below as it was. -/
def Row (w : World) (base : Nat) (l : List UInt8) (e : Ending) (w' : World) : Prop := ∃ v, e = .returned v ∧ w'.ownsRow base 5 1 v l.length (l.map B) ∧ Below base w w'
set_option maxRecDepth 100000 in
set_option maxHeartbeats 3200000 in
theorem big19_any (w : World) (base : Nat) (v : Value) (l : List UInt8) (n : Nat) (ho : w.ownsRow base 5 1 v l.length (l.map B)) (hb : base ≤ w.heap.size) (hl : l.length ≤ 1000000000) (hn : n < 65536) :
    Calls Try.prog 19 #[v, .int .u64 (n : Int), I 2] w (Row w base (l ++ Mp.be2 n)) := by
  have HO := hid ho
  clear ho
  go_enter Try.func19, Try.ntmps19
  go_wp2_with fail
  go_loopw [0, 7] (fun u i wr => ∃ k : Nat, k ≤ 2 ∧ i = I k ∧ Hid (wr.ownsRow base 5 1 u (l ++ (Mp.be2 n).take k).length ((l ++ (Mp.be2 n).take k).map B) ∧ Below base w wr)) (fun _ i _ => 2 - (intOf i).toNat)
  case atStart => exact ⟨0, by omega, rfl, hid ⟨own_len HO.out (by simp) (by simp), Below.refl _ _⟩⟩
  case round =>
    clear HO
    obtain ⟨k, hk, rfl, HK⟩ := hrel
    obtain ⟨hrow, hbel⟩ := HK.out
    have hbs := hbel.size
    obtain ⟨lk, hlk⟩ : ∃ lk, lk = l ++ (Mp.be2 n).take k := ⟨_, rfl⟩
    rw [← hlk] at hrow HK
    have hll : lk.length ≤ 1000000002 := by rw [hlk, List.length_append, List.length_take]; have : (Mp.be2 n).length = 2 := rfl; omega
    have HLK := hid hlk
    have HROW := hid hrow
    have HBEL := hid hbel
    have HLL := hid hll
    clear hrow hbel hlk HK hll
    have h3 : k = 0 ∨ k = 1 ∨ k = 2 := by omega
    rcases h3 with rfl | rfl | rfl
    · have ew : IntKind.u8.wrap ((n : Int) / 256) = ((Mp.b1 ((n : Int) / 256)).toNat : Int) := b1_wrap _
      obtain ⟨y, hy⟩ : ∃ y, y = Mp.b1 ((n : Int) / 256) := ⟨_, rfl⟩
      rw [← hy] at ew
      have hlk2 : l ++ (Mp.be2 n).take 1 = lk ++ [y] := by rw [HLK.out, hy]; simp [Mp.be2, Mp.b1]
      have HL2 := hid hlk2
      have HOA := hid (own_mod (w' := wr.alloc (.cells #[.int .u8 (y.toNat : Int)] 5)) HROW.out (fun k hk => Below.heap_alloc wr _ _ (own_lt HROW.out k hk).2))
      have HSA := hid (one_sees wr y)
      clear hy hlk2
      go_wp2_with (at_builtin; go_must (refine wpList_app rfl (.tmp 13) (.tmp 23) 28 rfl base 5 (.int .u8 0) 1 1 Try.underlying28 info5 rfl (by decide) _ _ 1 ([y].map B) HOA.out HSA.out.src ?h63 ?hb ?hbase ?_))
      case h63 => have := HLL.out; unfold maxLen; omega
      case hb => have := HLL.out; omega
      case hbase => simp; omega
      intro v9 w9 hown hgrow hat
      have HR9 := hid hown
      have HB9 := hid ((HBEL.out.alloc (by omega) (.cells #[.int .u8 (y.toNat : Int)] 5)).grown hgrow (by simp; omega) (fun k hk => (own_lt HROW.out k hk).1))
      clear hown hgrow hat HOA HSA ew
      go_wp2_with fail
      go_roundw
      case rel => exact ⟨1, by omega, by go_num, hid ⟨own_len HR9.out (by rw [HL2.out, List.length_append]; rfl) (by rw [HL2.out, List.map_append]; rfl), HB9.out⟩⟩
      case measure => simp [intOf]
    · have ew : IntKind.u8.wrap (n : Int) = ((Mp.b1 (n : Int)).toNat : Int) := b1_wrap _
      obtain ⟨y, hy⟩ : ∃ y, y = Mp.b1 (n : Int) := ⟨_, rfl⟩
      rw [← hy] at ew
      have hlk2 : l ++ (Mp.be2 n).take 2 = lk ++ [y] := by rw [HLK.out, hy]; simp [Mp.be2, Mp.b1]
      have HL2 := hid hlk2
      have HOA := hid (own_mod (w' := wr.alloc (.cells #[.int .u8 (y.toNat : Int)] 5)) HROW.out (fun k hk => Below.heap_alloc wr _ _ (own_lt HROW.out k hk).2))
      have HSA := hid (one_sees wr y)
      clear hy hlk2
      go_wp2_with (at_builtin; go_must (refine wpList_app rfl (.tmp 13) (.tmp 23) 28 rfl base 5 (.int .u8 0) 1 1 Try.underlying28 info5 rfl (by decide) _ _ 1 ([y].map B) HOA.out HSA.out.src ?h63 ?hb ?hbase ?_))
      case h63 => have := HLL.out; unfold maxLen; omega
      case hb => have := HLL.out; omega
      case hbase => simp; omega
      intro v9 w9 hown hgrow hat
      have HR9 := hid hown
      have HB9 := hid ((HBEL.out.alloc (by omega) (.cells #[.int .u8 (y.toNat : Int)] 5)).grown hgrow (by simp; omega) (fun k hk => (own_lt HROW.out k hk).1))
      clear hown hgrow hat HOA HSA ew
      go_wp2_with fail
      go_roundw
      case rel => exact ⟨2, by omega, by go_num, hid ⟨own_len HR9.out (by rw [HL2.out, List.length_append]; rfl) (by rw [HL2.out, List.map_append]; rfl), HB9.out⟩⟩
      case measure => simp [intOf]
    · have hfin : lk = l ++ Mp.be2 n := HLK.out
      have HF := hid hfin
      clear hfin
      go_wp2_with fail
      go_ret
      exact ⟨_, rfl, by rw [← HF.out]; exact HROW.out, HBEL.out⟩
set_option maxRecDepth 100000 in
set_option maxHeartbeats 1600000 in
theorem put18_any (w : World) (base : Nat) (v : Value) (l s : List UInt8) (ho : w.ownsRow base 5 1 v l.length (l.map B)) (hb : base ≤ w.heap.size) (hl : l.length ≤ 900000000) (hs : s.length < 65536) :
    Calls Try.prog 18 #[v, S s] w (Row w base (l ++ Mp.put s)) := by
  have HB := hid (big19_any w base v l s.length ho hb (by omega) hs)
  have hz := str_size s
  have hw : IntKind.u64.wrap (s.length : Int) = (s.length : Int) := IntWalk.u64_in _ (by omega)
  obtain ⟨lb, hlb⟩ : ∃ lb, lb = l ++ Mp.be2 s.length := ⟨_, rfl⟩
  rw [← hlb] at HB
  have hput : l ++ Mp.put s = lb ++ s := by rw [hlb, List.append_assoc]; rfl
  rw [hput]
  have hll : lb.length ≤ 900000002 := by rw [hlb, List.length_append]; have : (Mp.be2 s.length).length = 2 := rfl; omega
  obtain ⟨i5, hi5, hz5, hs5, hb5⟩ := info_parts info5
  clear ho hlb hput
  go_enter Try.func18, Try.ntmps18
  go_wp2_with (first | (go_at_call 19; refine HB.out.mono ?_; rintro e w1 ⟨v1, rfl, ho1, hb1⟩; have HO1 := hid ho1; have HB1 := hid hb1; have hbs := Nat.le_trans hb hb1.size; clear ho1 hb1) | (at_builtin; go_must (refine Lib.wpList_append_own_string _ rfl (.tmp 9) (.tmp 10) 28 9 rfl base 5 i5 Try.underlying28 Try.underlying9 hi5 hz5 hs5 hb5 v1 lb.length (lb.map B) rfl HO1.out (str s) rfl ?h63 ?hb hbs ?_)))
  case h63 => rw [str_size]; unfold maxLen; omega
  case hb => rw [str_size]; omega
  intro v9 w9 hown hgrow hnn
  have HR9 : Hid (w9.ownsRow base 5 1 v9 (lb ++ s).length ((lb ++ s).map B)) := hid (own_len hown (by rw [List.length_append]; try rw [str_size]) (by rw [str_cells, List.map_append]))
  have HB9 := hid (HB1.out.grown hgrow hbs (fun k hk => (own_lt HO1.out k hk).1))
  clear hown hgrow hnn
  go_wp2_with fail
  go_ret
  exact ⟨v9, rfl, HR9.out, HB9.out⟩
end Go.Proofs.Ytnljmllkfmgclaa
