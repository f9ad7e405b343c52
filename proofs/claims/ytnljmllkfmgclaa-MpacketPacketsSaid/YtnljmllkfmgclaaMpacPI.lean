/-
  THE PROGRAM: a text put behind bytes (26). Conditions: those that each contract names.
-/
import Derived.Test.YtnljmllkfmgclaaMpacPH
import Derived.Deep.DeepMust
namespace Go.Proofs.Ytnljmllkfmgclaa
open Go.RowKit
set_option linter.unusedVariables false
set_option linter.unusedSimpArgs false

theorem info5 : (Try.prog.info? 5).map (fun i => (i.zero, i.size, i.bytes)) = some (some (.int .u8 0), 1, 1) := by kernel_rfl
theorem b1_nat (n : Int) : ((Mp.b1 n).toNat : Int) = n % 256 := by
  have h := Int.emod_nonneg n (by decide : (256 : Int) ≠ 0)
  have h2 := Int.emod_lt_of_pos n (by decide : (0 : Int) < 256)
  unfold Mp.b1
  rw [UInt8.toNat_ofNat_of_lt' (by simp [UInt8.size]; omega)]
  omega
theorem b1_wrap (n : Int) : IntKind.u8.wrap n = ((Mp.b1 n).toNat : Int) := by rw [IntKind.wrap_u8, b1_nat]
theorem str_cells (s : List UInt8) : Lib.strCells (str s) = s.map B := by simp [Lib.strCells, str]
theorem own_form0 {w : World} {base : Nat} {e : TypeId} {size n : Nat} {v : Value} {xs : List Value} (h : w.ownsRow base e size v n xs) : ∃ ao cap, v = .slice ao n cap ∧ ∀ k, (Value.slice ao n cap).ownBlock = some k → base ≤ k := by
  obtain ⟨ao, cap, rfl⟩ := own_form h
  exact ⟨ao, cap, rfl, fun k hk => (own_lt h k hk).1⟩
theorem below_grown {base : Nat} {w w' : World} {o : Option Nat} (h : w.grownBy w' o) (hb : base ≤ w.heap.size) (ho : ∀ k, o = some k → base ≤ k) : Below base w w' :=
  ⟨h.os, h.tape, h.output, h.size, fun k hk => h.block k (by omega) (fun e => by have := ho k e.symm; omega)⟩
theorem own_below' {w w' : World} {b base : Nat} {e : TypeId} {size n : Nat} {v : Value} {xs : List Value} (h : w.ownsRow b e size v n xs) (hb : Below base w w') (hl : w.heap.size ≤ base) : w'.ownsRow b e size v n xs :=
  own_mod h (fun k hk => hb.block k (Nat.lt_of_lt_of_le (own_lt h k hk).2 hl))
set_option maxRecDepth 100000 in
set_option maxHeartbeats 1600000 in
theorem puts_any (w : World) (base : Nat) (v : Value) (l s : List UInt8) (ho : w.ownsRow base 5 1 v l.length (l.map B)) (hb : base ≤ w.heap.size) (hl : l.length + s.length ≤ 1000000000) :
    Calls Try.prog 26 #[v, S s] w fun e w' => ∃ v', e = .returned v' ∧ w'.ownsRow base 5 1 v' (l ++ Mp.put s).length ((l ++ Mp.put s).map B) ∧ Below base w w' := by
  have hz := str_size s
  have e1 := b1_wrap ((s.length : Int) / 256)
  have e2 := b1_wrap (s.length : Int)
  obtain ⟨a, ha⟩ : ∃ a, a = Mp.b1 ((s.length : Int) / 256) := ⟨_, rfl⟩
  obtain ⟨c, hc⟩ : ∃ c, c = Mp.b1 (s.length : Int) := ⟨_, rfl⟩
  rw [← ha] at e1
  rw [← hc] at e2
  have hput : Mp.put s = [a, c] ++ s := by unfold Mp.put; rw [ha, hc]; rfl
  rw [hput]
  clear ha hc hput
  obtain ⟨ao, cap, rfl, hge⟩ := own_form0 ho
  have HG := hid hge
  have HO := hid (own_below ho ((Below.refl _ _).alloc (Nat.le_refl _) (.cells #[B a, B c] 5)))
  have HS := hid (Sees.lit w [a, c] (0, 0) (by simp [maxLen]))
  clear ho hge
  obtain ⟨i5, hi5, hz5, hs5, hb5⟩ := info_parts info5
  go_enter Try.func26, Try.ntmps26
  go_wp2_with (at_builtin; go_must (refine wpList_app rfl (.tmp 5) (.tmp 13) 28 rfl base 5 (.int .u8 0) 1 1 Try.underlying28 info5 rfl (by decide) l.length (l.map B) 2 ([a, c].map B) HO.out HS.out.src ?h63 ?hb ?hbase ?_))
  case h63 => unfold maxLen; omega
  case hb => omega
  case hbase => simp; omega
  intro v2 wb hown hgrow hat
  replace hown : wb.ownsRow base 5 1 v2 (l.length + 2) ((l ++ [a, c]).map B) := own_len hown rfl (by simp)
  have HB2 := hid ((((Below.refl base w).alloc hb (.cells #[B a, B c] 5))).grown hgrow (by simp; omega) HG.out)
  have hs2 : base ≤ wb.heap.size := by have := HB2.out.size; omega
  obtain ⟨a2, c2, rfl, hg2⟩ := own_form0 hown
  have HG2 := hid hg2
  have HO2 := hid hown
  clear hown hgrow hat hg2 HO HS HG
  go_wp2_with (at_builtin; go_must (refine Lib.wpList_append_own_string wb rfl (.tmp 14) (.tmp 15) 28 9 rfl base 5 i5 Try.underlying28 Try.underlying9 hi5 hz5 hs5 hb5 (.slice a2 (l.length + 2) c2) (l.length + 2) ((l ++ [a, c]).map B) rfl HO2.out (str s) rfl ?h63 ?hb hs2 ?_))
  case h63 => rw [hz]; unfold maxLen; omega
  case hb => rw [hz]; omega
  intro v3 wc hown hgrow hnn
  have HB3 := hid (HB2.out.grown hgrow hs2 HG2.out)
  replace hown : wc.ownsRow base 5 1 v3 (l.length + 2 + s.length) ((l ++ [a, c] ++ s).map B) := own_len hown (by first | rfl | rw [hz]) (by rw [str_cells]; simp)
  have HO3 := hid hown
  clear hown hgrow hnn HO2 HG2 HB2
  go_wp2_with fail
  go_ret
  exact ⟨v3, rfl, own_len HO3.out (by simp; omega) (by simp), HB3.out⟩
end Go.Proofs.Ytnljmllkfmgclaa
