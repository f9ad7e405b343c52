/-
  THE DOCUMENT'S TAPE: Frame. Conditions: those that each contract names.
-/
import Derived.Test.YtoaeapnkefjpaaaTapeW
namespace Go.Proofs.Ytoaeapnkefjpaaa
open Go.RowKit
set_option linter.unusedVariables false
set_option linter.unusedSimpArgs false

set_option maxRecDepth 100000 in
set_option maxHeartbeats 800000 in
theorem rframe_any (w : World) (k : UInt8) (c : Int) (hc : -9223372036854775808 ≤ c ∧ c ≤ 9223372036854775807) (v : Value) (r : List UInt8) (hv : Sees w v r) (hr : r.length ≤ 65536) : Calls Try.prog 95 #[B k, I c, v] w (Fresh w (k :: (TS.size3 r.length ++ Sum.be8 (Sum.add (Sum.of c (TS.size3 r.length)) r)) ++ r)) := by
  obtain ⟨ao, cap, rfl, -⟩ := hv.form0
  obtain ⟨Y, hY⟩ : ∃ Y, Y = k :: (TS.size3 r.length ++ Sum.be8 (Sum.add (Sum.of c (TS.size3 r.length)) r)) ++ r := ⟨_, rfl⟩
  rw [← hY]
  have HY := hid hY
  have HV := hid hv
  clear hv hY
  go_enter Try.func95, Try.ntmps95
  go_wp2_with fail
  have hcells : (#[Value.int .u8 ((r.length : Int) / 65536), Value.int .u8 ((r.length : Int) / 256 % 256), Value.int .u8 ((r.length : Int) % 256)] : Array Value) = ((TS.size3 r.length).map B).toArray := by
    have e1 : ((UInt8.ofNat (r.length / 65536 % 256)).toNat : Int) = (r.length : Int) / 65536 := by rw [UInt8.toNat_ofNat']; omega
    have e2 : ((UInt8.ofNat (r.length / 256 % 256)).toNat : Int) = (r.length : Int) / 256 % 256 := by rw [UInt8.toNat_ofNat']; omega
    have e3 : ((UInt8.ofNat (r.length % 256)).toNat : Int) = (r.length : Int) % 256 := by rw [UInt8.toNat_ofNat']; omega
    unfold TS.size3 B
    rw [List.map_cons, List.map_cons, List.map_cons, List.map_nil, e1, e2, e3]
  rw [hcells]
  have hS := Sees.lit w (TS.size3 r.length) (0, 0) (by show 3 ≤ maxLen; unfold maxLen; omega)
  have hb : Below w.heap.size w (w.alloc (.cells ((TS.size3 r.length).map B).toArray 5)) := (Below.refl _ _).alloc (Nat.le_refl _) _
  have HVa := hid (HV.out.below hb)
  have HS : Hid (Sees (w.alloc (.cells ((TS.size3 r.length).map B).toArray 5)) (.slice (some ⟨w.heap.size, 0, none⟩) 3 3) (TS.size3 r.length)) := hid hS
  have HB := hid hb
  generalize w.alloc (.cells ((TS.size3 r.length).map B).toArray 5) = wa at *
  clear hcells hS hb
  have r1 : 0 ≤ Sum.of c (TS.size3 r.length) ∧ Sum.of c (TS.size3 r.length) < 18446744073709551616 := by
    have := Sum.add_range (Sum.start c) (TS.size3 r.length)
    unfold Sum.of; omega
  have r2 : 0 ≤ Sum.add (Sum.of c (TS.size3 r.length)) r ∧ Sum.add (Sum.of c (TS.size3 r.length)) r < 18446744073709551616 := by
    have := Sum.add_range (Sum.of c (TS.size3 r.length)) r
    omega
  refine (rof_any c hc.1 hc.2 _ (TS.size3 r.length) _ HS.out).mono ?_
  rintro e w1 ⟨rfl, rfl⟩
  go_wp2_with (first | (go_at_call 27; refine (radd_any _ r1.1 r1.2 _ r _ HVa.out).mono ?_; rintro e w2 ⟨rfl, rfl⟩))
  have hbB : Below wa.heap.size wa (wa.alloc (.cells #[B k] 5)) := (Below.refl wa.heap.size wa).alloc (Nat.le_refl _) _
  have HVB := hid (HVa.out.below hbB)
  have HSB := hid (HS.out.below hbB)
  have HO0 := hid (own_born wa 5 (B k))
  have HBB := hid hbB
  clear hbB
  generalize wa.alloc (.cells #[B k] 5) = wB at *
  obtain ⟨F, hF⟩ : ∃ F, F = TS.size3 r.length ++ Sum.be8 (Sum.add (Sum.of c (TS.size3 r.length)) r) := ⟨_, rfl⟩
  have hFl : F.length = 11 := by rw [hF, List.length_append, Sum.be8_length]; rfl
  refine (rput_any _ (TS.size3 r.length) _ r2.1 r2.2 wB HSB.out (by show 3 ≤ 1099511627776; omega)).mono ?_
  rw [← hF]
  rintro e w1 ⟨v1, rfl, ho1, hb1⟩
  rw [hFl] at ho1
  obtain ⟨av1, cv1, rfl⟩ := own_form ho1
  have HS1 := hid (own_sees' ho1 hFl)
  have HO1 := hid (own_below HO0.out hb1)
  have HB1 := hid (Ext.trans _ _ _ HBB.out hb1)
  have HF := hid hF
  have HFL := hid hFl
  clear ho1 hb1 HVB HSB HO0 HBB hF hFl r1 r2
  have hs1 : wa.heap.size ≤ w1.heap.size := HB1.out.size
  go_wp2_with (at_builtin; refine wpList_app rfl (.tmp 29) (.tmp 32) 23 rfl wa.heap.size 5 (.int .u8 0) 1 1 Try.underlying23 info5 rfl (by decide) 1 [B k] 11 (F.map B) HO1.out ?src ?h63 ?hb hs1 ?_)
  case src => have := HS1.out.src; rw [HFL.out] at this; exact this
  case h63 => decide
  case hb => omega
  intro v2 w2 hown hgrow hat
  obtain ⟨av2, cv2, rfl⟩ := own_form hown
  have HO2 := hid hown
  have HB2 := hid (HB1.out.grown hgrow hs1 (fun k hk => by have := (own_lt HO1.out k hk).1; omega))
  have HV2 := hid (HVa.out.below HB2.out)
  clear hown hgrow hat HO1 HB1 HS1
  have hs2 : wa.heap.size ≤ w2.heap.size := HB2.out.size
  go_wp2_with (at_builtin; refine wpList_app rfl (.tmp 33) (.tmp 34) 23 rfl wa.heap.size 5 (.int .u8 0) 1 1 Try.underlying23 info5 rfl (by decide) 12 (B k :: F.map B) r.length (r.map B) HO2.out ?src ?h63 ?hb hs2 ?_)
  case src => exact HV2.out.src
  case h63 => unfold maxLen; omega
  case hb => omega
  intro v3 w3 hown hgrow hat
  have HO3 := hid hown
  have HB3 := hid (HB2.out.grown hgrow hs2 (fun k hk => by have := (own_lt HO2.out k hk).1; omega))
  clear hown hgrow hat HO2 HB2 HV2
  go_wp2_with fail
  go_ret
  refine ⟨v3, rfl, own_anew (own_len HO3.out ?_ ?_) (fun k hk => Nat.le_trans HB.out.size (own_lt HO3.out k hk).1), HB.out.trans (HB3.out.mono HB.out.size)⟩
  · rw [HY.out, ← HF.out, List.cons_append, List.length_cons, List.length_append, HFL.out]; omega
  · rw [HY.out, ← HF.out]; simp
theorem rframe_of (w : World) (k : UInt8) (c : Nat) (hc : c ≤ 1000000000) (v : Value) (r : List UInt8) (hv : Sees w v r) (hr : r.length ≤ 65536) : Calls Try.prog 95 #[B k, I c, v] w (Fresh w (k :: TS.framed c r ++ r)) := rframe_any w k c (by omega) v r hv hr
end Go.Proofs.Ytoaeapnkefjpaaa
