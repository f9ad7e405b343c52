/-
  The walk of MpacketPackets (3). Conditions: those that each contract names.
-/
import Derived.Test.YtnljmllkfmgclaaMpacZH
namespace Go.Proofs.Ytnljmllkfmgclaa
open Go.RowKit
set_option linter.unusedVariables false
set_option linter.unusedSimpArgs false

/-- The error's number. -/
def Mp.encCode : Option Mp.Bs → Int
  | none => 1
  | some _ => 0
theorem Encoded.seen {w w' : World} {o : Option (List UInt8)} {e : Ending} (h : Encoded w o e w') :
    ∃ a n, e = .returned (.tuple #[.slice a (o.getD []).length n, I (Mp.encCode o)]) ∧ Sees w' (.slice a (o.getD []).length n) (o.getD []) := by
  obtain ⟨-, h⟩ := h
  cases o with
  | none => exact ⟨none, 0, h, own_sees' (World.ownsRow_nil _ 0 5 1) rfl⟩
  | some b =>
    obtain ⟨v, he, ho⟩ := h
    obtain ⟨a, n, rfl⟩ := own_form ho
    exact ⟨a, n, he, own_sees' ho rfl⟩
set_option maxRecDepth 100000 in
set_option maxHeartbeats 6400000 in
theorem packets_any (w : World) (v1 : Value) (A : Pk) (s : List UInt8) (h1 : PkF w v1 A) (z1 : Sizes A) : Calls Try.prog 3 #[v1, S s] w fun e w' => e = .returned (.bool true) ∧ Below w.heap.size w w' := by
  obtain ⟨na, ca, rfl, hna, hca⟩ := h1
  obtain ⟨w1, hw1⟩ : ∃ w1, w1 = w.alloc (.cells (pkCells A na ca) 25) := ⟨_, rfl⟩
  have hB : Below w.heap.size w w1 := by rw [hw1]; exact (Below.refl _ _).alloc (Nat.le_refl _) _
  have hA : Held w1 w.heap.size A na ca := ⟨by rw [hw1]; exact pk_box, hna.below hB, hca.below hB⟩
  have HA := hid hA
  have HW := hid hw1
  have HB := hid hB
  have HZ1 := hid z1
  have hsz := str_size s
  clear hA hw1 hB hna hca z1
  go_enter Try.func3, Try.ntmps3
  go_upto_region 1 with (fail)
  rw [← HW.out]
  clear HW
  obtain ⟨b, hbb⟩ : ∃ b, b = w.heap.size := ⟨_, rfl⟩
  rw [← hbb] at HA ⊢
  clear hbb
  go_upto_region 3 with (first | (go_at_call 7; refine (wakes_any _).mono ?_; rintro e w2 ⟨rfl, hb2⟩; have HB2 := hid hb2; clear hb2) | fail)
  have HA2 := hid (HA.out.below HB2.out)
  have HBB2 := hid (HB.out.trans (HB2.out.mono HB.out.size))
  have LA := hid HA2.out.pk.load
  clear HA HB HB2
  go_wp2_with (first | (show wpList _ _ _ ({ dst := some 17, op := _, type := _, pos := _, after := _, guard := _ } :: _) _ _; refine wpList_load_by rfl (.tmp 2) rfl (.pointer (some ⟨b, 0, none⟩)) rfl LA.out ?_) | fail)
  refine (HA2.out.f.heavy HZ1.out).mono ?_
  rintro e w3 ⟨hb3, H1, rfl, hw3⟩
  have HB3 := hid (HBB2.out.trans (hb3.mono HBB2.out.size))
  cases H1 with
  | true =>
    clear hb3 hw3
    go_wp2_with fail
    go_ret
    exact ⟨rfl, HB3.out⟩
  | false =>
  have HWA := hid (hw3 rfl)
  have HA3 := hid (HA2.out.below hb3)
  have LA3 := hid HA3.out.pk.load
  clear hb3 hw3 HA2 HBB2 LA
  by_cases hlen : 65536 < s.length
  · have hd : decide (65536 < (s.length : Int)) = true := decide_eq_true (by omega)
    go_wp2_with fail
    go_ret
    exact ⟨rfl, HB3.out⟩
  have hd : decide (65536 < (s.length : Int)) = false := decide_eq_false (by omega)
  go_upto_region 5 with (fail)
  clear hd
  go_wp2_with (first | (show wpList _ _ _ ({ dst := some 25, op := _, type := _, pos := _, after := _, guard := _ } :: _) _ _; refine wpList_load_by rfl (.tmp 2) rfl (.pointer (some ⟨b, 0, none⟩)) rfl LA3.out ?_) | fail)
  refine (HA3.out.f.enc HWA.out).mono ?_
  intro e w5 he5
  have HA5 := hid (HA3.out.below he5.1)
  have HB5 := hid (HB3.out.trans (he5.1.mono HB3.out.size))
  have LA5 := hid HA5.out.pk.load
  obtain ⟨a5, n5, rfl, hs5⟩ := he5.seen
  have HS5 := hid hs5
  obtain ⟨-, -, wa3, wa4⟩ := weight_ok HWA.out
  clear he5 hs5 HA3 HB3 LA3
  go_wp2_with (first | (show wpList _ _ _ ({ dst := some 30, op := _, type := _, pos := _, after := _, guard := _ } :: _) _ _; refine wpList_load_by rfl (.tmp 2) rfl (.pointer (some ⟨b, 0, none⟩)) rfl LA5.out ?_) | fail)
  refine (enc10_any w5 _ A (HA5.out.v wa3 wa4)).mono ?_
  intro e w6 he6
  have HB6 := hid (HB5.out.trans (he6.1.mono HB5.out.size))
  have HS56 := hid (HS5.out.below he6.1)
  obtain ⟨a6, n6, rfl, hs6⟩ := he6.seen
  have HS6 := hid hs6
  clear he6 hs6 HB5 HS5 LA5 HA5 wa3 wa4
  generalize (Mp.enc A).getD [] = L at *
  generalize Mp.encCode (Mp.enc A) = ec at *
  have HNX := hid (next_any w6 s (by omega))
  have HNY := hid (fun w => next12_any w s (by omega))
  have hbd := Mp.next_bound s
  obtain ⟨R, hR⟩ : ∃ R, R = Mp.next s := ⟨_, rfl⟩
  rw [← hR] at HNX HNY hbd
  clear hR
  go_upto_region 8 with (first | (go_at_call 11; refine HNX.out.mono ?_; intro e w7 hN; obtain ⟨nv, cv, hT⟩ := hN.told; obtain rfl := hT.is; have HT := hid hT; clear hN hT) | (show wpList _ _ _ ({ dst := none, op := Op.store _ (.tmp 9) _, type := _, pos := _, after := _, guard := _ } :: _) _ _; refine wpList_store_by rfl (.tmp 9) (.tmp 37) rfl rfl (.pointer (some ⟨w7.heap.size, 0, none⟩)) (.agg (pkCells R.pk nv cv)) rfl rfl HT.out.store ?_) | fail)
  have h7 := HT.out.held
  have HX8 := hid h7.1
  have HS58 := hid (HS56.out.below h7.2)
  have HS68 := hid (HS6.out.below h7.2)
  have HB8 := hid (HB6.out.trans (h7.2.mono HB6.out.size))
  clear h7 HT HNX HS56 HS6 HB6
  generalize (w7.alloc (.cells (pkCells Pk.zero nil0 nil0) 25)).setCells w7.heap.size 0 (pkCells R.pk nv cv).toList = w8 at *
  generalize w7.heap.size = q at *
  go_upto_region 9 with (first | (go_at_call 12; refine (HNY.out _).mono ?_; intro e w9 hN; obtain ⟨nv2, cv2, hT⟩ := hN.told; obtain rfl := hT.is; have HT := hid hT; clear hN hT) | (show wpList _ _ _ ({ dst := none, op := Op.store _ (.tmp 12) _, type := _, pos := _, after := _, guard := _ } :: _) _ _; refine wpList_store_by rfl (.tmp 12) (.tmp 43) rfl rfl (.pointer (some ⟨w9.heap.size, 0, none⟩)) (.agg (pkCells R.pk nv2 cv2)) rfl rfl HT.out.store ?_) | fail)
  have h9 := HT.out.held
  have HY := hid h9.1
  have HX := hid (HX8.out.below h9.2)
  have HS5 := hid (HS58.out.below h9.2)
  have HS6 := hid (HS68.out.below h9.2)
  have HB := hid (HB8.out.trans (h9.2.mono HB8.out.size))
  clear h9 HT HNY HS58 HS68 HB8 HX8
  generalize (w9.alloc (.cells (pkCells Pk.zero nil0 nil0) 25)).setCells w9.heap.size 0 (pkCells R.pk nv2 cv2).toList = wa at *
  generalize w9.heap.size = q2 at *
  have hsm := same13_any wa _ _ R.pk R.pk (HX.out.v (by have := hbd.1; omega) (by have := hbd.2; omega)) (HY.out.v (by have := hbd.1; omega) (by have := hbd.2; omega))
  rw [(Mp.same_iff _ _).2 rfl] at hsm
  have HSM := hid hsm
  have L1 := hid HX.out.pk.load
  have L2 := hid HY.out.pk.load
  have kS5 : (convert 28 9 (.slice a5 L.length n5)).run Try.prog wa = .ok (.string (str L)) wa := run_str Try.underlying28 Try.underlying5 Try.underlying9 HS5.out
  have kS6 : (convert 28 9 (.slice a6 L.length n6)).run Try.prog wa = .ok (.string (str L)) wa := run_str Try.underlying28 Try.underlying5 Try.underlying9 HS6.out
  have hq0 : ((str L).toList == (str L).toList) = true := beq_self_eq_true _
  have hq1 : (ec == ec) = true := beq_self_eq_true _
  have hq2 : ((R.n : Int) == (R.n : Int)) = true := beq_self_eq_true _
  have hq3 : (R.code == R.code) = true := beq_self_eq_true _
  clear hsm HX HY hbd HS5 HS6
  go_wp2_with (first | (show wpList _ _ _ ({ dst := some 57, op := _, type := _, pos := _, after := _, guard := _ } :: _) _ _; refine wpList_load_when (by rfl) (.tmp 9) rfl (.pointer (some ⟨q, 0, none⟩)) rfl L1.out ?_) | (show wpList _ _ _ ({ dst := some 58, op := _, type := _, pos := _, after := _, guard := _ } :: _) _ _; refine wpList_load_when (by rfl) (.tmp 12) rfl (.pointer (some ⟨q2, 0, none⟩)) rfl L2.out ?_) | (go_at_call 13; refine HSM.out.mono ?_; rintro e wb ⟨rfl, hbb⟩; have HBB := hid hbb; clear hbb) | fail)
  go_ret
  exact ⟨rfl, HB.out.trans (HBB.out.mono HB.out.size)⟩
theorem packets_row (v1 : Value) (A : Pk) {W : World} (h1 : PkF W v1 A) (z1 : Sizes A) (s : List UInt8) (W2 : World) (e : W = W2) : Calls Try.prog 3 #[v1, S s] W2 fun e w' => e = .returned (.bool true) ∧ Below W2.heap.size W2 w' := by
  subst e
  exact packets_any W v1 A s h1 z1
end Go.Proofs.Ytnljmllkfmgclaa
