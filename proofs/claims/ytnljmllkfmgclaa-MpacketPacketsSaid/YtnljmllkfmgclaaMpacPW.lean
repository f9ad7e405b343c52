/-
  The walk of MpacketBack (4). Conditions: those that each contract names.
-/
import Derived.Test.YtnljmllkfmgclaaMpacPV
import Derived.Deep.CutBlock
namespace Go.Proofs.Ytnljmllkfmgclaa
open Go.RowKit
set_option linter.unusedVariables false
set_option linter.unusedSimpArgs false

theorem Mp.names_kind {k f : Nat} {s : Mp.Bs} {p : Pk} (h : Mp.body k f s = some p) : p.names = [] ∨ (k = 8 ∨ k = 10 ∨ k = 9) := by
  by_cases hk : k = 8 ∨ k = 10 ∨ k = 9
  · exact .inr hk
  refine .inl ?_
  unfold Mp.body at h
  simp only at h
  split at h
  · cases hc : Mp.connect (Pk.new k f) s with
    | none => rw [hc] at h; cases h
    | some x =>
      rw [hc] at h
      simp only [Option.bind_some] at h
      split at h
      · simp only [Option.some.injEq] at h
        subst h
        exact (connect_frame (P' := x.1) (t := x.2) hc).1
      · cases h
  split at h
  · cases h1 : Mp.byte s with
    | none => rw [h1] at h; cases h
    | some a =>
      rw [h1] at h
      simp only [Option.bind_some] at h
      cases h2 : Mp.byte a.2 with
      | none => rw [h2] at h; cases h
      | some c =>
        rw [h2] at h
        simp only [Option.bind_some] at h
        split at h
        · simp only [Option.some.injEq] at h; subst h; rfl
        · cases h
  split at h
  · cases h1 : Mp.text s with
    | none => rw [h1] at h; cases h
    | some a =>
      rw [h1] at h
      simp only [Option.bind_some] at h
      split at h
      · cases h2 : Mp.id a.2 with
        | none => rw [h2] at h; cases h
        | some i =>
          rw [h2] at h
          simp only [Option.bind_some] at h
          split at h
          · simp only [Option.some.injEq] at h; subst h; rfl
          · cases h
      · split at h
        · simp only [Option.some.injEq] at h; subst h; rfl
        · cases h
  split at h
  · cases h2 : Mp.id s with
    | none => rw [h2] at h; cases h
    | some i =>
      rw [h2] at h
      simp only [Option.bind_some] at h
      split at h
      · simp only [Option.some.injEq] at h; subst h; rfl
      · cases h
  split at h
  · simp only [Option.some.injEq] at h; subst h; rfl
  · cases h
theorem Mp.next_sum {s : Mp.Bs} {p : Pk} {n : Nat} (h : Mp.next s = .ok p n) : Mp.sum p.names ≤ 16384 ∧ p.name.length + p.text.length + p.topic.length ≤ 16384 := by
  obtain ⟨a, r, m, w, rfl, h1, hl, rfl, hn, hb⟩ := Mp.next_ok h
  have hg := Mp.len_got r 3 0 0 m w hl
  have hj := Mp.body_just hb
  have htl : (((a :: r).drop (1 + w)).take m).length ≤ 16384 := by
    rw [List.length_take]; omega
  have h2 := hj.sum
  refine ⟨?_, by omega⟩
  rcases Mp.names_kind hb with h0 | hk
  · rw [h0]; simp [Mp.sum]
  · have hr := hj.rest
    unfold Mp.rest at hr
    rw [hj.kind, if_neg (by omega), if_neg (by omega), if_neg (by omega), if_neg (by omega), if_pos (by omega)] at hr
    have := congrArg List.length hr
    rw [List.length_append, Mp.pairs_sum] at this
    omega
theorem Sees.take0 {w : World} {g cap : Nat} {L : List UInt8} (h : Sees w (.slice (some ⟨g, 0, none⟩) L.length cap) L) (k : Nat) (hk : k ≤ L.length) : Sees w (.slice (some ⟨g, 0, none⟩) k cap) (L.take k) := h.take k hk
set_option maxRecDepth 100000 in
set_option maxHeartbeats 6400000 in
theorem back_any (w : World) (v1 : Value) (A : Pk) (s : List UInt8) (h1 : PkF w v1 A) (z1 : Sizes A) : Calls Try.prog 4 #[v1, S s] w fun e w' => e = .returned (.bool true) ∧ Below w.heap.size w w' := by
  obtain ⟨na, ca, rfl, hna, hca⟩ := h1
  obtain ⟨w1, hw1⟩ : ∃ w1, w1 = w.alloc (.cells (pkCells A na ca) 25) := ⟨_, rfl⟩
  have hB : Below w.heap.size w w1 := by rw [hw1]; exact (Below.refl _ _).alloc (Nat.le_refl _) _
  have hA : Held w1 w.heap.size A na ca := ⟨by rw [hw1]; exact pk_box, hna.below hB, hca.below hB⟩
  have HA := hid hA
  have HW := hid hw1
  have HB := hid hB
  have HZ1 := hid z1
  have hsz := str_size s
  clear hA hw1 hB hna hca z1
  go_enter Try.func4, Try.ntmps4
  go_upto_region 1 with (fail)
  rw [← HW.out]
  clear HW
  obtain ⟨b, hbb⟩ : ∃ b, b = w.heap.size := ⟨_, rfl⟩
  rw [← hbb] at HA ⊢
  clear hbb
  go_upto_region 3 with (first | (go_at_call 7; refine (wakes_any _).mono ?_; rintro e w2 ⟨rfl, hb2⟩; have HB2 := hid hb2; clear hb2) | fail)
  have HA2 := hid (HA.out.below HB2.out)
  have HBB2 := hid (HB.out.trans (HB2.out.mono HB.out.size))
  have LA := hid HA2.out.pk.load
  clear HA HB HB2
  go_wp2_with (first | (show wpList _ _ _ ({ dst := some 16, op := _, type := _, pos := _, after := _, guard := _ } :: _) _ _; refine wpList_load_by rfl (.tmp 2) rfl (.pointer (some ⟨b, 0, none⟩)) rfl LA.out ?_) | fail)
  refine (HA2.out.f.heavy HZ1.out).mono ?_
  rintro e w3 ⟨hb3, H1, rfl, hw3⟩
  have HB3 := hid (HBB2.out.trans (hb3.mono HBB2.out.size))
  cases H1 with
  | true =>
    clear hb3 hw3
    go_wp2_with fail
    go_ret
    exact ⟨rfl, HB3.out⟩
  | false =>
  have HWA := hid (hw3 rfl)
  have HA3 := hid (HA2.out.below hb3)
  have LA3 := hid HA3.out.pk.load
  clear hb3 hw3 HA2 HBB2 LA
  by_cases hlen : 16384 < s.length
  · have hd : decide (16384 < (s.length : Int)) = true := decide_eq_true (by omega)
    go_wp2_with fail
    go_ret
    exact ⟨rfl, HB3.out⟩
  have hd : decide (16384 < (s.length : Int)) = false := decide_eq_false (by omega)
  go_upto_region 5 with (fail)
  clear hd
  go_wp2_with (first | (show wpList _ _ _ ({ dst := some 24, op := _, type := _, pos := _, after := _, guard := _ } :: _) _ _; refine wpList_load_by rfl (.tmp 2) rfl (.pointer (some ⟨b, 0, none⟩)) rfl LA3.out ?_) | fail)
  refine (HA3.out.f.enc HWA.out).mono ?_
  rintro e w5 ⟨hb5, he5⟩
  have HA5 := hid (HA3.out.below hb5)
  have HB5 := hid (HB3.out.trans (hb5.mono HB3.out.size))
  clear HA3 HB3 LA3
  obtain ⟨v5, c5, rfl, hcase⟩ : ∃ (v5 : Value) (c5 : Int), e = .returned (.tuple #[v5, I c5]) ∧ ((Mp.enc A = none ∧ v5 = .slice none 0 0 ∧ c5 = 1) ∨ ∃ x, Mp.enc A = some x ∧ c5 = 0 ∧ w5.ownsRow w3.heap.size 5 1 v5 x.length (x.map B)) := by
    cases hea : Mp.enc A with
    | none => rw [hea] at he5; exact ⟨_, _, he5, .inl ⟨rfl, rfl, rfl⟩⟩
    | some x => rw [hea] at he5; obtain ⟨v, h1, h2⟩ := he5; exact ⟨v, 0, h1, .inr ⟨x, rfl, rfl, h2⟩⟩
  have HCASE := hid hcase
  clear hb5 he5 hcase
  go_upto_if 29 with (fail)
  go_cut [] from 5 (fun wc => Hid (Below w.heap.size w wc))
  case first =>
    rcases HCASE.out with ⟨hea, rfl, rfl⟩ | ⟨x, hea, rfl, hox⟩
    · clear HCASE hea
      go_wp2_with fail
      go_meet
      case rel => exact hid HB5.out
    · obtain ⟨hs1, -, hnx⟩ := Mp.enc_some hea
      have hny : Mp.next (x ++ s) = .ok A x.length := by rw [Mp.next_append x s (by rw [hnx]; intro e; cases e)]; exact hnx
      obtain ⟨hx1, hx2, -, -, -⟩ := Mp.enc_head hea
      have hnn := next_any w5 (x ++ s) (by rw [List.length_append]; omega)
      rw [hny] at hnn
      have HNY := hid hnn
      have HNXX := hid hnx
      obtain ⟨g, cap, rfl, hcap, -, -, -⟩ := own_slice hox (by omega)
      have hsx := own_sees' hox rfl
      have kS : (convert 28 9 (.slice (some ⟨g, 0, none⟩) x.length cap)).run Try.prog w5 = .ok (.string (str x)) w5 := run_str Try.underlying28 Try.underlying5 Try.underlying9 hsx
      have hadd : str x ++ str s = str (x ++ s) := str_append x s
      have hxz := str_size x
      have HSX := hid hsx
      obtain ⟨-, -, wa3, wa4⟩ := weight_ok HWA.out
      clear HCASE hea hs1 hnx hny hnn hox hsx
      go_upto_region 8 with (first | (go_at_call 11; refine HNY.out.mono ?_; rintro e w6 ⟨hb6, nv, cv, rfl, hn6, hc6⟩; have HT := hid (show Told w5 (.ok A x.length) nv cv _ w6 from ⟨rfl, hb6, hn6, hc6⟩); clear hb6 hn6 hc6) | (show wpList _ _ _ ({ dst := none, op := Op.store _ (.tmp 7) _, type := _, pos := _, after := _, guard := _ } :: _) _ _; refine wpList_store_by rfl (.tmp 7) (.tmp 36) rfl rfl (.pointer (some ⟨w6.heap.size, 0, none⟩)) (.agg (pkCells A nv cv)) rfl rfl HT.out.store ?_) | fail)
      have h2 := HT.out.held
      have HX7 := hid h2.1
      have HA7 := hid (HA5.out.below h2.2)
      have HS7 := hid (HSX.out.below h2.2)
      have HB7 := hid (HB5.out.trans (h2.2.mono HB5.out.size))
      dsimp only [Mp.Res.pk] at HX7 HA7 HS7 HB7 ⊢
      clear h2 HT HNY HSX kS hadd HA5 HB5
      generalize (w6.alloc (.cells (pkCells Pk.zero nil0 nil0) 25)).setCells w6.heap.size 0 (pkCells A nv cv).toList = w7 at *
      generalize w6.heap.size = q at *
      have hsm := same13_any w7 _ _ A A (HX7.out.v wa3 wa4) (HA7.out.v wa3 wa4)
      rw [(Mp.same_iff _ _).2 rfl] at hsm
      have HSM := hid hsm
      have L1 := hid HX7.out.pk.load
      have L2 := hid HA7.out.pk.load
      clear hsm HX7 HA7
      have hq1 : ((x.length : Int) == (x.length : Int)) = true := by simp
      have hq2 : ((x.length : Int) != (x.length : Int)) = false := by simp
      go_wp2_with (first | (show wpList _ _ _ ({ dst := some 48, op := _, type := _, pos := _, after := _, guard := _ } :: _) _ _; refine wpList_load_when (by rfl) (.tmp 7) rfl (.pointer (some ⟨q, 0, none⟩)) rfl L1.out ?_) | (show wpList _ _ _ ({ dst := some 49, op := _, type := _, pos := _, after := _, guard := _ } :: _) _ _; refine wpList_load_when (by rfl) (.tmp 2) rfl (.pointer (some ⟨b, 0, none⟩)) rfl L2.out ?_) | (go_at_call 13; refine HSM.out.mono ?_; rintro e w8 ⟨rfl, hb8⟩; have HB8 := hid hb8; clear hb8) | fail)
      have HS8 := hid (HS7.out.below HB8.out)
      have HBB8 := hid (HB7.out.trans (HB8.out.mono HB7.out.size))
      clear HB8 HS7 HB7 HSM L1 L2
      go_loopw [10] (fun i wr => ∃ k : Nat, k ≤ 40000 ∧ i = I k ∧ Hid (Sees wr (.slice (some ⟨g, 0, none⟩) x.length cap) x ∧ Below w.heap.size w wr)) (fun i _ => 40001 - (intOf i).toNat)
      case atStart => exact ⟨0, by omega, rfl, hid ⟨HS8.out, HBB8.out⟩⟩
      case round =>
        clear HS8 HBB8
        obtain ⟨k, hk, rfl, HK⟩ := hrel
        by_cases hlt : k < x.length
        · have hd : decide ((k : Int) < (x.length : Int)) = true := decide_eq_true (by omega)
          have hsk : Sees wr (.slice (some ⟨g, 0, none⟩) k cap) (x.take k) := HK.out.1.take0 k (by omega)
          have kS : (convert 28 9 (.slice (some ⟨g, 0, none⟩) k cap)).run Try.prog wr = .ok (.string (str (x.take k))) wr := run_str Try.underlying28 Try.underlying5 Try.underlying9 hsk
          have hnk := next_any wr (x.take k) (by rw [List.length_take]; omega)
          rw [Mp.next_part HNXX.out k hlt] at hnk
          have HNK := hid hnk
          clear hsk hnk
          generalize x.take k = xk at *
          go_wp2_with (first | (go_at_call 11; refine HNK.out.mono ?_; rintro e w9 ⟨hb9, rfl⟩; have HB9 := hid hb9; clear hb9) | fail)
          go_roundw
          case rel => exact ⟨k + (1 + x.length / 60), by omega, by go_num, hid ⟨HK.out.1.below HB9.out, HK.out.2.trans (HB9.out.mono HK.out.2.size)⟩⟩
          case measure => simp [intOf]; omega
        · have hd : decide ((k : Int) < (x.length : Int)) = false := decide_eq_false (by omega)
          go_wp2_with fail
          go_meet
          case rel => exact hid HK.out.2
  case rest =>
    have HNX := hid (fun w => next_any w s (by omega))
    clear HCASE HA5 HB5
    obtain ⟨R, hR⟩ : ∃ R, R = Mp.next s := ⟨_, rfl⟩
    rw [← hR] at HNX
    have HR := hid hR
    clear hR
    go_upto_region 19 with (first | (go_at_call 11; refine (HNX.out _).mono ?_; intro e w6 hN; obtain ⟨nv, cv, hT⟩ := hN.told; obtain rfl := hT.is; have HT := hid hT; clear hN hT) | (show wpList _ _ _ ({ dst := none, op := Op.store _ (.tmp 11) _, type := _, pos := _, after := _, guard := _ } :: _) _ _; refine wpList_store_by rfl (.tmp 11) (.tmp 88) rfl rfl (.pointer (some ⟨w6.heap.size, 0, none⟩)) (.agg (pkCells R.pk nv cv)) rfl rfl HT.out.store ?_) | fail)
    have HH := hid HT.out.held.1
    have HB6 := hid (hcut.out.trans (HT.out.held.2.mono hcut.out.size))
    generalize (w6.alloc (.cells (pkCells Pk.zero nil0 nil0) 25)).setCells w6.heap.size 0 (pkCells R.pk nv cv).toList = w7 at *
    generalize w6.heap.size = q at *
    clear HT HNX hcut
    cases R with
    | more =>
      dsimp only [Mp.Res.code, Mp.Res.n, Mp.Res.pk] at HH ⊢
      have c0 : w7.cell? ⟨q, 0, none⟩ = some (I 0) := HH.out.pk.cell 0
      go_wp2_with fail
      go_ret
      exact ⟨rfl, HB6.out⟩
    | proto =>
      dsimp only [Mp.Res.code, Mp.Res.n, Mp.Res.pk] at HH ⊢
      have c0 : w7.cell? ⟨q, 0, none⟩ = some (I 0) := HH.out.pk.cell 0
      go_wp2_with fail
      go_ret
      exact ⟨rfl, HB6.out⟩
    | ok Q n =>
      dsimp only [Mp.Res.code, Mp.Res.n, Mp.Res.pk] at HH ⊢
      have hbd := Mp.next_bound s
      have hR := HR.out
      rw [← hR] at hbd
      have hen := enc_any w7 _ Q (HH.out.v (by have := hbd.1; show Q.names.length ≤ _; exact Nat.le_trans this (by omega)) (by have := hbd.2; show Q.codes.length ≤ _; exact Nat.le_trans this (by omega))) (by have := (Mp.next_sum hR.symm).2; omega) (by have := (Mp.next_sum hR.symm).1; omega)
      rw [Mp.enc_next hR.symm] at hen
      have hns : n ≤ s.length := (Mp.next_just hR.symm).2.2.1
      have e1 : (str s).extract 0 n = str (s.take n) := by rw [str_extract]; rfl
      obtain ⟨y, hy⟩ : ∃ y, y = s.take n := ⟨_, rfl⟩
      rw [← hy] at hen e1
      have HEN := hid hen
      have HL := hid HH.out.pk.load
      clear hy
      clear hR hbd hen HR
      go_wp2_with (first | (show wpList _ _ _ ({ dst := some 101, op := _, type := _, pos := _, after := _, guard := _ } :: _) _ _; refine wpList_load_by rfl (.tmp 11) rfl (.pointer (some ⟨q, 0, none⟩)) rfl HL.out ?_) | (go_at_call 9; refine HEN.out.mono ?_; rintro e w8 ⟨hb8, v8, rfl, ho8⟩; obtain ⟨a8, c8, rfl⟩ := own_form ho8; have HB8 := hid hb8; have HO8 := hid ho8; clear hb8 ho8) | fail)
      have kc : ∀ m, (convert 28 9 (.slice a8 y.length c8)).run Try.prog (w8.drewN m) = .ok (.string (str y)) (w8.drewN m) := fun m => run_str Try.underlying28 Try.underlying5 Try.underlying9 ((own_sees' HO8.out rfl).drewN m)
      have HB9 := hid (HB6.out.trans (HB8.out.mono HB6.out.size))
      clear HO8 HB8 HB6 HH HL HEN
      go_quiet (fail)
      go_wp2_with fail
      go_ret
      exact ⟨rfl, below_drewN' HB9.out _⟩
theorem back_row (v1 : Value) (A : Pk) {W : World} (h1 : PkF W v1 A) (z1 : Sizes A) (s : List UInt8) (W2 : World) (e : W = W2) : Calls Try.prog 4 #[v1, S s] W2 fun e w' => e = .returned (.bool true) ∧ Below W2.heap.size W2 w' := by
  subst e
  exact back_any W v1 A s h1 z1
end Go.Proofs.Ytnljmllkfmgclaa
