/-
  THE PROGRAM: Encode (9). Conditions: those that each contract names.
-/
import Derived.Test.YtnljmllkfmgclaaMpacPQ
namespace Go.Proofs.Ytnljmllkfmgclaa
open Go.RowKit
set_option linter.unusedVariables false
set_option linter.unusedSimpArgs false

theorem u8_small (n : Nat) (h : n ≤ 127) : IntKind.u8.wrap (n : Int) = ((UInt8.ofNat n).toNat : Int) := by
  rw [IntKind.wrap_u8, UInt8.toNat_ofNat_of_lt' (by simp [UInt8.size]; omega)]
  omega
/-- The row that grows, behind a world in which all else lies. -/
structure Tail (w2 wr : World) (v : Value) (l : List UInt8) : Prop where
  row : wr.ownsRow w2.heap.size 5 1 v l.length (l.map B)
  below : Below w2.heap.size w2 wr
theorem Tail.lt {w2 wr : World} {v : Value} {l : List UInt8} (h : Tail w2 wr v l) : w2.heap.size ≤ wr.heap.size := h.below.size
theorem Tail.alloc {w2 wr : World} {v : Value} {l : List UInt8} (h : Tail w2 wr v l) (o : Obj) : Tail w2 (wr.alloc o) v l :=
  ⟨own_mod h.row (fun k hk => Below.heap_alloc wr o k (own_lt h.row k hk).2), h.below.alloc h.lt _⟩
theorem Tail.keep {w2 wr w3 : World} {v v' : Value} {l l' : List UInt8} {n : Nat} {xs : List Value} (h : Tail w2 wr v l) (ho : w3.ownsRow w2.heap.size 5 1 v' n xs) (hg : wr.grownBy w3 v.ownBlock) (hn : n = l'.length) (hx : xs = l'.map B) : Tail w2 w3 v' l' :=
  ⟨own_len ho hn hx, h.below.grown hg h.lt (fun k hk => (own_lt h.row k hk).1)⟩
theorem one_sees (w : World) (x : UInt8) : Sees (w.alloc (.cells #[.int .u8 (x.toNat : Int)] 5)) (.slice (some ⟨w.heap.size, 0, none⟩) 1 1) [x] := Sees.lit w [x] (0, 0) (by simp [maxLen])
/-- A load that is guarded, its guard open. -/
theorem wpList_load_when {P : Program} {ops : Array Oper} {Q : Exit → Act → World → Prop} {rest : List Oper} {o : Oper} {a : Act} {w w' : World} {t : TypeId} {v : Value} (hw : Region.wanted o (yielded ops a.tmps) = true) (x : Operand) (ho : o.op = .load t x) (vx : Value) (hx : a.eval x = vx) (hr : (Instr.loadAt t vx).run P w = .ok v w') (h : wpList P ops Q rest (a.put o.dst v) w') : wpList P ops Q (o :: rest) a w := by
  refine wpList_step fun K hK => ?_
  rw [if_pos hw]
  unfold Oper.wp
  rw [exec_load ho hx hr]
  exact hK _ _ h
set_option maxRecDepth 100000 in
set_option maxHeartbeats 6400000 in
theorem enc_yes (w : World) (v : Value) (P : Pk) (h : PkV w v P) (hs : Mp.small P = true) (hsum : Mp.sum P.names ≤ 100000) : Calls Try.prog 9 #[v] w (Encoded w (Mp.enc P)) := by
  obtain ⟨E, hE⟩ : ∃ E, E = Mp.enc P := ⟨_, rfl⟩
  rw [← hE]
  have hs2 : 1 ≤ P.kind ∧ P.kind ≤ 14 ∧ 0 ≤ P.flags ∧ P.flags ≤ 15 ∧ P.names.length ≤ 32 ∧ P.codes.length ≤ 32 ∧ P.name.length + P.text.length + P.topic.length ≤ 16384 := of_decide_eq_true hs
  have hE2 : E = match Mp.next (Mp.whole P) with
    | .ok x _ => if Mp.same x P = true then some (Mp.whole P) else none
    | _ => none := by rw [hE]; unfold Mp.enc; rw [if_pos hs]; cases Mp.next (Mp.whole P) <;> rfl
  have HE := hid hE2
  clear hE hE2 hs
  obtain ⟨k, hk⟩ : ∃ k : Nat, P.kind = k := ⟨P.kind.toNat, by omega⟩
  obtain ⟨f, hf⟩ : ∃ f : Nat, P.flags = f := ⟨P.flags.toNat, by omega⟩
  have hrl := Mp.rest_len (p := P) (by omega) (by omega) (by omega) hsum
  have hra := fun w v (h : PkV w v P) => rest_any w v P h (by omega) (by omega) (by omega) (by omega) (by omega) (fun x hx => Nat.le_trans (Mp.sum_le hx) hsum)
  obtain ⟨L, hL⟩ : ∃ L, L = Mp.rest P := ⟨_, rfl⟩
  rw [← hL] at hra hrl
  have hwl := Mp.whole_len (p := P) (by rw [← hL]; exact hrl)
  have hwh : Mp.whole P = Mp.b1 ((k * 16 + f : Nat) : Int) :: (Mp.var L.length L.length ++ L) := by unfold Mp.whole; rw [← hL, hk, hf]; rfl
  obtain ⟨W, hW⟩ : ∃ W, W = Mp.whole P := ⟨_, rfl⟩
  rw [← hW] at hwh HE hwl
  have HWH := hid hwh
  have HWL := hid hwl
  have HRA := hid hra
  clear hra hwh hL hW hwl
  obtain ⟨⟨nv, cv, rfl, hn, hc⟩, bn, bc⟩ := h
  obtain ⟨an, cn, hnv, -⟩ := hn.form
  obtain ⟨ac, cc, hcv, -⟩ := hc.form
  rw [List.length_map] at hnv hcv
  have hp : PIn (w.alloc (.cells (pkCells P nv cv) 25)) w.heap.size P nv cv := pk_box
  have hB : Below w.heap.size w (w.alloc (.cells (pkCells P nv cv) 25)) := (Below.refl _ _).alloc (Nat.le_refl _) _
  obtain ⟨w1, hw1⟩ : ∃ w1, w1 = w.alloc (.cells (pkCells P nv cv) 25) := ⟨_, rfl⟩
  have hz1 : w1.heap.size = w.heap.size + 1 := by rw [hw1]; simp
  rw [← hw1] at hp hB
  have c0 : w1.cell? ⟨w.heap.size, 0, none⟩ = some (I k) := by rw [← hk]; exact hp.cell 0
  have c1 : w1.cell? ⟨w.heap.size, 1, none⟩ = some (I f) := by rw [← hf]; exact hp.cell 1
  have c4 : w1.cell? ⟨w.heap.size, 4, none⟩ = some (S P.name) := hp.cell 4
  have c5 : w1.cell? ⟨w.heap.size, 5, none⟩ = some (S P.text) := hp.cell 5
  have c8 : w1.cell? ⟨w.heap.size, 8, none⟩ = some (S P.topic) := hp.cell 8
  have c10 : w1.cell? ⟨w.heap.size, 10, none⟩ = some (.slice an P.names.length cn) := (hp.cell 10).trans (by rw [← hnv]; rfl)
  have c11 : w1.cell? ⟨w.heap.size, 11, none⟩ = some (.slice ac P.codes.length cc) := (hp.cell 11).trans (by rw [← hcv]; rfl)
  have s4 := str_size P.name
  have s5 := str_size P.text
  have s8 := str_size P.topic
  have h16 : P.name.length + P.text.length + P.topic.length ≤ 16384 := hs2.2.2.2.2.2.2
  have hk14 : 1 ≤ k ∧ k ≤ 14 := by omega
  have hf15 : f ≤ 15 := by omega
  have e0 : decide ((k : Int) < 1) = false := decide_eq_false (by omega)
  have e1 : decide (14 < (k : Int)) = false := decide_eq_false (by omega)
  have e2 : decide ((f : Int) < 0) = false := decide_eq_false (by omega)
  have e3 : decide (15 < (f : Int)) = false := decide_eq_false (by omega)
  have e4 : decide (32 < (P.names.length : Int)) = false := decide_eq_false (by omega)
  have e5 : decide (32 < (P.codes.length : Int)) = false := decide_eq_false (by omega)
  have e6 : decide (16384 < (P.name.length : Int) + (P.text.length : Int) + (P.topic.length : Int)) = false := decide_eq_false (by omega)
  have HV := hid (show PkV w1 (.agg (pkCells P nv cv)) P from ⟨⟨nv, cv, rfl, hn.below hB, hc.below hB⟩, bn, bc⟩)
  have HLD := hid hp.load
  have HW := hid hw1
  have HB := hid hB
  have HP := hid hp
  have HZ := hid hz1
  have H16 := hid (or16 k f (by omega) (by omega))
  have HNC := hid (And.intro hnv hcv)
  have HN := hid hn
  have HC := hid hc
  have HK := hid hk
  have HBN := hid (And.intro bn bc)
  have HF := hid hf
  clear hw1 hB hnv hcv hn hc hp hs2 hk hf hsum bn bc hz1
  go_enter Try.func9, Try.ntmps9
  go_upto_region 1 with (fail)
  rw [← HW.out]
  clear HW
  go_upto_region 4 with (first | (show wpList _ _ _ ({ dst := some 54, op := _, type := _, pos := _, after := _, guard := _ } :: _) _ _; refine wpList_load_by rfl (.tmp 1) rfl (.pointer (some ⟨w.heap.size, 0, none⟩)) rfl HLD.out ?_) | (go_at_call 14; refine (HRA.out _ _ HV.out).mono ?_; rintro e w2 ⟨v2, rfl, ho2, hb2⟩; obtain ⟨a2, n2, rfl⟩ := own_form ho2; have HO2 := hid ho2; have HB2 := hid hb2; clear ho2 hb2) | fail)
  clear c0 c1 c4 c5 c8 c10 c11 s4 s5 s8 e0 e1 e2 e3 e4 e5 e6 HLD HRA HV
  obtain ⟨b, hbb⟩ : ∃ b, b = w.heap.size := ⟨_, rfl⟩
  have hlt2 : w.heap.size < w2.heap.size := by have := HB2.out.size; have := HZ.out; omega
  have hp2 : PIn w2 w.heap.size P nv cv := HP.out.below HB2.out
  have hbw2 : Below w.heap.size w w2 := HB.out.trans (HB2.out.mono (by have := HZ.out; omega))
  have hs2 := own_sees' HO2.out rfl
  have HR2 := hid (show w2.ownsRow (w.heap.size + 1) 5 1 (.slice a2 L.length n2) L.length (L.map B) from by have h9 := HO2.out; rw [HZ.out] at h9; exact h9)
  rw [← hbb] at hp2 hbw2 hlt2 HR2 ⊢
  have c0 : w2.cell? ⟨b, 0, none⟩ = some (I k) := by rw [← HK.out]; exact hp2.cell 0
  have c1 : w2.cell? ⟨b, 1, none⟩ = some (I f) := by rw [← HF.out]; exact hp2.cell 1
  have HP2 := hid hp2
  have HBW2 := hid hbw2
  have HS2 := hid hs2
  have HBB := hid hbb
  clear HO2 HB2 HB HP HZ hp2 hbw2 hs2 hbb
  have ew := b1_wrap ((k * 16 + f : Nat) : Int)
  have e16 := H16.out
  have er : Go.bits .or .i64 ((k : Int) * 16) (f : Int) = (k : Int) * 16 + (f : Int) := by rw [e16]; omega
  have ew2 : IntKind.u8.wrap ((k : Int) * 16 + (f : Int)) = ((Mp.b1 ((k * 16 + f : Nat) : Int)).toNat : Int) := by rw [← ew]; congr 1
  obtain ⟨x, hx⟩ : ∃ x, x = Mp.b1 ((k * 16 + f : Nat) : Int) := ⟨_, rfl⟩
  rw [← hx] at HWH ew2
  clear e16 ew hx H16
  have hT : Tail w2 (w2.alloc (.cells #[.int .u8 (x.toNat : Int)] 5)) (.slice (some ⟨w2.heap.size, 0, none⟩) 1 1) [x] := ⟨own_new w2 [x] (by simp [maxLen]), (Below.refl _ _).alloc (Nat.le_refl _) _⟩
  have HT := hid hT
  clear hT
  go_wp2_with fail
  go_loopw [5, 6] (fun v5 n6 wr => ∃ (N : Nat) (l : List UInt8), N ≤ 200000 ∧ n6 = I N ∧ Hid (Tail w2 wr v5 l ∧ l ++ Mp.var N N = x :: Mp.var L.length L.length)) (fun _ n6 _ => (intOf n6).toNat)
  case atStart => exact ⟨L.length, [x], by omega, rfl, hid ⟨HT.out, rfl⟩⟩
  case round =>
    clear HT c0 c1
    obtain ⟨N, l, hN, rfl, HH⟩ := hrel
    obtain ⟨hT, hvar⟩ := HH.out
    have HLB : Hid (l.length ≤ 200002) := hid (by
      have h1 := congrArg List.length hvar
      have h2 := Mp.var_len L.length L.length
      simp only [List.length_append, List.length_cons] at h1
      omega)
    have HT := hid hT
    have HVAR := hid hvar
    have hlt9 := hT.lt
    clear hT hvar HH
    by_cases hbig : 127 < N
    · have hd : decide (127 < (N : Int)) = true := decide_eq_true (by omega)
      have e1 : IntKind.u8.wrap (N : Int) = (N : Int) % 256 := IntKind.wrap_u8 _
      have e2 := or128 N
      obtain ⟨y, hy⟩ : ∃ y, y = UInt8.ofNat (N % 128 + 128) := ⟨_, rfl⟩
      rw [← hy] at e2
      have hvb := Mp.var_big hbig
      rw [← hy] at hvb
      have HVB := hid hvb
      have HTA := hid (HT.out.alloc (.cells #[.int .u8 (y.toNat : Int)] 5))
      have HSA := hid (one_sees wr y)
      clear hy hvb HT
      go_wp2_with (at_builtin; go_must (refine wpList_app rfl (.tmp 68) (.tmp 72) 28 rfl w2.heap.size 5 (.int .u8 0) 1 1 Try.underlying28 info5 rfl (by decide) _ _ 1 ([y].map B) HTA.out.row HSA.out.src ?h63 ?hb ?hbase ?_))
      case h63 => have := HLB.out; unfold maxLen; omega
      case hb => have := HLB.out; omega
      case hbase => exact HTA.out.lt
      intro v9 w9 hown hgrow hat
      have HT9 : Hid (Tail w2 w9 v9 (l ++ [y])) := hid (HTA.out.keep hown hgrow (by rw [List.length_append]; rfl) (by rw [List.map_append]; rfl))
      clear hown hgrow hat HTA HSA e1 e2 hd
      go_wp2_with fail
      go_roundw
      case rel => exact ⟨N / 128, l ++ [y], by omega, by go_num, hid ⟨HT9.out, by rw [List.append_assoc, ← HVAR.out, HVB.out]; rfl⟩⟩
      case measure => simp [intOf]; omega
    · have hd : decide (127 < (N : Int)) = false := decide_eq_false (by omega)
      have e3 := u8_small N (by omega)
      obtain ⟨y, hy⟩ : ∃ y, y = UInt8.ofNat N := ⟨_, rfl⟩
      rw [← hy] at e3
      have hvb := Mp.var_small (n := N) (by omega)
      rw [← hy] at hvb
      have HWE : Hid (l ++ [y] ++ L = W) := hid (by rw [HWH.out, ← hvb, HVAR.out]; rfl)
      have HTA := hid (HT.out.alloc (.cells #[.int .u8 (y.toNat : Int)] 5))
      have HSA := hid (one_sees wr y)
      clear hy hvb HT HVAR
      go_wp2_with (at_builtin; go_must (refine wpList_app rfl (.tmp 76) (.tmp 79) 28 rfl w2.heap.size 5 (.int .u8 0) 1 1 Try.underlying28 info5 rfl (by decide) _ _ 1 ([y].map B) HTA.out.row HSA.out.src ?h63 ?hb ?hbase ?_))
      case h63 => have := HLB.out; unfold maxLen; omega
      case hb => have := HLB.out; omega
      case hbase => exact HTA.out.lt
      intro v9 w9 hown hgrow hat
      have HT9 : Hid (Tail w2 w9 v9 (l ++ [y])) := hid (HTA.out.keep hown hgrow (by rw [List.length_append]; rfl) (by rw [List.map_append]; rfl))
      clear hown hgrow hat HTA HSA
      obtain ⟨l9, hl9⟩ : ∃ l9, l9 = l ++ [y] := ⟨_, rfl⟩
      rw [← hl9] at HT9 HWE
      have HLB9 : Hid (l9.length ≤ 200003) := hid (by rw [hl9, List.length_append]; have := HLB.out; simp; omega)
      have HS9 := hid (HS2.out.below HT9.out.below)
      clear hl9 HLB
      go_wp2_with (at_builtin; go_must (refine wpList_app rfl (.tmp 80) (.tmp 81) 28 rfl w2.heap.size 5 (.int .u8 0) 1 1 Try.underlying28 info5 rfl (by decide) _ _ L.length (L.map B) HT9.out.row HS9.out.src ?h63 ?hb ?hbase ?_))
      case h63 => have := HLB9.out; unfold maxLen; omega
      case hb => have := HLB9.out; omega
      case hbase => exact HT9.out.lt
      intro v10 w10 hown hgrow hat
      have hT10 : Tail w2 w10 v10 W := by rw [← HWE.out]; exact HT9.out.keep hown hgrow (by rw [List.length_append]) (by rw [List.map_append])
      clear hown hgrow hat HT9 HS9 HLB9 HWE e3 hd hlt9
      obtain ⟨a10, n10, rfl⟩ := own_form hT10.row
      have kS : (convert 28 9 (.slice a10 W.length n10)).run Try.prog w10 = .ok (.string (str W)) w10 := run_str Try.underlying28 Try.underlying5 Try.underlying9 (own_sees' hT10.row rfl)
      have HT10 := hid hT10
      have HB10 := hid hT10.below
      have HNX := hid (next_any w10 W (by have := HWL.out; omega))
      clear hT10
      cases hnx : Mp.next W with
      | more =>
        rw [hnx] at HNX HE
        clear hnx
        go_upto_region 11 with (first | (go_at_call 11; refine HNX.out.mono ?_; rintro e w11 ⟨hb11, rfl⟩; have HB11 := hid hb11; clear hb11) | (show wpList _ _ _ ({ dst := none, op := Op.store _ (.tmp 7) _, type := _, pos := _, after := _, guard := _ } :: _) _ _; refine wpList_store_by rfl (.tmp 7) (.tmp 87) rfl rfl (.pointer (some ⟨w11.heap.size, 0, none⟩)) (.agg (pkCells Pk.zero nil0 nil0)) rfl rfl ((pk_box (w := w11) (P := Pk.zero) (nv := nil0) (cv := nil0)).store rfl rfl) ?_) | fail)
        have HB13 : Hid (Below w.heap.size w ((w11.alloc (.cells (pkCells Pk.zero nil0 nil0) 25)).setCells w11.heap.size 0 (pkCells Pk.zero nil0 nil0).toList)) := hid (by
          have hm : Mod (fun k => k = w11.heap.size) w11 ((w11.alloc (.cells (pkCells Pk.zero nil0 nil0) 25)).setCells w11.heap.size 0 (pkCells Pk.zero nil0 nil0).toList) := (Mod.alloc _).trans (Mod.setCells (own := fun k => k = w11.heap.size) rfl _ _ _)
          have h1 := HBB.out
          have h2 := HB10.out.size
          have h3 := HB11.out.size
          have h4 : b ≤ w2.heap.size := Nat.le_of_lt hlt2
          have h5 : Below w.heap.size w w11 := h1 ▸ HBW2.out.trans ((HB10.out.mono h4).trans (HB11.out.mono (by omega)))
          exact h5.trans (hm.below (by have := h5.size; omega) (fun i hi => by omega)))
        generalize (w11.alloc (.cells (pkCells Pk.zero nil0 nil0) 25)).setCells w11.heap.size 0 (pkCells Pk.zero nil0 nil0).toList = w13 at *
        clear kS HNX HT10
        go_wp2
        go_ret2
        rw [HE.out]
        exact ⟨HB13.out, rfl⟩
      | proto =>
        rw [hnx] at HNX HE
        clear hnx
        go_upto_region 11 with (first | (go_at_call 11; refine HNX.out.mono ?_; rintro e w11 ⟨hb11, rfl⟩; have HB11 := hid hb11; clear hb11) | (show wpList _ _ _ ({ dst := none, op := Op.store _ (.tmp 7) _, type := _, pos := _, after := _, guard := _ } :: _) _ _; refine wpList_store_by rfl (.tmp 7) (.tmp 87) rfl rfl (.pointer (some ⟨w11.heap.size, 0, none⟩)) (.agg (pkCells Pk.zero nil0 nil0)) rfl rfl ((pk_box (w := w11) (P := Pk.zero) (nv := nil0) (cv := nil0)).store rfl rfl) ?_) | fail)
        have HB13 : Hid (Below w.heap.size w ((w11.alloc (.cells (pkCells Pk.zero nil0 nil0) 25)).setCells w11.heap.size 0 (pkCells Pk.zero nil0 nil0).toList)) := hid (by
          have hm : Mod (fun k => k = w11.heap.size) w11 ((w11.alloc (.cells (pkCells Pk.zero nil0 nil0) 25)).setCells w11.heap.size 0 (pkCells Pk.zero nil0 nil0).toList) := (Mod.alloc _).trans (Mod.setCells (own := fun k => k = w11.heap.size) rfl _ _ _)
          have h1 := HBB.out
          have h2 := HB10.out.size
          have h3 := HB11.out.size
          have h4 : b ≤ w2.heap.size := Nat.le_of_lt hlt2
          have h5 : Below w.heap.size w w11 := h1 ▸ HBW2.out.trans ((HB10.out.mono h4).trans (HB11.out.mono (by omega)))
          exact h5.trans (hm.below (by have := h5.size; omega) (fun i hi => by omega)))
        generalize (w11.alloc (.cells (pkCells Pk.zero nil0 nil0) 25)).setCells w11.heap.size 0 (pkCells Pk.zero nil0 nil0).toList = w13 at *
        clear kS HNX HT10
        go_wp2
        go_ret2
        rw [HE.out]
        exact ⟨HB13.out, rfl⟩
      | ok Q n =>
        rw [hnx] at HNX HE
        have HJ := hid (Mp.next_just hnx)
        clear hnx
        go_upto_region 11 with (first | (go_at_call 11; refine HNX.out.mono ?_; rintro e w11 ⟨hb11, nvq, cvq, rfl, hnq, hcq⟩; have HB11 := hid hb11; have HNQ := hid hnq; have HCQ := hid hcq; clear hb11 hnq hcq) | (show wpList _ _ _ ({ dst := none, op := Op.store _ (.tmp 7) _, type := _, pos := _, after := _, guard := _ } :: _) _ _; refine wpList_store_by rfl (.tmp 7) (.tmp 87) rfl rfl (.pointer (some ⟨w11.heap.size, 0, none⟩)) (.agg (pkCells Q nvq cvq)) rfl rfl ((pk_box (w := w11) (P := Pk.zero) (nv := nil0) (cv := nil0)).store (by obtain ⟨_, _, rfl⟩ := own_form HNQ.out; rfl) (by obtain ⟨_, _, rfl⟩ := own_form HCQ.out; rfl)) ?_) | fail)
        have hm : Mod (fun k => k = w11.heap.size) w11 ((w11.alloc (.cells (pkCells Pk.zero nil0 nil0) 25)).setCells w11.heap.size 0 (pkCells Q nvq cvq).toList) := (Mod.alloc _).trans (Mod.setCells (own := fun k => k = w11.heap.size) rfl _ _ _)
        have hb13 : Below w11.heap.size w11 ((w11.alloc (.cells (pkCells Pk.zero nil0 nil0) 25)).setCells w11.heap.size 0 (pkCells Q nvq cvq).toList) := hm.below (Nat.le_refl _) (fun i hi => by omega)
        have hpq : PIn ((w11.alloc (.cells (pkCells Pk.zero nil0 nil0) 25)).setCells w11.heap.size 0 (pkCells Q nvq cvq).toList) w11.heap.size Q nvq cvq := (pk_box (w := w11) (P := Pk.zero) (nv := nil0) (cv := nil0)).stored Q nvq cvq
        generalize (w11.alloc (.cells (pkCells Pk.zero nil0 nil0) 25)).setCells w11.heap.size 0 (pkCells Q nvq cvq).toList = w13 at *
        have h1 := HBB.out
        have h2 := HB10.out.size
        have h3 := HB11.out.size
        have hbw11 : Below w.heap.size w w11 := h1 ▸ HBW2.out.trans ((HB10.out.mono (Nat.le_of_lt hlt2)).trans (HB11.out.mono (by omega)))
        have hbw13 : Below w.heap.size w w13 := hbw11.trans (hb13.mono (by omega))
        have hpp : PIn w13 b P nv cv := HP2.out.keep (((hb13.block b (by omega)).trans (HB11.out.block b (by omega))).trans (HB10.out.block b hlt2))
        have hvq : PkV w13 (.agg (pkCells Q nvq cvq)) Q := by
          obtain ⟨-, -, -, -, k', f', t', -, -, -, -, hj⟩ := HJ.out
          have := hj.names
          have := hj.codes
          exact ⟨⟨nvq, cvq, rfl, own_seesV (own_below HNQ.out hb13) (by rw [List.length_map]), own_seesV (own_below HCQ.out hb13) (by rw [List.length_map])⟩, by omega, by omega⟩
        have hvp : PkV w13 (.agg (pkCells P nv cv)) P := ⟨⟨nv, cv, rfl, HN.out.below hbw13, HC.out.below hbw13⟩, HBN.out.1, HBN.out.2⟩
        have HSM := hid (same_any w13 _ _ Q P hvq hvp)
        have HRW : Hid (w13.ownsRow w2.heap.size 5 1 (.slice a10 W.length n10) W.length (W.map B)) := hid (own_below (own_below HT10.out.row HB11.out) hb13)
        have kq := hid hpq.load
        have kp := hid hpp.load
        have HB13 := hid hbw13
        generalize w11.heap.size = q at *
        clear hm hb13 hpq h1 h2 h3 hbw11 hbw13 hpp hvq hvp HJ HNQ HCQ HB11 HB10 HT10 HNX kS HN HC
        cases hsm : Mp.same Q P with
        | true =>
          rw [hsm] at HSM
          replace HE : Hid (E = some W) := hid (HE.out.trans (if_pos hsm))
          clear hsm
          go_wp2_with (first | (show wpList _ _ _ ({ dst := some 93, op := _, type := _, pos := _, after := _, guard := _ } :: _) _ _; refine wpList_load_when (by rfl) (.tmp 7) rfl (.pointer (some ⟨q, 0, none⟩)) rfl kq.out ?_) | (show wpList _ _ _ ({ dst := some 94, op := _, type := _, pos := _, after := _, guard := _ } :: _) _ _; refine wpList_load_when (by rfl) (.tmp 1) rfl (.pointer (some ⟨b, 0, none⟩)) rfl kp.out ?_) | (go_at_call 15; refine HSM.out.mono ?_; rintro e w14 ⟨rfl, hb14⟩; have HB14 := hid hb14; clear hb14) | fail)
          go_ret2
          rw [HE.out]
          have h1 := HBB.out
          exact ⟨HB13.out.trans (HB14.out.mono HB13.out.size), _, rfl, own_anew (own_below HRW.out HB14.out) (fun k hk => by have := (own_lt HRW.out k hk).1; omega)⟩
        | false =>
          rw [hsm] at HSM
          replace HE : Hid (E = none) := hid (HE.out.trans (if_neg (by rw [hsm]; decide)))
          clear hsm
          go_wp2_with (first | (show wpList _ _ _ ({ dst := some 93, op := _, type := _, pos := _, after := _, guard := _ } :: _) _ _; refine wpList_load_when (by rfl) (.tmp 7) rfl (.pointer (some ⟨q, 0, none⟩)) rfl kq.out ?_) | (show wpList _ _ _ ({ dst := some 94, op := _, type := _, pos := _, after := _, guard := _ } :: _) _ _; refine wpList_load_when (by rfl) (.tmp 1) rfl (.pointer (some ⟨b, 0, none⟩)) rfl kp.out ?_) | (go_at_call 15; refine HSM.out.mono ?_; rintro e w14 ⟨rfl, hb14⟩; have HB14 := hid hb14; clear hb14) | fail)
          go_ret2
          rw [HE.out]
          exact ⟨HB13.out.trans (HB14.out.mono HB13.out.size), rfl⟩
/-- Encode, of any packet that isn't too heavy. -/
theorem enc_any (w : World) (v : Value) (P : Pk) (h : PkV w v P) (hb : P.name.length + P.text.length + P.topic.length ≤ 100000000) (hsum : Mp.sum P.names ≤ 100000) : Calls Try.prog 9 #[v] w (Encoded w (Mp.enc P)) := by
  cases hs : Mp.small P with
  | true => exact enc_yes w v P h hs hsum
  | false => exact enc_no w v P h hs hb
end Go.Proofs.Ytnljmllkfmgclaa
