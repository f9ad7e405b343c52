/-
  WHAT THE LAWS' WALKS SHARE; the walk of MpacketOnce (5). Conditions: those that each contract names.
-/
import Derived.Test.YtnljmllkfmgclaaMpacPT
namespace Go.Proofs.Ytnljmllkfmgclaa
open Go.RowKit
set_option linter.unusedVariables false
set_option linter.unusedSimpArgs false

def Mp.Res.pk : Mp.Res → Pk
  | .ok P _ => P
  | _ => Pk.zero
def Mp.Res.n : Mp.Res → Nat
  | .ok _ n => n
  | _ => 0
def Mp.Res.code : Mp.Res → Int
  | .more => 41
  | .proto => 40
  | .ok _ _ => 0
theorem Mp.next_bound (s : Mp.Bs) : (Mp.next s).pk.names.length ≤ 32 ∧ (Mp.next s).pk.codes.length ≤ 32 := by
  cases h : Mp.next s with
  | more => exact ⟨Nat.zero_le _, Nat.zero_le _⟩
  | proto => exact ⟨Nat.zero_le _, Nat.zero_le _⟩
  | ok P n =>
    obtain ⟨-, -, -, -, k, f, t, -, -, -, -, hj⟩ := Mp.next_just h
    exact ⟨hj.names, hj.codes⟩
/-- A packet at block q, its names and codes seen. -/
structure Held (x : World) (q : Nat) (P : Pk) (nv cv : Value) : Prop where
  pk : PIn x q P nv cv
  nv : SeesV x nv (P.names.map S)
  cv : SeesV x cv (P.codes.map I)
theorem Held.below {x y : World} {q : Nat} {P : Pk} {nv cv : Value} (h : Held x q P nv cv) (hb : Below x.heap.size x y) : Held y q P nv cv := ⟨h.pk.below hb, h.nv.below hb, h.cv.below hb⟩
theorem Held.f {x : World} {q : Nat} {P : Pk} {nv cv : Value} (h : Held x q P nv cv) : PkF x (.agg (pkCells P nv cv)) P := ⟨nv, cv, rfl, h.nv, h.cv⟩
theorem Held.v {x : World} {q : Nat} {P : Pk} {nv cv : Value} (h : Held x q P nv cv) (h1 : P.names.length ≤ 1000000000) (h2 : P.codes.length ≤ 1000000000) : PkV x (.agg (pkCells P nv cv)) P := ⟨h.f, h1, h2⟩
/-- What Next answers, in one form. -/
structure Told (w : World) (R : Mp.Res) (nv cv : Value) (e : Ending) (w' : World) : Prop where
  is : e = .returned (.tuple #[.agg (pkCells R.pk nv cv), I R.n, I R.code])
  below : Below w.heap.size w w'
  nr : w'.ownsRow w.heap.size 9 1 nv R.pk.names.length (R.pk.names.map S)
  cr : w'.ownsRow w.heap.size 3 1 cv R.pk.codes.length (R.pk.codes.map I)
theorem Nexted.told {w w' : World} {R : Mp.Res} {e : Ending} (h : Nexted w R e w') : ∃ nv cv, Told w R nv cv e w' := by
  obtain ⟨hb, h⟩ := h
  cases R with
  | more => exact ⟨nil0, nil0, h, hb, World.ownsRow_nil _ _ _ _, World.ownsRow_nil _ _ _ _⟩
  | proto => exact ⟨nil0, nil0, h, hb, World.ownsRow_nil _ _ _ _, World.ownsRow_nil _ _ _ _⟩
  | ok P n =>
    obtain ⟨nv, cv, he, h1, h2⟩ := h
    exact ⟨nv, cv, he, hb, h1, h2⟩
theorem Told.one {w w' : World} {R : Mp.Res} {nv cv : Value} {e : Ending} (h : Told w R nv cv e w') : nv.oneCell' = true ∧ cv.oneCell' = true := by
  constructor
  · obtain ⟨_, _, rfl⟩ := own_form h.nr; rfl
  · obtain ⟨_, _, rfl⟩ := own_form h.cr; rfl
/-- Stored in a block just laid. -/
theorem Told.held {w w' : World} {R : Mp.Res} {nv cv : Value} {e : Ending} (h : Told w R nv cv e w') :
    Held ((w'.alloc (.cells (pkCells Pk.zero nil0 nil0) 25)).setCells w'.heap.size 0 (pkCells R.pk nv cv).toList) w'.heap.size R.pk nv cv ∧ Below w.heap.size w ((w'.alloc (.cells (pkCells Pk.zero nil0 nil0) 25)).setCells w'.heap.size 0 (pkCells R.pk nv cv).toList) := by
  obtain ⟨h1, h2⟩ := stored25 w' R.pk nv cv
  exact ⟨⟨h1, own_seesV (own_below h.nr h2) (by rw [List.length_map]), own_seesV (own_below h.cr h2) (by rw [List.length_map])⟩, h.below.trans (h2.mono h.below.size)⟩
theorem Told.store {w w' : World} {R : Mp.Res} {nv cv : Value} {e : Ending} (h : Told w R nv cv e w') :
    (Instr.storeAt 25 (.pointer (some ⟨w'.heap.size, 0, none⟩)) (.agg (pkCells R.pk nv cv))).run Try.prog (w'.alloc (.cells (pkCells Pk.zero nil0 nil0) 25)) = .ok () ((w'.alloc (.cells (pkCells Pk.zero nil0 nil0) 25)).setCells w'.heap.size 0 (pkCells R.pk nv cv).toList) :=
  (pk_box (w := w') (P := Pk.zero) (nv := nil0) (cv := nil0)).store h.one.1 h.one.2
set_option maxRecDepth 100000 in
set_option maxHeartbeats 6400000 in
theorem once_any (w : World) (s m : List UInt8) :
    Calls Try.prog 5 #[S s, S m] w fun e w' => e = .returned (.bool true) ∧ Below w.heap.size w w' := by
  have z1 := str_size s
  have z2 := str_size m
  have HWK := hid (wakes_any w)
  by_cases ha : 32768 < s.length
  · have hd : decide (32768 < (s.length : Int)) = true := decide_eq_true (by omega)
    go_enter Try.func5, Try.ntmps5
    go_wp2_with (first | (go_at_call 7; refine HWK.out.mono ?_; rintro e w1 ⟨rfl, hb1⟩; have HB1 := hid hb1; clear hb1) | fail)
    go_ret
    exact ⟨rfl, HB1.out⟩
  have hd : decide (32768 < (s.length : Int)) = false := decide_eq_false (by omega)
  by_cases hb : 32768 < m.length
  · have hd2 : decide (32768 < (m.length : Int)) = true := decide_eq_true (by omega)
    go_enter Try.func5, Try.ntmps5
    go_wp2_with (first | (go_at_call 7; refine HWK.out.mono ?_; rintro e w1 ⟨rfl, hb1⟩; have HB1 := hid hb1; clear hb1) | fail)
    go_ret
    exact ⟨rfl, HB1.out⟩
  have hd2 : decide (32768 < (m.length : Int)) = false := decide_eq_false (by omega)
  have HNX := hid (fun w => next_any w s (by omega))
  have HNY := hid (fun w => next_any w (s ++ m) (by rw [List.length_append]; omega))
  have hbd := Mp.next_bound s
  obtain ⟨R, hR⟩ : ∃ R, R = Mp.next s := ⟨_, rfl⟩
  rw [← hR] at HNX hbd
  by_cases hm : R = .more
  · have hlen : s.length < 16388 := Mp.next_more_len (hR.symm.trans hm)
    subst hm
    have hd3 : decide ((s.length : Int) < 16388) = true := decide_eq_true (by omega)
    clear hR hbd HNY
    go_enter Try.func5, Try.ntmps5
    go_upto_region 6 with (first | (go_at_call 7; refine HWK.out.mono ?_; rintro e w1 ⟨rfl, hb1⟩; have HB1 := hid hb1; clear hb1) | (go_at_call 11; refine (HNX.out _).mono ?_; rintro e w2 ⟨hb2, rfl⟩; have HB2 := hid hb2; clear hb2) | (show wpList _ _ _ ({ dst := none, op := Op.store _ (.tmp 5) _, type := _, pos := _, after := _, guard := _ } :: _) _ _; refine wpList_store_by rfl (.tmp 5) (.tmp 24) rfl rfl (.pointer (some ⟨w2.heap.size, 0, none⟩)) (.agg (pkCells Pk.zero nil0 nil0)) rfl rfl ((pk_box (w := w2) (P := Pk.zero) (nv := nil0) (cv := nil0)).store rfl rfl) ?_) | fail)
    have HB3 := hid (stored25 w2 Pk.zero nil0 nil0).2
    generalize (w2.alloc (.cells (pkCells Pk.zero nil0 nil0) 25)).setCells w2.heap.size 0 (pkCells Pk.zero nil0 nil0).toList = w3 at *
    go_wp2_with fail
    go_ret
    exact ⟨rfl, HB1.out.trans ((HB2.out.mono HB1.out.size).trans (HB3.out.mono (Nat.le_trans HB1.out.size HB2.out.size)))⟩
  have happ : Mp.next (s ++ m) = R := by rw [hR]; exact Mp.next_append s m (by rw [← hR]; exact hm)
  rw [happ] at HNY
  have hcn : (R.code = 40 ∧ R.n = 0) ∨ (R.code = 0 ∧ 0 < R.n) := by
    cases R with
    | more => exact absurd rfl hm
    | proto => exact .inl ⟨rfl, rfl⟩
    | ok P n => exact .inr ⟨rfl, (Mp.next_just hR.symm).2.1⟩
  have hadd : str s ++ str m = str (s ++ m) := str_append s m
  have hb1 := hbd.1
  have hb2 := hbd.2
  have HCN := hid hcn
  clear hm hR happ hbd hcn
  go_enter Try.func5, Try.ntmps5
  go_upto_region 6 with (first | (go_at_call 7; refine HWK.out.mono ?_; rintro e w1 ⟨rfl, hb1⟩; have HB1 := hid hb1; clear hb1) | (go_at_call 11; refine (HNX.out _).mono ?_; intro e w2 hN; obtain ⟨nv, cv, hT⟩ := hN.told; obtain rfl := hT.is; have HT := hid hT; clear hN hT) | (show wpList _ _ _ ({ dst := none, op := Op.store _ (.tmp 5) _, type := _, pos := _, after := _, guard := _ } :: _) _ _; refine wpList_store_by rfl (.tmp 5) (.tmp 24) rfl rfl (.pointer (some ⟨w2.heap.size, 0, none⟩)) (.agg (pkCells R.pk nv cv)) rfl rfl HT.out.store ?_) | fail)
  have HH := hid HT.out.held.1
  have HB3 : Hid (Below w.heap.size w _) := hid (HB1.out.trans (HT.out.held.2.mono HB1.out.size))
  generalize (w2.alloc (.cells (pkCells Pk.zero nil0 nil0) 25)).setCells w2.heap.size 0 (pkCells R.pk nv cv).toList = w3 at *
  generalize w2.heap.size = q at *
  clear HT HNX HWK
  have hc41 : (R.code == 41) = false := by rcases HCN.out with h | h <;> rw [h.1] <;> rfl
  go_upto_region 9 with (first | (go_at_call 11; refine (HNY.out _).mono ?_; intro e w4 hN; obtain ⟨nv2, cv2, hT⟩ := hN.told; obtain rfl := hT.is; have HT := hid hT; clear hN hT) | (show wpList _ _ _ ({ dst := none, op := Op.store _ (.tmp 8) _, type := _, pos := _, after := _, guard := _ } :: _) _ _; refine wpList_store_by rfl (.tmp 8) (.tmp 41) rfl rfl (.pointer (some ⟨w4.heap.size, 0, none⟩)) (.agg (pkCells R.pk nv2 cv2)) rfl rfl HT.out.store ?_) | fail)
  have h2 := HT.out.held
  have HH1 := hid (HH.out.below h2.2)
  have HH2 := hid h2.1
  have HB5 : Hid (Below w.heap.size w _) := hid (HB3.out.trans (h2.2.mono HB3.out.size))
  clear h2 HNY HB3 HB1 HH
  generalize (w4.alloc (.cells (pkCells Pk.zero nil0 nil0) 25)).setCells w4.heap.size 0 (pkCells R.pk nv2 cv2).toList = w5 at *
  generalize w4.heap.size = q2 at *
  have hsm := same13_any w5 _ _ R.pk R.pk (HH1.out.v (by omega) (by omega)) (HH2.out.v (by omega) (by omega))
  rw [(Mp.same_iff _ _).2 rfl] at hsm
  have HSM := hid hsm
  have HL1 := hid HH1.out.pk.load
  have HL2 := hid HH2.out.pk.load
  clear hsm HT hc41 hb1 hb2 hadd hd hd2 ha hb
  generalize R.code = c at *
  generalize R.n = n at *
  rcases HCN.out with ⟨rfl, rfl⟩ | ⟨rfl, hn⟩
  · go_wp2_with (first | (show wpList _ _ _ ({ dst := some 44, op := _, type := _, pos := _, after := _, guard := _ } :: _) _ _; refine wpList_load_by rfl (.tmp 5) rfl (.pointer (some ⟨q, 0, none⟩)) rfl HL1.out ?_) | (show wpList _ _ _ ({ dst := some 45, op := _, type := _, pos := _, after := _, guard := _ } :: _) _ _; refine wpList_load_by rfl (.tmp 8) rfl (.pointer (some ⟨q2, 0, none⟩)) rfl HL2.out ?_) | (go_at_call 13; refine HSM.out.mono ?_; rintro e w6 ⟨rfl, hb6⟩; have HB6 := hid hb6; clear hb6) | fail)
    go_ret
    exact ⟨rfl, HB5.out.trans (HB6.out.mono HB5.out.size)⟩
  · have hd : decide ((0 : Int) < (n : Int)) = true := decide_eq_true (by omega)
    go_wp2_with (first | (show wpList _ _ _ ({ dst := some 44, op := _, type := _, pos := _, after := _, guard := _ } :: _) _ _; refine wpList_load_by rfl (.tmp 5) rfl (.pointer (some ⟨q, 0, none⟩)) rfl HL1.out ?_) | (show wpList _ _ _ ({ dst := some 45, op := _, type := _, pos := _, after := _, guard := _ } :: _) _ _; refine wpList_load_by rfl (.tmp 8) rfl (.pointer (some ⟨q2, 0, none⟩)) rfl HL2.out ?_) | (go_at_call 13; refine HSM.out.mono ?_; rintro e w6 ⟨rfl, hb6⟩; have HB6 := hid hb6; clear hb6) | fail)
    go_ret
    exact ⟨rfl, HB5.out.trans (HB6.out.mono HB5.out.size)⟩
theorem once_row (s m : List UInt8) (W : World) (h : W = W) : Calls Try.prog 5 #[S s, S m] W fun e w' => e = .returned (.bool true) ∧ Below W.heap.size W w' := once_any W s m
end Go.Proofs.Ytnljmllkfmgclaa
