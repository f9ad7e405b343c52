/-
  SealBack of layer 2 answers true for every slice of bytes and every number, and leaves its arguments as they were.
  Conditions: none beyond the given row's. (The frame round the walk was written by the kit's proof-skeleton.)
-/
import Derived.Test.YtoaeapnkefjpaaaRows
import Derived.Test.YtoaeapnkefjpaaaSealC
import Derived.Test.YtoaeapnkefjpaaaReg
import Derived.WalkKit
import Derived.ProofKit
import Derived.OpenShut
import Derived.ShutString
import Derived.ChangeOld
import Derived.Below
namespace Go.Proofs.Ytoaeapnkefjpaaa.sealBack
open Go.ChangeShapes Go.WideShapes Go.ChangeAt Go.RowKit
open Go.ChangeMaps (open_string shut_string)
set_option linter.unusedVariables false
set_option linter.unusedSimpArgs false

theorem own : ownKnob Try.prog.godebug = none := by kernel_rfl
theorem laidOut : laidOutB Try.prog = true := by kernel_rfl

/-- What the walk is told of a slice of integers that came in. -/
def IsRow (k : IntKind) (w : World) (a : Option Addr) (len cap : Nat) (zs : List Int) : Prop :=
  (a = none ∧ len = 0 ∧ cap = 0 ∧ zs = []) ∨
  ∃ x, a = some x ∧ len ≤ cap ∧ cap ≤ maxLen ∧ zs.length = cap ∧ (∀ i, i < zs.length → w.cell? (x.add i) = some (.int k (zs.getD i 0))) ∧ ∀ n ∈ zs, (Lit.int k n).wf = true

/-! ### The walk -/
def room : List UInt8 := [114, 111, 111, 109, 32, 102, 111, 114, 32, 101, 105, 103, 104, 116]
/-- What is seen while the two sums are put. -/
def SB (w0 w' : World) (x m b : Value) (X M l : List UInt8) : Prop := Sees w' x X ∧ Sees w' m M ∧ Sees w' b l ∧ Below w0.heap.size w0 w'
theorem SB.next {w0 w' w'' : World} {x m b : Value} {X M l : List UInt8} (h : SB w0 w' x m b X M l) (hb : Below w'.heap.size w' w'') : SB w0 w'' x m b X M l :=
  ⟨h.1.below hb, h.2.1.below hb, h.2.2.1.below hb, h.2.2.2.trans (hb.mono h.2.2.2.size)⟩
theorem SB.drew {w0 w' : World} {x m b : Value} {X M l : List UInt8} (h : SB w0 w' x m b X M l) : SB w0 w'.drew x m b X M l := h.next ⟨rfl, rfl, rfl, Nat.le_refl _, fun _ _ => rfl⟩
def SR (w' : World) (x m b : Value) (X M l : List UInt8) : Prop := (convert 23 9 x).run Try.prog w' = .ok (.string (str X)) w' ∧ (convert 23 9 m).run Try.prog w' = .ok (.string (str M)) w' ∧ (convert 23 9 b).run Try.prog w' = .ok (.string (str l)) w'
theorem SB.runs {w0 w' : World} {x m b : Value} {X M l : List UInt8} (h : SB w0 w' x m b X M l) : SR w' x m b X M l :=
  ⟨run_str Try.underlying23 Try.underlying5 Try.underlying9 h.1, run_str Try.underlying23 Try.underlying5 Try.underlying9 h.2.1, run_str Try.underlying23 Try.underlying5 Try.underlying9 h.2.2.1⟩
theorem SB.conj {w0 w' : World} {x m b : Value} {X M l : List UInt8} (h : SB w0 w' x m b X M l) : (convert 23 9 x).run Try.prog w' = .ok (.string (str X)) w' ∧ (convert 23 9 m).run Try.prog w' = .ok (.string (str M)) w' ∧ (convert 23 9 b).run Try.prog w' = .ok (.string (str l)) w' ∧ Hid (SB w0 w' x m b X M l) :=
  ⟨h.runs.1, h.runs.2.1, h.runs.2.2, h⟩
theorem num_digs (s : Int) (h0 : 0 ≤ s) (h1 : s < 18446744073709551616) : ∀ j, j ≤ 8 → Sum.num (Sum.digs s j) = s / 256 ^ (8 - j) := by
  intro j
  induction j with
  | zero =>
    intro _
    have e : (256 : Int) ^ (8 - 0) = 18446744073709551616 := by decide
    rw [e]
    show (0 : Int) = _
    omega
  | succ j ih =>
    intro hj
    rw [Sum.digs_succ, Sum.num_snoc, ih (by omega)]
    unfold Sum.nst
    rw [Sum.dig_val, show 8 - j = (7 - j) + 1 from by omega, show 8 - (j + 1) = 7 - j from by omega, Int.pow_succ, ← Int.ediv_ediv_of_nonneg (by exact Int.le_of_lt (Int.pow_pos (by decide)))]
    omega
theorem num_be8 (s : Int) (h0 : 0 ≤ s) (h1 : s < 18446744073709551616) : Sum.num (Sum.be8 s) = s := by
  have := num_digs s h0 h1 8 (by omega)
  simpa [Sum.be8] using this
theorem tk_put (l : List UInt8) (s : Int) (h0 : 0 ≤ s) (h1 : s < 18446744073709551616) : tk1 (l ++ Sum.be8 s) = l ∧ tk2 (l ++ Sum.be8 s) = s ∧ tk3 (l ++ Sum.be8 s) = true := by
  have hl : (l ++ Sum.be8 s).length = l.length + 8 := by rw [List.length_append, Sum.be8_length]
  have h : ¬ (l ++ Sum.be8 s).length < 8 := by omega
  have h8 : (l ++ Sum.be8 s).length - 8 = l.length := by omega
  refine ⟨?_, ?_, ?_⟩
  · unfold tk1; rw [if_neg h, h8, List.take_left]
  · unfold tk2; rw [if_neg h, h8, List.drop_left, num_be8 s h0 h1]
  · unfold tk3; rw [decide_eq_false h]; rfl
set_option maxRecDepth 100000 in
set_option maxHeartbeats 1600000 in
theorem walk (a0 : Option Addr) (len0 cap0 : Nat) (z0 : List Int) (a1 : Int) (w : World) (w0 : IsRow .u8 w a0 len0 cap0 z0) (w1 : (Lit.int .u64 a1).wf = true) :
    Calls Try.prog 8 #[.slice a0 len0 cap0, .int .u64 a1] w fun e w' => e = .returned (.bool true) ∧ Below w.heap.size w w' := by
  obtain ⟨l, rfl, hv⟩ := sees_in w0
  have b1 := bounds_u64 w1
  have HV := hid hv
  have HV0 := hid hv
  clear hv w0 w1
  by_cases hlen : l.length ≤ 16384
  case neg =>
    go_enter Try.func8, Try.ntmps8
    go_wp2_with (go_at_call 23; refine (wakes2_any _).mono ?_; rintro e w1 ⟨rfl, hb⟩; have HB := hid hb; clear hb)
    go_ret
    exact ⟨rfl, HB.out⟩
  go_enter Try.func8, Try.ntmps8
  go_wp2_with (first | (go_at_call 23; refine (wakes2_any _).mono ?_; rintro e w1 ⟨rfl, hb⟩; have HB := hid hb; have HV1 := hid (HV.out.below hb); clear hb HV) | (at_builtin; refine wpList_app rfl (.tmp 22) (.tmp 23) 23 rfl w1.heap.size 5 (.int .u8 0) 1 1 Try.underlying23 info5 rfl (by decide) 0 [] l.length (l.map B) ?own ?src ?h63 ?hb (by simp) ?_))
  case own => exact World.ownsRow_made w1 #[] 0 (Nat.le_refl _) (Nat.zero_le _) rfl
  case src => exact HV1.out.src.keep (fun k _ hk => Below.heap_alloc w1 _ k hk)
  case h63 => unfold maxLen; omega
  case hb => omega
  intro v1 w2 hown hgrow hat
  have hb2 : Below w1.heap.size w1 w2 := ((Below.refl _ _).alloc (Nat.le_refl _) _).grown hgrow (by simp) (fun k hk => by cases hk; exact Nat.le_refl _)
  have HB2 := hid hb2
  have HO := hid hown
  clear hown hgrow hat hb2
  obtain ⟨i5, hi5, hz5, hs5, hby5⟩ := info_parts info5
  (refine Lib.wpList_append_own_string w2 rfl (.tmp 24) (.const (.string ⟨#[114, 111, 111, 109, 32, 102, 111, 114, 32, 101, 105, 103, 104, 116]⟩)) 23 9 rfl w1.heap.size 5 i5 Try.underlying23 Try.underlying9 hi5 hz5 hs5 hby5 v1 l.length (l.map B) rfl HO.out ⟨#[114, 111, 111, 109, 32, 102, 111, 114, 32, 101, 105, 103, 104, 116]⟩ rfl ?h63 ?hb ?hbase ?_)
  case h63 => unfold maxLen; simp [ByteArray.size]; omega
  case hb => simp [ByteArray.size]; omega
  case hbase => exact HB2.out.size
  intro v3 w3 hown hgrow hat
  have hb3 : Below w1.heap.size w1 w3 := HB2.out.grown hgrow HB2.out.size (fun k hk => (own_lt HO.out k hk).1)
  have hown3 : w3.ownsRow w1.heap.size 5 1 v3 (l ++ room).length ((l ++ room).map B) := own_len hown (by simp [room, ByteArray.size]) (by rw [List.map_append]; rfl)
  obtain ⟨gm, cm, rfl, hm1, hm2, hm3, hm4⟩ := own_slice hown3 (by simp [room])
  have HO3 := hid hown3
  have HB3 := hid hb3
  unfold maxLen at hm2
  have hml : (l ++ room).length = l.length + room.length := List.length_append
  have hrl : room.length = 14 := rfl
  rw [hml] at hm1
  clear hown hgrow hat hb3 hown3 HB2 HO
  have hM := own_sees HO3.out
  rw [hml] at hM
  have hP := hM.take l.length (by simp)
  rw [List.take_left] at hP
  have HM := hid hM
  have HP := hid hP
  have HV3 := hid (HV1.out.below HB3.out)
  have HBB := hid (HB.out.trans (HB3.out.mono HB.out.size))
  have HWS := hid HBB.out.size
  clear hM hP hml HB3 HB HV1 HO3
  go_wp2_with (go_at_call 30; refine (put_any _ l a1 b1.1 (by omega) _ HP.out (by omega)).mono ?_; rintro e w4 ⟨v6, rfl, ho, hb⟩)
  obtain ⟨gx, cx, rfl, hx1, hx2, hx3, hx4⟩ := own_slice ho (by rw [List.length_append, Sum.be8_length]; omega)
  have hX := own_sees ho
  have hS : SB w w4 (.slice (some ⟨gx, 0, none⟩) (l ++ Sum.be8 a1).length cx) (.slice (some ⟨gm, 0, none⟩) (l.length + 14) cm) (.slice a0 l.length cap0) (l ++ Sum.be8 a1) (l ++ room) l :=
    ⟨hX, HM.out.below hb, HV3.out.below hb, HBB.out.trans (hb.mono HBB.out.size)⟩
  have ho4 := hid ho
  have HS := hid hS
  have hlx : (l ++ Sum.be8 a1).length = l.length + 8 := by rw [List.length_append, Sum.be8_length]
  have HLX := hid hlx
  clear ho hb hX hS hlx HM HP HV3 HBB
  generalize hXX : l ++ Sum.be8 a1 = X at *
  generalize hMM : l ++ room = M at *
  have HXX := hid hXX
  have HMM := hid hMM
  clear hXX hMM
  go_wp2_with fail
  have k1 : ∀ w', Ext w4.drew w' → (convert 23 9 (.slice (some ⟨gx, 0, none⟩) X.length cx)).run Try.prog w' = .ok (.string (str X)) w' := fun w' h => run_str Try.underlying23 Try.underlying5 Try.underlying9 (HS.out.drew.next h).1
  have k2 : ∀ w', Ext w4.drew w' → (convert 23 9 (.slice (some ⟨gm, 0, none⟩) (l.length + 14) cm)).run Try.prog w' = .ok (.string (str M)) w' := fun w' h => run_str Try.underlying23 Try.underlying5 Try.underlying9 (HS.out.drew.next h).2.1
  have k3 : ∀ w', Ext w4.drew w' → (convert 23 9 (.slice a0 l.length cap0)).run Try.prog w' = .ok (.string (str l)) w' := fun w' h => run_str Try.underlying23 Try.underlying5 Try.underlying9 (HS.out.drew.next h).2.2.1
  have hsz : ¬ (9223372036854775807 < (str l).size + 14) := by rw [str_size]; omega
  have hcat : str l ++ (⟨#[114, 111, 111, 109, 32, 102, 111, 114, 32, 101, 105, 103, 104, 116]⟩ : ByteArray) = str M := by
    rw [← HMM.out]; unfold str room; apply ByteArray.ext; simp
  refine wp_region_order Ext [] [(0,0),(1,0),(2,0),(3,0),(4,1),(5,0),(6,0),(7,0),(8,0),(9,0),(10,0),(11,0),(12,0),(13,0),(14,0)] _ (by kernel_rfl) rfl Ext.refl Ext.trans (by kernel_rfl) (by simp only [pick, List.getElem?_toArray, List.getElem?_cons_zero, List.getElem?_cons_succ]; rfl) (fun c a d v w h => by cases d <;> exact h) ?_
  refine wpK_q (v := ?_) (a' := ?_) (by rfl) (fun w' hR => ?_) ?_ ?_
  rotate_left 2
  · go_simp; with_reducible rfl
  · simp only [Act.put, List.setIfInBounds_toArray, List.set_cons_zero, List.set_cons_succ]; rfl
  refine wpK_q (v := ?_) (a' := ?_) (by rfl) (fun w' hR => ?_) ?_ ?_
  rotate_left 2
  · go_simp; with_reducible rfl
  · simp only [Act.put, List.setIfInBounds_toArray, List.set_cons_zero, List.set_cons_succ]; rfl
  refine wpK_q (v := ?_) (a' := ?_) (by rfl) (fun w' hR => ?_) ?_ ?_
  rotate_left 2
  · go_simp; with_reducible rfl
  · simp only [Act.put, List.setIfInBounds_toArray, List.set_cons_zero, List.set_cons_succ]; rfl
  refine wpK_q (v := ?_) (a' := ?_) (by rfl) (fun w' hR => ?_) ?_ ?_
  rotate_left 2
  · go_simp; with_reducible rfl
  · simp only [Act.put, List.setIfInBounds_toArray, List.set_cons_zero, List.set_cons_succ]; rfl
  refine wpK_call Try.func31 (by kernel_rfl) rfl rfl (by rfl) #[.slice a0 l.length cap0, .int .u64 a1] (by simp only [List.map_toArray, List.map_cons, List.map_nil]; rfl) ?_
  refine (rput_any _ l a1 b1.1 (by omega) _ HS.out.drew.2.2.1 (by omega)).mono ?_
  rintro e w5 ⟨v7, rfl, ho5, hb5⟩
  refine ⟨_, rfl, fun _ => hb5, ?_⟩
  rw [HXX.out] at ho5
  replace k1 := fun w' h => k1 w' (Ext.trans _ _ _ hb5 h)
  replace k2 := fun w' h => k2 w' (Ext.trans _ _ _ hb5 h)
  replace k3 := fun w' h => k3 w' (Ext.trans _ _ _ hb5 h)
  have k4 : ∀ w', Ext w5 w' → (convert 23 9 v7).run Try.prog w' = .ok (.string (str X)) w' := fun w' h => run_str Try.underlying23 Try.underlying5 Try.underlying9 ((own_sees ho5).below h)
  refine wpK_q (v := ?_) (a' := ?_) (by rfl) (fun w' hR => ?_) ?_ ?_
  rotate_left 2
  · go_simp; with_reducible rfl
  · simp only [Act.put, List.setIfInBounds_toArray, List.set_cons_zero, List.set_cons_succ]; rfl
  refine wpK_q (v := ?_) (a' := ?_) (by rfl) (fun w' hR => ?_) ?_ ?_
  rotate_left 2
  · go_simp; with_reducible rfl
  · simp only [Act.put, List.setIfInBounds_toArray, List.set_cons_zero, List.set_cons_succ]; rfl
  refine wpK_q (v := ?_) (a' := ?_) (by rfl) (fun w' hR => ?_) ?_ ?_
  rotate_left 2
  · go_simp; with_reducible rfl
  · simp only [Act.put, List.setIfInBounds_toArray, List.set_cons_zero, List.set_cons_succ]; rfl
  refine wpK_q (v := ?_) (a' := ?_) (by rfl) (fun w' hR => ?_) ?_ ?_
  rotate_left 2
  · go_simp; with_reducible rfl
  · simp only [Act.put, List.setIfInBounds_toArray, List.set_cons_zero, List.set_cons_succ]; rfl
  refine wpK_q (v := ?_) (a' := ?_) (by rfl) (fun w' hR => ?_) ?_ ?_
  rotate_left 2
  · go_simp; with_reducible rfl
  · simp only [Act.put, List.setIfInBounds_toArray, List.set_cons_zero, List.set_cons_succ]; rfl
  refine wpK_q (v := ?_) (a' := ?_) (by rfl) (fun w' hR => ?_) ?_ ?_
  rotate_left 2
  · go_simp; with_reducible rfl
  · simp only [Act.put, List.setIfInBounds_toArray, List.set_cons_zero, List.set_cons_succ]; rfl
  refine wpK_q (v := ?_) (a' := ?_) (by rfl) (fun w' hR => ?_) ?_ ?_
  rotate_left 2
  · go_simp; with_reducible rfl
  · simp only [Act.put, List.setIfInBounds_toArray, List.set_cons_zero, List.set_cons_succ]; rfl
  refine wpK_q (v := ?_) (a' := ?_) (by rfl) (fun w' hR => ?_) ?_ ?_
  rotate_left 2
  · go_simp; with_reducible rfl
  · simp only [Act.put, List.setIfInBounds_toArray, List.set_cons_zero, List.set_cons_succ]; rfl
  refine wpK_q (v := ?_) (a' := ?_) (by rfl) (fun w' hR => ?_) ?_ ?_
  rotate_left 2
  · go_simp; with_reducible rfl
  · simp only [Act.put, List.setIfInBounds_toArray, List.set_cons_zero, List.set_cons_succ]; rfl
  refine wpK_q (v := ?_) (a' := ?_) (by rfl) (fun w' hR => ?_) ?_ ?_
  rotate_left 2
  · go_simp; with_reducible rfl
  · simp only [Act.put, List.setIfInBounds_toArray, List.set_cons_zero, List.set_cons_succ]; rfl
  refine wpK_done ?_
  have HS5 := hid (HS.out.drew.next hb5)
  have HO5 := hid (own_below (w := w4.drew) ho4.out hb5)
  obtain ⟨tk1e, tk2e, tk3e⟩ := tk_put l a1 b1.1 (by omega)
  rw [HXX.out] at tk1e tk2e tk3e
  have TK1 := hid tk1e
  clear k1 k2 k3 k4 hsz hcat ho5 hb5 HS ho4 tk1e
  have hXl : X.length ≤ 20000 := by rw [HLX.out]; omega
  have hX0 : 0 < X.length := by rw [HLX.out]; omega
  go_wp2_with fail
  refine (take_any _ X _ HS5.out.1 (by omega)).mono ?_
  rintro e w6 ⟨y, rfl, hy1, hy2, hb6⟩
  have HS6 := hid (HS5.out.next hb6)
  have HY := hid hy1
  have HYb := hid hy2
  have HO6 := hid (own_below HO5.out hb6)
  have hx4' : gx < w5.heap.size := by have := (own_lt HO5.out gx rfl).2; exact this
  have hx6 : gx < w6.heap.size := Nat.lt_of_lt_of_le hx4' hb6.size
  clear hy1 hy2 hb6 HS5 HO5
  go_wp2_with fail
  refine (rtake_any _ l _ HS6.out.2.2.1 (by omega)).mono ?_
  rintro e w7 ⟨z, rfl, hz1, hz2, hb7⟩
  have HS7 := hid (HS6.out.next hb7)
  have HY7 := hid (HY.out.below hb7)
  have HZ := hid hz1
  have HZb := hid hz2
  have HO7 := hid (own_below HO6.out hb7)
  have hx7 : gx < w7.heap.size := Nat.lt_of_lt_of_le hx6 hb7.size
  clear hz1 hz2 hb7 HS6 HO6 HY
  go_wp2_with fail
  refine (take_any _ l _ HS7.out.2.2.1 (by omega)).mono ?_
  rintro e w8 ⟨pp, rfl, hp1, hp2, hb8⟩
  have HS8 := hid (HS7.out.next hb8)
  have HY8 := hid (HY7.out.below hb8)
  have HZ8 := hid (HZ.out.below hb8)
  have HP := hid hp1
  have HPb := hid hp2
  have HO8 := hid (own_below HO7.out hb8)
  clear hp1 hp2 hb8 HS7 HO7 HY7 HZ
  go_wp2
  go_loopw [67] (fun i wr => ∃ (k : Nat) (L : List UInt8), k ≤ X.length ∧ i = .int .i64 k ∧ L.length = X.length ∧ Hid (wr.ownsRow w3.heap.size 5 1 (.slice (some ⟨gx, 0, none⟩) X.length cx) X.length (L.map B)) ∧ Hid (Sees wr y l) ∧ Hid (Sees wr z (tk1 l)) ∧ Hid (Sees wr pp (tk1 l)) ∧ Hid (Sees wr (.slice a0 l.length cap0) l) ∧ Hid (Below w.heap.size w wr)) (fun i _ => X.length - (intOf i).toNat)
  case atStart => exact ⟨0, X, Nat.zero_le _, rfl, rfl, HO8, hid (by rw [← TK1.out]; exact HY8.out), HZ8, HP, hid HS8.out.2.2.1, hid HS8.out.2.2.2⟩
  case round =>
    obtain ⟨k, L, hk, rfl, hL, hO, hY, hZ, hP, hV, hB⟩ := hrel
    by_cases hlt : k < X.length
    · have hcell : wr.cell? ⟨gx, k, none⟩ = some (.int .u8 ((L[k]'(by omega)).toNat : Int)) := own_cell hO.out (i := k) (u := B (L[k]'(by omega))) (by simp [show k < L.length by omega])
      have hfr := own_frozen hO.out k
      have hO' := hid (own_set hO.out hlt (B 0))
      go_wp2
      go_roundw
      case rel =>
        have hgx : w.heap.size ≤ gx := by have := hx3; have := HWS.out; omega
        have hB' : Below w.heap.size w (wr.setCell ⟨gx, k, none⟩ (B 0)) := hB.out.setCell (p := ⟨gx, k, none⟩) hgx _
        exact ⟨k + 1, L.set k 0, by omega, by go_num, by simp [hL], hid (own_len hO'.out rfl (by simp [List.map_set])), hid (hY.out.setCell (fun e => by have := HYb.out gx e; omega) _), hid (hZ.out.setCell (fun e => by have := HZb.out gx e; omega) _), hid (hP.out.setCell (fun e => by have := HPb.out gx e; omega) _), hid (HV0.out.below hB'), hid hB'⟩
      case measure => simp [intOf]; omega
    · have s1 := run_str (P := Try.prog) Try.underlying23 Try.underlying5 Try.underlying9 hY.out
      have s2 := run_str (P := Try.prog) Try.underlying23 Try.underlying5 Try.underlying9 hV.out
      have s3 := run_str (P := Try.prog) Try.underlying23 Try.underlying5 Try.underlying9 hZ.out
      have s4 := run_str (P := Try.prog) Try.underlying23 Try.underlying5 Try.underlying9 hP.out
      go_wp2
      go_ret
      exact ⟨rfl, hB.out⟩

/-! ### The row -/
set_option maxRecDepth 100000 in
theorem lifted (os : Os) (started : os.Started) (H : Type) (enc : TypeId × Value → H) :
    ReturnsInHanded {} Try.checked os 8 .any (Rows.sealBackSpec.pre6 enc Try.prog Try.f8 Rows.sealBackRow.domain false) (Rows.sealBackSpec.post enc Try.prog Try.f8 false true false false) := by
  refine returnsInHanded_of_change (C := Try.checked) own started (by kernel_rfl) Try.func8
    (ChangeSpec.witness6 (enc := enc) (C := Try.checked) false ⟨#[], #[.slice none 0 0, .int .u64 0], []⟩ 8 (by kernel_rfl) (by kernel_rfl) (by kernel_rfl) (by kernel_rfl)) ?_
  intro W base args ds gs before hval0 hW hcnd _
  have hval : ∀ (j : Nat) t v, Try.f8.params[j]? = some t → args[j]? = some v → Value.okWide Try.prog W .any base t v := hval0
  have hW' := hW
  obtain ⟨p, q, hA0, hV, rfl, hfz, hnd⟩ := hW
  have hA : DataW.TrodAll enc Try.prog W 0 (fun _ => true) true Try.f8.params.toList args.toList ds p := hA0
  rw [Try.params8] at hA hval
  obtain ⟨v0, vs0, d0, ds0, p0, q0, hargs, rfl, rfl, h0, r0⟩ := trodAll_cons hA
  obtain ⟨v1, vs1, d1, ds1, p1, q1, rfl, rfl, rfl, h1, r1⟩ := trodAll_cons r0
  obtain ⟨rfl, rfl, rfl⟩ := trodAll_nil r1
  obtain rfl : args = #[v0, v1] := by cases args; simp_all
  obtain ⟨rfl, rfl⟩ := trodVars_none hV
  obtain ⟨a0, len0, cap0, rfl⟩ := okWide_slice Try.underlying23 (hval 0 23 v0 rfl rfl)
  have k0 := h0
  have lt0 : ∀ x ∈ p0, x.block < W.heap.size := by obtain ⟨m, hm⟩ := k0; exact DataW.trod_lt m _ _ _ hm
  obtain ⟨z0, w0⟩ : ∃ zs, IsRow .u8 W a0 len0 cap0 zs := by
    obtain ⟨fuel, hf⟩ := h0
    rcases open_ints Try.underlying23 Try.underlying5 (by kernel_rfl) hf with ⟨hcs, _⟩ | ⟨x, l, c, zs, hcs, _, hl, hm, hz, _, hcell, hwz⟩
    · simp [Value.cells] at hcs
      obtain ⟨rfl, rfl, rfl⟩ := hcs
      exact ⟨[], .inl ⟨rfl, rfl, rfl, rfl⟩⟩
    · simp [Value.cells] at hcs
      obtain ⟨rfl, rfl, rfl⟩ := hcs
      exact ⟨zs, .inr ⟨_, rfl, hl, hm, by simpa using hz, hcell, hwz⟩⟩
  obtain ⟨a1, rfl, rfl, rfl, w1⟩ := open_int Try.underlying22 (hval 1 22 v1 rfl rfl) h1
  clear hA0 hval0
  refine (walk a0 len0 cap0 z0 a1 W w0 w1).mono fun e W' ⟨he, bel⟩ => ?_
  subst he
  exact ⟨_, rfl, _, _, _, [], _, [], hW', trodAll_mk1 (shut_bool Try.underlying4 _), (trodAll_cons_mk (Below.trod laidOut (by kernel_rfl) (of_decide_eq_true (by kernel_rfl)) k0 bel lt0) (trodAll_cons_mk (shut_int Try.underlying22 w1) trodAll_mk0)), rfl, bel.frame _, fun h => by cases h⟩

theorem over : Rows.sealBackRow.holds Try.pinned (OpenSpec.ofChange Rows.sealBackSpec) :=
  OpenClaim.holds_of_wide 8 Try.f8 rfl rfl rfl rfl rfl rfl rfl ⟨rfl, rfl, rfl, rfl, rfl⟩ rfl rfl rfl rfl rfl (by kernel_rfl) Try.func8 (by kernel_rfl)
    (of_decide_eq_true (by kernel_rfl)) (by unfold Func.isWrapper; first | (rw [if_pos (by decide +kernel)]; kernel_rfl) | (rw [if_neg (by decide +kernel)]; exact ⟨rfl, rfl⟩))
    (fun os started H enc _ => lifted os started H enc)

/-- The statement. -/
theorem proved : Rows.SealBackSaid := over
#print axioms proved
end Go.Proofs.Ytoaeapnkefjpaaa.sealBack
namespace Go.Proofs.Ytoaeapnkefjpaaa
theorem sealBack_holds : Rows.SealBackSaid := sealBack.proved
end Go.Proofs.Ytoaeapnkefjpaaa
