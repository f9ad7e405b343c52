/-
  TapeTwice: the walk. Conditions: none beyond the given row's.
-/
import Derived.Test.YtoaeapnkefjpaaaTapeW4
import Derived.Test.YtoaeapnkefjpaaaTapeL3
namespace Go.Proofs.Ytoaeapnkefjpaaa
open Go.RowKit
set_option linter.unusedVariables false
set_option linter.unusedSimpArgs false
/-- The first k pages have been gone through: those outside bear the mark. -/
structure TwD (l m : Nat) (M : List UInt8) (k : Nat) (D : DS) : Prop where
  live : TS.Live D
  len : D.safe.length = l + m + 3
  waits : D.waits.length ≤ k
  look : ∀ q, q < l + m + 3 → DS.look D.safe D.waits q = if q < k ∧ (q < l ∨ l + m ≤ q) then M else fullPage 0
def TwA (w wx : World) (p b l m : Nat) (M : List UInt8) (k : Nat) : Prop := ∃ own D, St w own p D wx ∧ ¬ own b ∧ wx.ownsRow b 5 1 (.slice (some ⟨b, 0, none⟩) 256 256) 256 (M.map B) ∧ TwD l m M k D
theorem TwD.skip {l m k : Nat} {M : List UInt8} {D : DS} (h : TwD l m M k D) (h1 : ¬ (k < l ∨ l + m ≤ k)) : TwD l m M (k + 1) D := by
  refine ⟨h.live, h.len, by have := h.waits; omega, fun q hq => ?_⟩
  rw [h.look q hq]
  by_cases e : q < k ∧ (q < l ∨ l + m ≤ q)
  · rw [if_pos e, if_pos (by omega)]
  · rw [if_neg e, if_neg (by omega)]
theorem TwD.mark {l m k : Nat} {M : List UInt8} {D : DS} (h : TwD l m M k D) (h1 : k < l ∨ l + m ≤ k) (hk : k < l + m + 3) (hM : M.length = 256) : (D.write (k : Int) M).1 = 0 ∧ TwD l m M (k + 1) (D.write (k : Int) M).2 := by
  obtain ⟨a1, a2, a3, a4⟩ := TS.write_live h.live (a := k) (by rw [h.len]; exact hk) hM
  refine ⟨a1, a2, by rw [a3, h.len], Nat.le_trans (DS.write_waits' D _ _) (Nat.add_le_add_right h.waits 1), fun q hq => ?_⟩
  rw [a4 q]
  by_cases e : k = q
  · subst e; rw [if_pos rfl, if_pos (by omega)]
  · rw [if_neg e, h.look q hq]
    by_cases e2 : q < k ∧ (q < l ∨ l + m ≤ q)
    · rw [if_pos e2, if_pos (by omega)]
    · rw [if_neg e2, if_neg (by omega)]
theorem TwA.skip {w wx : World} {p b l m k : Nat} {M : List UInt8} (h : TwA w wx p b l m M k) (h1 : ¬ (k < l ∨ l + m ≤ k)) : TwA w wx p b l m M (k + 1) := by
  obtain ⟨own, D, h2, h3, h4, h5⟩ := h
  exact ⟨own, D, h2, h3, h4, h5.skip h1⟩
theorem TwA.mark {w wx : World} {p b l m k : Nat} {M : List UInt8} (h : TwA w wx p b l m M k) (h1 : k < l ∨ l + m ≤ k) (hk : k < l + m + 3) (hM : M.length = 256) (hk2 : l + m + 3 ≤ 4096) :
    Calls Try.prog 50 #[.pointer (some ⟨p, 0, none⟩), I k, .slice (some ⟨b, 0, none⟩) 256 256] wx fun e w' => e = .returned (I 0) ∧ TwA w w' p b l m M (k + 1) := by
  obtain ⟨own, D, h2, h3, h4, h5⟩ := h
  obtain ⟨k1, k2⟩ := h5.mark h1 hk hM
  refine (st_write h2 (k : Int) (by omega) (v := .slice (some ⟨b, 0, none⟩) 256 256) (l := M) ⟨own_sees' h4 hM, fun j hj ho => h3 (by have e : b = j := Option.some.inj hj; rw [e]; exact ho)⟩ (by have := h5.waits; omega)).mono fun e w' hx => ?_
  obtain ⟨x1, own', x2, x3, x4⟩ := hx
  rw [k1] at x1
  have hbl := (own_lt h4 b rfl).2
  exact ⟨x1, own', _, x2, fun ho => (x3 b ho).elim h3 (fun h => by omega), own_mod h4 (fun j hj => x4.block j (own_lt h4 j hj).2 (fun ho => h3 (by have e : b = j := Option.some.inj hj; rw [e]; exact ho))), k2⟩
/-- Between two records: the tape, the list gathered, the page of marks, the pages outside. -/
structure TwB (w wx : World) (p t b l m : Nat) (M : List UInt8) (own : Nat → Prop) (T : TS) (D : DS) (v : Value) (us : List Value) (recs : List (List UInt8)) (i left : Nat) : Prop where
  tst : TSt w own p t T D wx
  holds : TS.Holds D T recs
  lo : T.lo = l
  hi : T.hi = l + m
  left : T.pos + left = 256 * m
  waits : D.waits.length ≤ 100 + 400 * i
  len : D.safe.length = l + m + 3
  look : ∀ q, q < l + m + 3 → q < l ∨ l + m ≤ q → DS.look D.safe D.waits q = M
  mark : wx.ownsRow b 5 1 (.slice (some ⟨b, 0, none⟩) 256 256) 256 (M.map B)
  nb : ¬ own b ∧ b ≠ t
  wants : WantsIn w wx (t + 1) v us recs
  nv : ∀ k, v.ownBlock = some k → ¬ own k ∧ k ≠ b
set_option maxRecDepth 100000 in
theorem TwB.append {w wx : World} {p t b l m : Nat} {M : List UInt8} {own : Nat → Prop} {T : TS} {D : DS} {v : Value} {us : List Value} {recs : List (List UInt8)} {i left : Nat} (h : TwB w wx p t b l m M own T D v us recs i left) {u : Value} {r : List UInt8} (hu : Sees w u r) (hr : r.length ≤ 8192) (hs : 12 + r.length ≤ left) (hi : i ≤ 1000) :
    Calls Try.prog 66 #[.pointer (some ⟨t, 0, none⟩), u] wx fun e w' => e = .returned (I 0) ∧ ∃ own' T' D', TSt w own' p t T' D' w' ∧ TS.Holds D' T' (recs ++ [r]) ∧ T'.lo = l ∧ T'.hi = l + m ∧ T'.pos + (left - (12 + r.length)) = 256 * m ∧ D'.waits.length ≤ 100 + 400 * (i + 1) ∧ D'.safe.length = l + m + 3 ∧
      (∀ q, q < l + m + 3 → q < l ∨ l + m ≤ q → DS.look D'.safe D'.waits q = M) ∧ w'.ownsRow b 5 1 (.slice (some ⟨b, 0, none⟩) 256 256) 256 (M.map B) ∧ (¬ own' b ∧ b ≠ t) ∧ WantsIn w w' (t + 1) v us recs ∧ (∀ k, v.ownBlock = some k → ¬ own' k ∧ k ≠ b) := by
  have hsz : T.size = (T.hi - T.lo) * 256 := rfl
  have hlo := h.lo
  have hhi := h.hi
  have hle := h.left
  have hfit : T.pos + 12 + r.length ≤ T.size := by rw [hsz, hlo, hhi]; omega
  obtain ⟨h1, h2, h3, h4, h5⟩ := h.holds.append (r := r) (by omega) hfit
  have hout := h.holds.out (r := r) (by omega) hfit
  have hwt := TS.append_waits D T r
  have hln := TS.append_len D T r
  refine (tst_append h.tst (hu.below h.tst.drum.below) (by have := h.waits; omega)).mono fun e w' hx => ?_
  obtain ⟨k1, own', k2, k3, k4⟩ := hx
  rw [h1] at k1
  have hb := (own_lt h.mark b rfl).2
  have hkeep : ∀ k, k < wx.heap.size → ¬ own k → k ≠ t → w'.heap[k]? = wx.heap[k]? := fun k hk h1 h2 => k4.block k hk (fun ho => ho.elim h1 h2)
  have hno : ∀ k, k < wx.heap.size → ¬ own k → ¬ own' k := fun k hk h1 ho => (k3 k ho).elim h1 (fun h => by omega)
  refine ⟨k1, own', _, _, k2, h2, h3.trans hlo, h4.trans hhi, by rw [h5]; omega, by have := h.waits; omega, hln.trans h.len, fun q hq ho => ?_, ?_, ⟨hno b hb h.nb.1, h.nb.2⟩, ?_, fun k hk => ⟨hno k (own_lt h.wants.row k hk).2 (h.nv k hk).1, (h.nv k hk).2⟩⟩
  · rw [hout q (by rw [h.len]; exact hq) (by rw [hlo, hhi]; exact ho)]
    exact h.look q hq ho
  · refine own_mod h.mark (fun k hk => ?_)
    have e : b = k := Option.some.inj hk
    subst e
    exact hkeep _ hb h.nb.1 h.nb.2
  · refine h.wants.keep (fun k hk => hkeep k (own_lt h.wants.row k hk).2 (h.nv k hk).1 ?_)
    have := (own_lt h.wants.row k hk).1
    omega
theorem TwB.full {w wx : World} {p t b l m : Nat} {M : List UInt8} {own : Nat → Prop} {T : TS} {D : DS} {v : Value} {us : List Value} {recs : List (List UInt8)} {i left : Nat} (h : TwB w wx p t b l m M own T D v us recs i left) {u : Value} {r : List UInt8} (hu : Sees w u r) (hr : r.length ≤ 8192) (hs : left < 12 + r.length) (hi : i ≤ 1000) :
    Calls Try.prog 66 #[.pointer (some ⟨t, 0, none⟩), u] wx fun e w' => e = .returned (I 22) ∧ ∃ own', TSt w own' p t T D w' ∧ w'.ownsRow b 5 1 (.slice (some ⟨b, 0, none⟩) 256 256) 256 (M.map B) ∧ (¬ own' b ∧ b ≠ t) ∧ WantsIn w w' (t + 1) v us recs ∧ (∀ k, v.ownBlock = some k → ¬ own' k ∧ k ≠ b) := by
  have hsz : T.size = (T.hi - T.lo) * 256 := rfl
  have hlo := h.lo
  have hhi := h.hi
  have hle := h.left
  have hf := h.holds.full (r := r) (by omega) (by rw [hsz, hlo, hhi]; omega)
  have ha := tst_append h.tst (hu.below h.tst.drum.below) (by have := h.waits; omega)
  rw [hf] at ha
  refine ha.mono fun e w' hx => ?_
  obtain ⟨k1, own', k2, k3, k4⟩ := hx
  have hb := (own_lt h.mark b rfl).2
  have hkeep : ∀ k, k < wx.heap.size → ¬ own k → k ≠ t → w'.heap[k]? = wx.heap[k]? := fun k hk h1 h2 => k4.block k hk (fun ho => ho.elim h1 h2)
  have hno : ∀ k, k < wx.heap.size → ¬ own k → ¬ own' k := fun k hk h1 ho => (k3 k ho).elim h1 (fun h => by omega)
  refine ⟨k1, own', k2, ?_, ⟨hno b hb h.nb.1, h.nb.2⟩, ?_, fun k hk => ⟨hno k (own_lt h.wants.row k hk).2 (h.nv k hk).1, (h.nv k hk).2⟩⟩
  · refine own_mod h.mark (fun k hk => ?_)
    have e : b = k := Option.some.inj hk
    subst e
    exact hkeep _ hb h.nb.1 h.nb.2
  · refine h.wants.keep (fun k hk => hkeep k (own_lt h.wants.row k hk).2 (h.nv k hk).1 ?_)
    have := (own_lt h.wants.row k hk).1
    omega
/-- A record taken into the list. -/
theorem TwB.push {w wx w1 : World} {p t b : Nat} {M : List UInt8} {own : Nat → Prop} {T : TS} {D : DS} {v v' : Value} {us : List Value} {recs : List (List UInt8)} {r : List UInt8} {u : Value} {o : Obj}
    (ht : TSt w own p t T D wx) (hm : wx.ownsRow b 5 1 (.slice (some ⟨b, 0, none⟩) 256 256) 256 (M.map B)) (hnb : ¬ own b ∧ b ≠ t) (hw : WantsIn w wx (t + 1) v us recs) (hnv : ∀ k, v.ownBlock = some k → ¬ own k ∧ k ≠ b) (hu : Sees w u r)
    (hown : w1.ownsRow (t + 1) 23 1 v' (recs.length + 1) (us ++ [u])) (hgrow : (wx.alloc o).grownBy w1 v.ownBlock) (hat : v'.ownBlock = v.ownBlock ∨ v'.ownBlock = some (wx.heap.size + 1)) :
    TSt w own p t T D w1 ∧ w1.ownsRow b 5 1 (.slice (some ⟨b, 0, none⟩) 256 256) 256 (M.map B) ∧ WantsIn w w1 (t + 1) v' (us ++ [u]) (recs ++ [r]) ∧ (∀ k, v'.ownBlock = some k → ¬ own k ∧ k ≠ b) := by
  have hz : (wx.alloc o).heap.size = wx.heap.size + 1 := by simp
  have hkeep : ∀ k, k < wx.heap.size → v.ownBlock ≠ some k → w1.heap[k]? = wx.heap[k]? := fun k hk h1 => (hgrow.block k (by omega) (fun e => h1 e.symm)).trans (Below.heap_alloc wx o k hk)
  have hlt := ht.drum.at'.lt
  have hbz := (own_lt hm b rfl).2
  have htz := ht.tape.lt
  have hv1 : ∀ k, v.ownBlock = some k → t + 1 ≤ k := fun k hk => (own_lt hw.row k hk).1
  have hww := ht.drum.below.size
  have htf := ht.tf
  refine ⟨⟨⟨ht.drum.at'.keep (fun k hk => hkeep k (hlt k hk) (fun e => (hnv k e).1 hk)) (by have := hgrow.size; omega), ht.drum.fresh, ht.drum.below.trans ⟨hgrow.os, hgrow.tape, hgrow.output, by have := hgrow.size; omega, fun k hk => hkeep k (by omega) (fun e => by have := hv1 k e; omega)⟩⟩, ht.tape.keep (hkeep t htz (fun e => by have := hv1 t e; omega)), ht.nt, ht.tf⟩, ?_, hw.push hu hown, fun k hk => ?_⟩
  · refine own_mod hm (fun k hk => ?_)
    have e : b = k := Option.some.inj hk
    subst e
    exact hkeep b hbz (fun e => (hnv b e).2 rfl)
  · rcases hat with h | h
    · exact hnv k (by rw [← h]; exact hk)
    · rw [h] at hk
      have e := Option.some.inj hk
      exact ⟨fun ho => by have := hlt k ho; omega, by omega⟩
set_option maxRecDepth 100000 in
theorem or_byte (j : Nat) (hj : j < 256) : ∃ c : UInt8, bits BinOp.or IntKind.u8 (j : Int) 1 = (c.toNat : Int) := by
  have h : ((List.range 256).all fun j => decide (0 ≤ bits BinOp.or IntKind.u8 (j : Int) 1 ∧ bits BinOp.or IntKind.u8 (j : Int) 1 < 256)) = true := by kernel_rfl
  have h1 := of_decide_eq_true (List.all_eq_true.1 h j (List.mem_range.2 hj))
  generalize bits BinOp.or IntKind.u8 (j : Int) 1 = z at *
  exact ⟨UInt8.ofNat z.toNat, by rw [UInt8.toNat_ofNat']; omega⟩
set_option maxRecDepth 100000 in
set_option maxHeartbeats 3200000 in
theorem twice_walk (w : World) (lo n : Int) (hlo : -9223372036854775808 ≤ lo ∧ lo ≤ 9223372036854775807) (hn : -9223372036854775808 ≤ n ∧ n ≤ 9223372036854775807) (a0 : Option Addr) (cap0 : Nat) (L : List (List UInt8)) (h0 : Shows w (.slice a0 L.length cap0) L) :
    Calls Try.prog 15 #[I lo, I n, .slice a0 L.length cap0] w fun e w' => e = .returned (.bool true) ∧ Below w.heap.size w w' := by
  have H0 := hid h0
  obtain ⟨_, _, _, m0⟩ := h0.len
  unfold maxLen at m0
  clear h0
  have hcases : (lo < 0 ∨ 20 < lo ∨ n < 1 ∨ 20 < n ∨ 40 < L.length) ∨ (0 ≤ lo ∧ lo ≤ 20 ∧ 1 ≤ n ∧ n ≤ 20 ∧ L.length ≤ 40) := by omega
  rcases hcases with c | ⟨c1, c2, c3, c4, c5⟩
  · have e1 : (decide (lo < 0) = true) ∨ (decide (lo < 0) = false ∧ decide (20 < lo) = true) ∨ (decide (lo < 0) = false ∧ decide (20 < lo) = false ∧ decide (n < 1) = true) ∨ (decide (lo < 0) = false ∧ decide (20 < lo) = false ∧ decide (n < 1) = false ∧ decide (20 < n) = true) ∨ (decide (lo < 0) = false ∧ decide (20 < lo) = false ∧ decide (n < 1) = false ∧ decide (20 < n) = false ∧ decide ((40 : Int) < (L.length : Int)) = true) := by
      simp only [decide_eq_true_eq, decide_eq_false_iff_not]; omega
    clear c
    rcases e1 with e1 | ⟨e1, e2⟩ | ⟨e1, e2, e3⟩ | ⟨e1, e2, e3, e4⟩ | ⟨e1, e2, e3, e4, e5⟩
    all_goals
      go_enter Try.func15, Try.ntmps15
      go_wp2_with (go_at_call 64; refine (wakes4_any _).mono ?_; rintro e w1 ⟨rfl, hb⟩; have HB := hid hb; clear hb)
      go_ret
      exact ⟨rfl, HB.out⟩
  obtain ⟨l, rfl⟩ : ∃ l : Nat, lo = (l : Int) := ⟨lo.toNat, by omega⟩
  obtain ⟨m, rfl⟩ : ∃ m : Nat, n = (m : Int) := ⟨n.toNat, by omega⟩
  have e1 : decide ((l : Int) < 0) = false := decide_eq_false (by omega)
  have e2 : decide ((20 : Int) < (l : Int)) = false := decide_eq_false (by omega)
  have e3 : decide ((m : Int) < 1) = false := decide_eq_false (by omega)
  have e4 : decide ((20 : Int) < (m : Int)) = false := decide_eq_false (by omega)
  have e5 : decide ((40 : Int) < (L.length : Int)) = false := decide_eq_false (by omega)
  have hw1 : IntKind.i64.wrap ((l : Int) + (m : Int)) = (l : Int) + (m : Int) := IntWalk.i64_in _ (by omega)
  have hw2 : IntKind.i64.wrap ((l : Int) + (m : Int) + 3) = (l : Int) + (m : Int) + 3 := IntWalk.i64_in _ (by omega)
  have hcl : DS.clamp ((l : Int) + (m : Int) + 3) = l + m + 3 := by unfold DS.clamp; omega
  have HCL := hid hcl
  have hmk := fun w => run_page0 w 23 rfl
  clear hcl
  go_enter Try.func15, Try.ntmps15
  go_wp2_with (first | (go_at_call 64; refine (wakes4_any _).mono ?_; rintro e w1 ⟨rfl, hb⟩; have HB := hid hb; clear hb) | (go_at_call 36; refine (st_new _ ((l : Int) + (m : Int) + 3) (by omega)).mono ?_; rw [HCL.out]; rintro e w2 ⟨p, own, rfl, h⟩; have HS := hid (h.back HB.out); clear h HB))
  clear e1 e2 e3 e4 e5
  have HM0 := hid (own_page0 w2)
  have HB0 : Hid (Below w2.heap.size w2 (w2.alloc (.cells (page0.map B).toArray 5))) := hid ((Below.refl _ _).alloc (Nat.le_refl _) _)
  go_loopw [56] (fun i wr => ∃ (j : Nat) (M : List UInt8), j ≤ 256 ∧ i = I j ∧ M.length = 256 ∧ Hid (wr.ownsRow w2.heap.size 5 1 (.slice (some ⟨w2.heap.size, 0, none⟩) 256 256) 256 (M.map B)) ∧ Hid (Below w2.heap.size w2 wr)) (fun i _ => 256 - (intOf i).toNat)
  case atStart => exact ⟨0, page0, by omega, rfl, page0_len, HM0, HB0⟩
  case round =>
    clear HM0 HB0
    obtain ⟨j, M, hj, rfl, hM, HO, HB⟩ := hrel
    by_cases hlt : j < 256
    · have hcell := own_cell HO.out (i := j) (u := B (M[j]'(by omega))) (by rw [List.getElem?_map, List.getElem?_eq_getElem (by omega)]; rfl)
      have hfr := own_frozen HO.out j
      obtain ⟨c, hc⟩ := or_byte j hlt
      have HC := hid hc
      have HCE := hid hcell
      have HFR := hid hfr
      clear hc
      go_wp2
      rw [HC.out]
      go_roundw
      case rel =>
        refine ⟨j + 1, M.set j c, by omega, by go_num, by rw [List.length_set]; exact hM, hid ?_, hid (HB.out.setCell (p := ⟨w2.heap.size, j, none⟩) (Nat.le_refl _) _)⟩
        have := own_set HO.out hlt (B c)
        rwa [← List.map_set] at this
      case measure => simp [intOf]; omega
    · obtain rfl : j = 256 := by omega
      have hst := HS.out.on HB.out
      have HS2 := hid hst
      have HW2 := hid HS.out.at'.lt
      clear HS hst
      go_wp2
      have hA0 : TwA w wr p w2.heap.size l m M 0 := ⟨own, _, HS2.out, fun ho => by have := HW2.out w2.heap.size ho; omega, HO.out, ⟨⟨HS2.out.at'.ok, rfl, rfl⟩, by show (List.replicate (l + m + 3) page0).length = _; rw [List.length_replicate], Nat.le_refl _, fun q hq => by rw [if_neg (by omega)]; exact DS.look_new _ q hq⟩⟩
      have HA0 := hid hA0
      have HMM := hid hM
      clear hA0 HS2 HO HB HW2 hM
      go_loopw [10] (fun i wx => ∃ k : Nat, k ≤ l + m + 3 ∧ i = I k ∧ Hid (TwA w wx p w2.heap.size l m M k)) (fun i _ => l + m + 3 - (intOf i).toNat)
      case atStart => exact ⟨0, by omega, rfl, HA0⟩
      case round =>
        clear HA0
        obtain ⟨k, hk, rfl, HA⟩ := hrel
        have hkc : k = l + m + 3 ∨ (k < l ∧ k < l + m + 3) ∨ (¬ k < l ∧ k < l + m) ∨ (¬ k < l ∧ ¬ k < l + m ∧ k < l + m + 3) := by omega
        rcases hkc with hkc | ⟨d1, d2⟩ | ⟨d1, d2⟩ | ⟨d1, d2, d3⟩
        rotate_left
        · have f1 : decide ((k : Int) < (l : Int) + (m : Int) + 3) = true := decide_eq_true (by omega)
          have f2 : decide ((k : Int) < (l : Int)) = true := decide_eq_true (by omega)
          have HAM := hid (HA.out.mark (.inl d1) d2 HMM.out (by omega))
          clear HA
          go_wp2_with (go_at_call 50; refine HAM.out.mono ?_; rintro e w4 ⟨rfl, ha⟩; have HA2 := hid ha; clear ha)
          refine ⟨⟨_, _, _, _, _, _, _, _, _, _, _, _, _, _, _, _, _, _, _, _, _, _, _, _, _, _, _, ⟨k + 1, by omega, by go_num, HA2⟩, rfl⟩, ?_⟩
          simp [intOf]
          omega
        · have f1 : decide ((k : Int) < (l : Int) + (m : Int) + 3) = true := decide_eq_true (by omega)
          have f2 : decide ((k : Int) < (l : Int)) = false := decide_eq_false (by omega)
          have f3 : decide ((l : Int) + (m : Int) ≤ (k : Int)) = false := decide_eq_false (by omega)
          have HA2 := hid (HA.out.skip (by omega))
          clear HA
          go_wp2
          go_roundw
          case rel => exact ⟨k + 1, by omega, by go_num, HA2⟩
          case measure => simp [intOf]; omega
        · have f1 : decide ((k : Int) < (l : Int) + (m : Int) + 3) = true := decide_eq_true (by omega)
          have f2 : decide ((k : Int) < (l : Int)) = false := decide_eq_false (by omega)
          have f3 : decide ((l : Int) + (m : Int) ≤ (k : Int)) = true := decide_eq_true (by omega)
          have HAM := hid (HA.out.mark (.inr (by omega)) d3 HMM.out (by omega))
          clear HA
          go_wp2_with (go_at_call 50; refine HAM.out.mono ?_; rintro e w4 ⟨rfl, ha⟩; have HA2 := hid ha; clear ha)
          refine ⟨⟨_, _, _, _, _, _, _, _, _, _, _, _, _, _, _, _, _, _, _, _, _, _, _, _, _, _, _, ⟨k + 1, by omega, by go_num, HA2⟩, rfl⟩, ?_⟩
          simp [intOf]
          omega
        · have f1 : decide ((k : Int) < (l : Int) + (m : Int) + 3) = false := decide_eq_false (by omega)
          go_wp2_with fail
          subst hkc
          obtain ⟨ow, D, hst, hnb, hrow, htd⟩ := HA.out
          have hon : TS.On D l (l + m) [] := TS.On.start htd.live (by omega) (by rw [htd.len]; omega) (by rw [htd.look l (by omega), if_neg (by omega)]; rfl)
          have hop := tst_open_on hst hon
          rw [Int.natCast_add] at hop
          refine hop.mono ?_
          rintro e w5 ⟨t, v, rfl, ht, hlt, hrc, hb⟩
          obtain ⟨ao, co, rfl⟩ := hrc.form
          have hbz := (own_lt hrow w2.heap.size rfl).2
          have HTB : Hid (TwB w w5 p t w2.heap.size l m M ow ⟨l, l + m, (TS.encs 0 []).length, ([] : List (List UInt8)).length, 0⟩ D (.slice none 0 0) [] [] 0 (256 * m)) := hid ⟨ht, hon.holds, rfl, rfl, by simp [TS.encs], by have := htd.waits; omega, htd.len, fun q hq ho => by rw [htd.look q hq, if_pos ⟨hq, ho⟩], own_below hrow hb, ⟨hnb, by omega⟩, WantsIn.nil _ _ _, fun k hk => by cases hk⟩
          clear hst hnb hrow htd hon hop ht hlt hrc hb HA f1
          have hw5 : IntKind.i64.wrap (256 * (m : Int)) = 256 * (m : Int) := IntWalk.i64_in _ (by omega)
          rw [List.length_nil]
          go_wp2
          clear hw5
          go_loopw [14, 15, 107] (fun v lf i wr => ∃ (k left : Nat) (own : Nat → Prop) (T : TS) (D : DS) (us : List Value) (recs : List (List UInt8)), k ≤ L.length ∧ i = I k ∧ lf = I left ∧ left ≤ 5120 ∧ Hid (TwB w wr p t w2.heap.size l m M own T D v us recs k left)) (fun _ _ i _ => L.length - (intOf i).toNat)
          case atStart => exact ⟨0, 256 * m, _, _, _, _, _, by omega, rfl, by simp, by omega, HTB⟩
          case round =>
            clear HTB
            obtain ⟨k, left, own, T, D, us, recs, hk, rfl, rfl, hleft, HT⟩ := hrel
            by_cases hlt : k < L.length
            · obtain ⟨r, hr⟩ : ∃ r, L[k]? = some r := ⟨_, List.getElem?_eq_getElem hlt⟩
              obtain ⟨g, off, u, hga, hc, hs⟩ := H0.out.at hr
              have hbw := HT.out.tst.drum.below
              have hc' := (World.cell?_of_block (w := w) (a := ⟨g, off + k, none⟩) (hbw.block g (cell_lt hc))).trans hc
              have hs' := hs
              obtain ⟨au, cu, rfl, hul⟩ := hs'.form0
              have HBW := hid hbw
              have HSU := hid hs
              by_cases h6 : 8192 < r.length
              · have h6' : decide ((8192 : Int) < (r.length : Int)) = true := decide_eq_true (by omega)
                subst hga
                clear hs' hbw hc hs
                go_wp2
                go_ret
                exact ⟨rfl, HBW.out⟩
              · have h6' : decide ((8192 : Int) < (r.length : Int)) = false := decide_eq_false (by omega)
                have hops := ops_any wr p own D HT.out.tst.drum.at'
                have HOPS := hid hops
                obtain ⟨av, cv, rfl⟩ := own_form HT.out.wants.row
                by_cases hf : 12 + r.length ≤ left
                · have hap := HT.out.append HSU.out (by omega) hf (by omega)
                  have HAP := hid hap
                  have f1 : decide ((12 : Int) + (r.length : Int) ≤ (left : Int)) = true := decide_eq_true (by omega)
                  subst hga
                  clear hs' hbw hc hs hap hops
                  have hrl : recs.length ≤ 5120 := by
                    have h1 := HT.out.holds.count
                    have h2 := HT.out.holds.ok.count
                    have h3 := HT.out.left
                    omega
                  go_upto_region 32 with (first | (go_at_call 59; refine HOPS.out.mono ?_; rintro e w6 ⟨rfl, rfl⟩; clear HOPS) | (go_at_call 66; refine HAP.out.mono ?_; rintro e w7 ⟨rfl, own', T', D', x1, x2, x3, x4, x5, x6, x7, x8, x9, x10, x11, x12⟩; have X := hid (And.intro x1 (And.intro x2 (And.intro x3 (And.intro x4 (And.intro x5 (And.intro x6 (And.intro x7 (And.intro x8 (And.intro x9 (And.intro x10 (And.intro x11 x12))))))))))); clear x1 x2 x3 x4 x5 x6 x7 x8 x9 x10 x11 x12))
                  obtain ⟨x1, x2, x3, x4, x5, x6, x7, x8, x9, x10, x11, x12⟩ := X.out
                  have htw7 := x1.tape.lt
                  go_wp2_with (at_builtin; refine wpList_app rfl (.tmp 143) (.tmp 145) 45 rfl (t + 1) 23 (.slice none 0 0) 1 24 Try.underlying45 info23t rfl (by decide) recs.length us 1 [.slice au r.length cu] (x11.row.alloc _) (Src.new w7 1 23 [_] rfl (fun x hx => by obtain rfl := List.mem_singleton.1 hx; rfl)) ?h63 ?hb ?hbase ?_)
                  case h63 => unfold maxLen; omega
                  case hb => omega
                  case hbase => simp; omega
                  intro v' w8 hown hgrow hat
                  obtain ⟨y1, y2, y3, y4⟩ := TwB.push x1 x9 x10 x11 x12 HSU.out hown hgrow hat
                  have HNX : Hid (TwB w w8 p t w2.heap.size l m M own' T' D' v' (us ++ [.slice au r.length cu]) (recs ++ [r]) (k + 1) (left - (12 + r.length))) := hid ⟨y1, x2, x3, x4, x5, x6, x7, x8, y2, x10, y3, y4⟩
                  obtain ⟨av', cv', rfl⟩ := own_form hown
                  have hw9 : IntKind.i64.wrap ((left : Int) - (12 + (r.length : Int))) = (left : Int) - (12 + (r.length : Int)) := IntWalk.i64_in _ (by omega)
                  clear x1 x2 x3 x4 x5 x6 x7 x8 x9 x10 x11 x12 X hown hgrow hat y1 y2 y3 y4 HAP HT HSU htw7
                  go_wp2
                  go_roundw
                  case rel =>
                    refine ⟨k + 1, left - (12 + r.length), own', T', D', _, _, by omega, by go_num, ?_, by omega, HNX⟩
                    show Value.int .i64 _ = Value.int .i64 _
                    congr 1
                    omega
                  case measure => simp [intOf]; omega
                · have hfu := HT.out.full HSU.out (by omega) (by omega) (by omega)
                  have HFU := hid hfu
                  have f1 : decide ((12 : Int) + (r.length : Int) ≤ (left : Int)) = false := decide_eq_false (by omega)
                  have HNX := hid (fun (own' : Nat → Prop) (w' : World) (x1 : TSt w own' p t T D w') (x2 : w'.ownsRow w2.heap.size 5 1 (.slice (some ⟨w2.heap.size, 0, none⟩) 256 256) 256 (M.map B)) (x3 : ¬ own' w2.heap.size ∧ w2.heap.size ≠ t) (x4 : WantsIn w w' (t + 1) (.slice av recs.length cv) us recs) (x5 : ∀ k, (Value.slice av recs.length cv).ownBlock = some k → ¬ own' k ∧ k ≠ w2.heap.size) =>
                    (⟨x1, HT.out.holds, HT.out.lo, HT.out.hi, HT.out.left, by have := HT.out.waits; omega, HT.out.len, HT.out.look, x2, x3, x4, x5⟩ : TwB w w' p t w2.heap.size l m M own' T D (.slice av recs.length cv) us recs (k + 1) left))
                  subst hga
                  clear hs' hbw hc hs hfu hops
                  go_wp2_with (first | (go_at_call_of 59 (Value.int .i64 0); fail) | (go_at_call 66; refine HFU.out.mono ?_; rintro e w7 ⟨rfl, own', x1, x2, x3, x4, x5⟩; have HN := hid (HNX.out own' w7 x1 x2 x3 x4 x5); clear x1 x2 x3 x4 x5 HOPS; have HOPS := hid (ops_any w7 p own' D HN.out.tst.drum.at')) | (go_at_call 59; refine HOPS.out.mono ?_; rintro e w6 ⟨rfl, rfl⟩))
                  go_roundw
                  case rel => exact ⟨k + 1, left, own', T, D, us, recs, by omega, by go_num, rfl, by omega, HN⟩
                  case measure => simp [intOf]; omega
            · have hke : k = L.length := by omega
              subst hke
              obtain ⟨av, cv, rfl⟩ := own_form HT.out.wants.row
              have HOPS := hid (ops_any wr p own D HT.out.tst.drum.at')
              have hon := HT.out.holds.on
              rw [HT.out.lo, HT.out.hi] at hon
              have HON := hid hon
              clear hon
              go_wp2_with (go_at_call 59; refine HOPS.out.mono ?_; rintro e w6 ⟨rfl, rfl⟩)
              clear HOPS
              generalize wr = wz at *
              go_loopw [20] (fun i wx => ∃ j : Nat, j ≤ 2 ∧ i = I j ∧ Hid (Below wz.heap.size wz wx)) (fun i _ => 2 - (intOf i).toNat)
              case atStart => exact ⟨0, by omega, rfl, hid (Below.refl _ _)⟩
              case round =>
                obtain ⟨j, hj, rfl, HB⟩ := hrel
                have hj3 : j = 2 ∨ j = 0 ∨ j = 1 := by omega
                rcases hj3 with rfl | hj3
                rotate_left
                · have f1 : decide ((j : Int) < 2) = true := decide_eq_true (by omega)
                  have htx := HT.out.tst.on HB.out
                  have hop := tst_open_on htx.drum HON.out
                  rw [Int.natCast_add] at hop
                  have HOP := hid hop
                  have HBX := HB
                  have hj1 : j < 2 := by omega
                  clear hop htx HB hj3
                  go_wp2_with (go_at_call 65; refine HOP.out.mono ?_; rintro e w6 ⟨t2, v2, rfl, ht2, hlt2, hrc2, hb2⟩; obtain ⟨ao2, co2, rfl⟩ := hrc2.form; have HSH := hid hrc2.shows; have HT2 := hid ht2; have HB6 := hid (HBX.out.trans (hb2.mono HBX.out.size)); clear ht2 hlt2 hrc2 hb2)
                  have hal := alike_any w6 _ _ recs recs HSH.out ((HT.out.wants.below HB6.out).shows HT2.out.drum.below)
                  rw [decide_eq_true rfl] at hal
                  have HAL := hid hal
                  clear hal
                  refine HAL.out.mono ?_
                  rintro e w7 ⟨rfl, m7, rfl⟩
                  have HOP6 := hid (ops_any (w6.drewN m7) p own D (HT2.out.drum.at'.below (below_drewN w6 m7)))
                  have HB7 := hid (HB6.out.trans ((below_drewN w6 m7).mono HB6.out.size))
                  clear HAL HSH HT2 HOP HB6 HBX
                  generalize w6.drewN m7 = w7 at *
                  go_wp2_with (go_at_call 59; refine HOP6.out.mono ?_; rintro e w8 ⟨rfl, rfl⟩)
                  go_roundw
                  case rel => exact ⟨j + 1, by omega, by go_num, HB7⟩
                  case measure => simp [intOf]; omega
                · clear hj
                  go_wp2
                  go_loopw [24] (fun i wx => ∃ q : Nat, q ≤ l + m + 3 ∧ i = I q ∧ Hid (Below wz.heap.size wz wx)) (fun i _ => l + m + 3 - (intOf i).toNat)
                  case atStart => exact ⟨0, by omega, rfl, HB⟩
                  case round =>
                    clear HB
                    obtain ⟨q, hq, rfl, HB⟩ := hrel
                    by_cases hqe : q = l + m + 3
                    · have f1 : decide ((q : Int) < (l : Int) + (m : Int) + 3) = false := decide_eq_false (by omega)
                      have HBE := hid (HT.out.tst.on HB.out).drum.below
                      clear hqe
                      go_wp2
                      go_ret
                      exact ⟨rfl, HBE.out⟩
                    · have f1 : decide ((q : Int) < (l : Int) + (m : Int) + 3) = true := decide_eq_true (by omega)
                      have hq3 : q < l ∨ (¬ q < l ∧ q < l + m) ∨ (¬ q < l ∧ l + m ≤ q) := by omega
                      rcases hq3 with d1 | ⟨d1, d2⟩ | ⟨d1, d2⟩
                      · have hst := (HT.out.tst.on HB.out).drum
                        have hrd := st_read hst (q : Int) (by omega)
                        have hll : (DS.look D.safe D.waits q).length = 256 := DS.look_len HON.out.live.ok.page HON.out.live.ok.wait (by rw [HT.out.len]; omega)
                        rw [DS.read_ok HON.out.live.on (by rw [HT.out.len]; omega)] at hrd
                        rw [HT.out.look q (by omega) (by omega)] at hrd
                        simp only [HMM.out] at hrd
                        have HRD := hid hrd
                        have HMK := hid (own_sees' HT.out.mark HMM.out)
                        have f2 : decide ((q : Int) < (l : Int)) = true := decide_eq_true (by omega)
                        have f3 : decide ((l : Int) + (m : Int) ≤ (q : Int)) = false := decide_eq_false (by omega)
                        clear hst hrd hll
                        go_wp2_with (go_at_call 58; refine HRD.out.mono ?_; rintro e w6 ⟨v6, rfl, x1, x2, x3⟩; obtain ⟨av6, cv6, rfl⟩ := own_form x2; have k1 := run_str (P := Try.prog) Try.underlying23 Try.underlying5 Try.underlying9 (own_sees' x2 HMM.out); have k2 := run_str (P := Try.prog) Try.underlying23 Try.underlying5 Try.underlying9 (HMK.out.below (HB.out.trans (x3.mono HB.out.size) |>.mono (Nat.le_refl _))); have HB6 := hid (HB.out.trans (x3.mono HB.out.size)); clear x1 x2 x3)
                        clear k1 k2
                        refine ⟨⟨_, _, _, _, _, _, _, _, _, _, _, _, _, _, _, _, _, _, _, _, _, _, _, _, _, _, _, _, _, _, _, _, _, _, _, _, _, _, _, ⟨q + 1, by omega, by go_num, HB6⟩, rfl⟩, ?_⟩
                        simp [intOf]
                        omega
                      · have hst := (HT.out.tst.on HB.out).drum
                        have hrd := st_read hst (q : Int) (by omega)
                        have hll : (DS.look D.safe D.waits q).length = 256 := DS.look_len HON.out.live.ok.page HON.out.live.ok.wait (by rw [HT.out.len]; omega)
                        rw [DS.read_ok HON.out.live.on (by rw [HT.out.len]; omega)] at hrd
                        simp only [hll] at hrd
                        have HRD := hid hrd
                        have HMK := hid (own_sees' HT.out.mark HMM.out)
                        have f2 : decide ((q : Int) < (l : Int)) = false := decide_eq_false (by omega)
                        have f3 : decide ((l : Int) + (m : Int) ≤ (q : Int)) = false := decide_eq_false (by omega)
                        clear hst hrd hll
                        go_wp2_with (go_at_call 58; refine HRD.out.mono ?_; rintro e w6 ⟨v6, rfl, x1, x2, x3⟩; obtain ⟨av6, cv6, rfl⟩ := own_form x2; have k1 := run_str (P := Try.prog) Try.underlying23 Try.underlying5 Try.underlying9 (own_sees' x2 (DS.look_len HON.out.live.ok.page HON.out.live.ok.wait (by rw [HT.out.len]; omega))); have k2 := run_str (P := Try.prog) Try.underlying23 Try.underlying5 Try.underlying9 (HMK.out.below (HB.out.trans (x3.mono HB.out.size) |>.mono (Nat.le_refl _))); have HB6 := hid (HB.out.trans (x3.mono HB.out.size)); clear x1 x2 x3)
                        clear k1 k2
                        refine ⟨⟨_, _, _, _, _, _, _, _, _, _, _, _, _, _, _, _, _, _, _, _, _, _, _, _, _, _, _, _, _, _, _, _, _, _, _, _, _, _, _, ⟨q + 1, by omega, by go_num, HB6⟩, rfl⟩, ?_⟩
                        simp [intOf]
                        omega
                      · have hst := (HT.out.tst.on HB.out).drum
                        have hrd := st_read hst (q : Int) (by omega)
                        have hll : (DS.look D.safe D.waits q).length = 256 := DS.look_len HON.out.live.ok.page HON.out.live.ok.wait (by rw [HT.out.len]; omega)
                        rw [DS.read_ok HON.out.live.on (by rw [HT.out.len]; omega)] at hrd
                        rw [HT.out.look q (by omega) (by omega)] at hrd
                        simp only [HMM.out] at hrd
                        have HRD := hid hrd
                        have HMK := hid (own_sees' HT.out.mark HMM.out)
                        have f2 : decide ((q : Int) < (l : Int)) = false := decide_eq_false (by omega)
                        have f3 : decide ((l : Int) + (m : Int) ≤ (q : Int)) = true := decide_eq_true (by omega)
                        clear hst hrd hll
                        go_wp2_with (go_at_call 58; refine HRD.out.mono ?_; rintro e w6 ⟨v6, rfl, x1, x2, x3⟩; obtain ⟨av6, cv6, rfl⟩ := own_form x2; have k1 := run_str (P := Try.prog) Try.underlying23 Try.underlying5 Try.underlying9 (own_sees' x2 HMM.out); have k2 := run_str (P := Try.prog) Try.underlying23 Try.underlying5 Try.underlying9 (HMK.out.below (HB.out.trans (x3.mono HB.out.size) |>.mono (Nat.le_refl _))); have HB6 := hid (HB.out.trans (x3.mono HB.out.size)); clear x1 x2 x3)
                        clear k1 k2
                        refine ⟨⟨_, _, _, _, _, _, _, _, _, _, _, _, _, _, _, _, _, _, _, _, _, _, _, _, _, _, _, _, _, _, _, _, _, _, _, _, _, _, _, ⟨q + 1, by omega, by go_num, HB6⟩, rfl⟩, ?_⟩
                        simp [intOf]
                        omega
namespace tapeTwice
theorem walkAll (lo : Int) (hlo : -9223372036854775808 ≤ lo ∧ lo ≤ 9223372036854775807) (n : Int) (hn : -9223372036854775808 ≤ n ∧ n ≤ 9223372036854775807) (a0 : Option Addr) (cap0 : Nat) (L : List (List UInt8)) {w : World} (h0 : Shows w (.slice a0 L.length cap0) L) (w' : World) (e : w = w') :
    Calls Try.prog 15 #[I lo, I n, .slice a0 L.length cap0] w' fun e w'' => e = .returned (.bool true) ∧ Below w'.heap.size w' w'' := by
  subst e
  exact twice_walk w lo n hlo hn a0 cap0 L h0
end tapeTwice
end Go.Proofs.Ytoaeapnkefjpaaa
