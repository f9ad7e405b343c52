/-
  THE DOCUMENT'S ANSWER: its reader: Take (38), Number (37), text (36). Conditions: those that each contract names.
-/
import Derived.Test.YtnljmllkfmgclaaMpacZS
import Derived.Test.YtnljmllkfmgclaaMpacPV
namespace Go.Proofs.Ytnljmllkfmgclaa
open Go.RowKit
set_option linter.unusedVariables false
set_option linter.unusedSimpArgs false

/-- The document's reader at block r. -/
structure RdB (w : World) (r : Nat) (x : Rp.St) : Prop where
  le : x.1.length ≤ 1048576
  ht : w.heap[r]? = some (.cells #[S x.1, .bool x.2] 65 (0, 0))
section
variable {w w' : World} {r : Nat} {x : Rp.St}
theorem RdB.lt (h : RdB w r x) : r < w.heap.size := (Array.getElem?_eq_some_iff.1 h.ht).1
theorem RdB.keep (h : RdB w r x) (hb : w'.heap[r]? = w.heap[r]?) : RdB w' r x := ⟨h.le, hb.trans h.ht⟩
theorem RdB.below (h : RdB w r x) (hb : Below w.heap.size w w') : RdB w' r x := h.keep (hb.block r h.lt)
theorem RdB.mod {own : Nat → Prop} (h : RdB w r x) (hm : Mod own w w') (ho : ¬ own r) : RdB w' r x := h.keep (hm.block r h.lt ho)
theorem RdB.c0 (h : RdB w r x) : w.cell? ⟨r, 0, none⟩ = some (S x.1) := by rw [cell_of_row w r _ _ _ _ h.ht]; rfl
theorem RdB.c1 (h : RdB w r x) : w.cell? ⟨r, 1, none⟩ = some (.bool x.2) := by rw [cell_of_row w r _ _ _ _ h.ht]; rfl
theorem RdB.fr (h : RdB w r x) : ∀ i, w.frozen? ⟨r, i, none⟩ = false := frozen_row h.ht
theorem RdB.setS (h : RdB w r x) (t : List UInt8) (ht : t.length ≤ 1048576) : RdB (w.setCell ⟨r, 0, none⟩ (S t)) r (t, x.2) := ⟨ht, by rw [heap_setCell_same w r 0 _ _ _ h.ht]; rfl⟩
theorem RdB.setBad (h : RdB w r x) (b : Bool) : RdB (w.setCell ⟨r, 1, none⟩ (.bool b)) r (x.1, b) := ⟨h.le, by rw [heap_setCell_same w r 1 _ _ _ h.ht]; rfl⟩
end
/-- What a reading comes to. -/
def GotR (w : World) (r : Nat) (v : Value) (x : Rp.St) (e : Ending) (w' : World) : Prop := e = .returned v ∧ RdB w' r x ∧ Mod (fun k => k = r) w w'
set_option maxRecDepth 100000 in
set_option maxHeartbeats 1600000 in
theorem take38_any (w : World) (r n : Nat) (x : Rp.St) (h : RdB w r x) (hn : n ≤ 1048576) : Calls Try.prog 38 #[.pointer (some ⟨r, 0, none⟩), I n] w (GotR w r (S (Rp.take n x).1) (Rp.take n x).2) := by
  obtain ⟨s, b⟩ := x
  have c0 := h.c0
  have c1 := h.c1
  have cf := h.fr
  have hle := h.le
  have hsz := str_size s
  simp only at c0 c1 hle
  have hd0 : decide ((n : Int) < 0) = false := decide_eq_false (by omega)
  have H := hid h
  clear h
  cases b with
  | true =>
    have hT : Rp.take n (s, true) = ([], (s, true)) := Rp.take_bad n s
    rw [hT]
    clear hT
    go_enter Try.func38, Try.ntmps38
    go_wp2
    go_ret
    exact ⟨rfl, H.out.setBad true, Mod.set rfl⟩
  | false =>
    by_cases hlt : s.length < n
    · have hT : Rp.take n (s, false) = ([], (s, true)) := by unfold Rp.take; rw [if_pos (.inr hlt)]
      rw [hT]
      have hd1 : decide ((s.length : Int) < (n : Int)) = true := decide_eq_true (by omega)
      clear hT
      go_enter Try.func38, Try.ntmps38
      go_wp2
      go_ret
      exact ⟨rfl, H.out.setBad true, Mod.set rfl⟩
    · have hT : Rp.take n (s, false) = (s.take n, (s.drop n, false)) := by unfold Rp.take; rw [if_neg (by simp; omega)]
      rw [hT]
      have hd1 : decide ((s.length : Int) < (n : Int)) = false := decide_eq_false (by omega)
      have hle2 : n ≤ s.length := by omega
      have e1 : (str s).extract 0 n = str (s.take n) := by rw [str_extract]; rfl
      have e2 : (str s).extract n s.length = str (s.drop n) := by rw [str_extract, List.take_of_length_le (by rw [List.length_drop]; omega)]
      have hd : (s.drop n).length ≤ 1048576 := by rw [List.length_drop]; omega
      have HD := hid hd
      clear hT hd hlt
      go_enter Try.func38, Try.ntmps38
      go_wp2
      go_ret
      exact ⟨rfl, H.out.setS _ HD.out, Mod.set rfl⟩
theorem Rp.val_snoc (l : List UInt8) (b : UInt8) : Rp.val (l ++ [b]) = Rp.val l * 256 + b.toNat := by unfold Rp.val; rw [List.foldl_append]; rfl
theorem Rp.val_lt (l : List UInt8) (h : l.length ≤ 2) : Rp.val l < 65536 := by
  have h1 := Rp.val_le l 0
  have h3 : 256 ^ l.length ≤ 256 ^ 2 := Nat.pow_le_pow_right (by omega) h
  unfold Rp.val
  omega
set_option maxRecDepth 100000 in
set_option maxHeartbeats 1600000 in
theorem num37_any (w : World) (r n : Nat) (x : Rp.St) (h : RdB w r x) (hn : n ≤ 2) : Calls Try.prog 37 #[.pointer (some ⟨r, 0, none⟩), I n] w (GotR w r (.int .u64 ((Rp.num n x).1 : Int)) (Rp.num n x).2) := by
  have HT := hid (take38_any w r n x h (by omega))
  have hl := Rp.take_len n x
  obtain ⟨l, hll⟩ : ∃ l, l = (Rp.take n x).1 := ⟨_, rfl⟩
  have hnum : (Rp.num n x).1 = Rp.val l := by rw [hll]; rfl
  have hst : (Rp.num n x).2 = (Rp.take n x).2 := rfl
  rw [hnum, hst]
  rw [← hll] at HT hl
  generalize (Rp.take n x).2 = y at *
  have hz := str_size l
  clear h hll hnum hst
  go_enter Try.func37, Try.ntmps37
  go_wp2_with (first | (go_at_call 38; refine HT.out.mono ?_; rintro e w1 ⟨rfl, hr, hm⟩; have HR := hid hr; have HM := hid hm; clear hr hm) | fail)
  clear HT
  go_loop [6, 7] (fun v i => ∃ k : Nat, k ≤ l.length ∧ i = I k ∧ v = .int .u64 (Rp.val (l.take k) : Int)) (fun _ i => l.length - (intOf i).toNat)
  case atStart => exact ⟨0, by omega, rfl, rfl⟩
  case round =>
    obtain ⟨k, hk, rfl, rfl⟩ := hrel
    by_cases hlt : k < l.length
    · obtain ⟨c, hc⟩ : ∃ c, c = l[k] := ⟨_, rfl⟩
      have hg : ∀ h, (str l)[k]'h = c := fun _ => hc.symm
      have htk : l.take (k + 1) = l.take k ++ [c] := by rw [hc]; exact List.take_succ_eq_append_getElem hlt
      have hv := Rp.val_snoc (l.take k) c
      rw [← htk] at hv
      have hb := Rp.val_lt (l.take k) (by rw [List.length_take]; omega)
      have hcb := c.toNat_lt
      have HV := hid hv
      clear hv htk hc
      generalize Rp.val (l.take k) = V at *
      have hw1 : IntKind.u64.wrap ((V : Int) * 256) = (V : Int) * 256 := IntWalk.u64_in _ (by omega)
      have hw2 : IntKind.u64.wrap (c.toNat : Int) = (c.toNat : Int) := IntWalk.u64_in _ (by omega)
      have hw3 : IntKind.u64.wrap ((V : Int) * 256 + (c.toNat : Int)) = (V : Int) * 256 + (c.toNat : Int) := IntWalk.u64_in _ (by omega)
      go_wp2
      go_round
      case rel => exact ⟨k + 1, by omega, by go_num, by rw [HV.out]; go_num⟩
      case measure => simp [intOf]; omega
    · have hkl : k = l.length := by omega
      go_wp2
      go_ret
      refine ⟨?_, HR.out, HM.out⟩
      first | rfl | (rw [hkl, List.take_length]; rfl)
set_option maxRecDepth 100000 in
set_option maxHeartbeats 1600000 in
theorem text36_any (w : World) (r : Nat) (x : Rp.St) (h : RdB w r x) : Calls Try.prog 36 #[.pointer (some ⟨r, 0, none⟩)] w (GotR w r (S (Rp.text x).1) (Rp.text x).2) := by
  have HN := hid (num37_any w r 2 x h (by omega))
  have hlt := Rp.num_lt2 x
  have htx : Rp.text x = Rp.take (Rp.num 2 x).1 (Rp.num 2 x).2 := rfl
  rw [htx]
  generalize (Rp.num 2 x).1 = n at *
  generalize (Rp.num 2 x).2 = y at *
  have hw : IntKind.i64.wrap (n : Int) = (n : Int) := IntWalk.i64_in _ (by omega)
  clear h htx
  go_enter Try.func36, Try.ntmps36
  go_wp2_with (first | (go_at_call 37; refine HN.out.mono ?_; rintro e w1 ⟨rfl, hr, hm⟩; have HR := hid hr; have HM := hid hm; clear hr hm) | fail)
  refine (take38_any _ r n y HR.out (by omega)).mono ?_
  rintro e w2 ⟨rfl, hr, hm⟩
  have HR2 := hid hr
  have HM2 := hid (HM.out.trans hm)
  clear hr hm
  go_wp2_with fail
  go_ret
  exact ⟨rfl, HR2.out, HM2.out⟩
end Go.Proofs.Ytnljmllkfmgclaa
