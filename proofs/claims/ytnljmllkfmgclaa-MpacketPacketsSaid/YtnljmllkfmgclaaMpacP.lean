/-
  THE PROGRAM'S READER: unless, take, byte, short, text, id. Conditions: those that each contract names.
-/
import Derived.Test.YtnljmllkfmgclaaMpacS
import Derived.Test.YtnljmllkfmgclaaMpacG
import Derived.WalkLawsBesides
import Derived.Laws.BitsAllLaws
namespace Go.Proofs.Ytnljmllkfmgclaa
open Go.RowKit
set_option linter.unusedVariables false
set_option linter.unusedSimpArgs false

/-- What a reading gives up with. -/
def gave : List PanicEntry := [{ v := .iface 45 (.agg #[]), recovered := false }]
theorem unless_ok (w : World) : Calls Try.prog 21 #[.bool true] w fun r w' => r = .returned (.tuple #[]) ∧ w = w' := by
  go_enter Try.func21, Try.ntmps21
  go_wp2
  ((try simp only [Exit.inBlock, Exit.then]); first | refine bodyPost_end (results_none rfl _ _ _) rfl ?_ | refine bodyPost_ret (results_none rfl _ _ _) rfl ?_)
  exact ⟨rfl, rfl⟩
theorem unless_no (w : World) : Calls Try.prog 21 #[.bool false] w fun r w' => r = .panicked gave ∧ w = w' := by
  go_enter Try.func21, Try.ntmps21
  go_wp2
  exact ⟨rfl, rfl, rfl⟩
/-- The reader at block r, of these bytes. -/
structure RdIn (w : World) (r : Nat) (s : List UInt8) : Prop where
  le : s.length ≤ 1048576
  ht : w.heap[r]? = some (.cells #[S s] 51 (0, 0))
section
variable {w w' : World} {r : Nat} {s : List UInt8}
theorem RdIn.lt (h : RdIn w r s) : r < w.heap.size := (Array.getElem?_eq_some_iff.1 h.ht).1
theorem RdIn.keep (h : RdIn w r s) (hb : w'.heap[r]? = w.heap[r]?) : RdIn w' r s := ⟨h.le, hb.trans h.ht⟩
theorem RdIn.below (h : RdIn w r s) (hb : Below w.heap.size w w') : RdIn w' r s := h.keep (hb.block r h.lt)
theorem RdIn.mod {own : Nat → Prop} (h : RdIn w r s) (hm : Mod own w w') (ho : ¬ own r) : RdIn w' r s := h.keep (hm.block r h.lt ho)
theorem RdIn.c0 (h : RdIn w r s) : w.cell? ⟨r, 0, none⟩ = some (S s) := by rw [cell_of_row w r _ _ _ _ h.ht]; rfl
theorem RdIn.fr (h : RdIn w r s) : ∀ i, w.frozen? ⟨r, i, none⟩ = false := frozen_row h.ht
theorem RdIn.set (h : RdIn w r s) (t : List UInt8) (ht : t.length ≤ 1048576) : RdIn (w.setCell ⟨r, 0, none⟩ (S t)) r t := ⟨ht, by rw [heap_setCell_same w r 0 _ _ _ h.ht]; rfl⟩
end
/-- What a reading comes to: a value and what is left, or it gives up. -/
def Got (w : World) (r : Nat) (o : Option (Value × List UInt8)) (e : Ending) (w' : World) : Prop :=
  Mod (fun k => k = r) w w' ∧ match o with
  | none => e = .panicked gave
  | some x => e = .returned x.1 ∧ RdIn w' r x.2
set_option maxRecDepth 100000 in
set_option maxHeartbeats 800000 in
theorem take_any (w : World) (r : Nat) (s : List UInt8) (n : Nat) (h : RdIn w r s) (hn : n ≤ 1048576) : Calls Try.prog 33 #[.pointer (some ⟨r, 0, none⟩), I n] w (Got w r ((Mp.take n s).map fun x => (S x.1, x.2))) := by
  have c0 := h.c0
  have cf := h.fr
  have hsz := str_size s
  have hle := h.le
  have H := hid h
  clear h
  by_cases hlt : n ≤ s.length
  · have e1 : (str s).extract 0 n = str (s.take n) := by rw [str_extract]; rfl
    have e2 : (str s).extract n s.length = str (s.drop n) := by rw [str_extract, List.take_of_length_le (by rw [List.length_drop]; omega)]
    have hd : (s.drop n).length ≤ 1048576 := by rw [List.length_drop]; omega
    have HD := hid hd
    clear hd
    go_enter Try.func33, Try.ntmps33
    go_wp2_with (go_at_call 21; refine (unless_ok _).mono ?_; rintro e w2 ⟨rfl, rfl⟩)
    go_ret
    have ht : Mp.take n s = some (s.take n, s.drop n) := by unfold Mp.take; rw [if_pos hlt]
    rw [ht]
    exact ⟨Mod.set rfl, rfl, H.out.set _ HD.out⟩
  · go_enter Try.func33, Try.ntmps33
    go_wp2_with (go_at_call 21; refine (unless_no _).mono ?_; rintro e w2 ⟨rfl, rfl⟩)
    have ht : Mp.take n s = none := by unfold Mp.take; rw [if_neg hlt]
    rw [ht]
    exact ⟨rfl, Mod.refl _ _, rfl⟩
/-- What is taken, in parts. -/
theorem Got.gone {w w' : World} {r : Nat} {o : Option (Value × List UInt8)} {e : Ending} (h : Got w r o e w') (ho : o = none) : e = .panicked gave ∧ Mod (fun k => k = r) w w' := by
  subst ho
  exact ⟨h.2, h.1⟩
theorem Got.has {w w' : World} {r : Nat} {o : Option (Value × List UInt8)} {e : Ending} (h : Got w r o e w') {v : Value} {t : List UInt8} (ho : o = some (v, t)) : e = .returned v ∧ RdIn w' r t ∧ Mod (fun k => k = r) w w' := by
  subst ho
  exact ⟨h.2.1, h.2.2, h.1⟩
theorem Got.no {w w' : World} {r : Nat} {o : Option (Value × List UInt8)} (hm : Mod (fun k => k = r) w w') (ho : o = Option.none) : Got w r o (.panicked gave) w' := by
  subst ho
  exact ⟨hm, rfl⟩
theorem Got.yes {w w' : World} {r : Nat} {o : Option (Value × List UInt8)} {v : Value} {t : List UInt8} (hm : Mod (fun k => k = r) w w') (ho : o = Option.some (v, t)) (hr : RdIn w' r t) : Got w r o (.returned v) w' := by
  subst ho
  exact ⟨hm, rfl, hr⟩
set_option maxRecDepth 100000 in
set_option maxHeartbeats 800000 in
theorem byte_any (w : World) (r : Nat) (s : List UInt8) (h : RdIn w r s) : Calls Try.prog 30 #[.pointer (some ⟨r, 0, none⟩)] w (Got w r ((Mp.byte s).map fun x => (I x.1, x.2))) := by
  have H := hid (take_any w r s 1 h (by omega))
  clear h
  cases s with
  | nil =>
    go_enter Try.func30, Try.ntmps30
    go_wp2_with (go_at_call 33; refine H.out.mono ?_; intro e w2 hg; obtain ⟨rfl, hm⟩ := hg.gone rfl)
    exact ⟨rfl, hm, rfl⟩
  | cons b t =>
    have hs1 : (str [b]).size = 1 := rfl
    have hg0 : ∀ h, (str [b])[0]'h = b := fun _ => rfl
    have hwr : IntKind.i64.wrap (b.toNat : Int) = (b.toNat : Int) := IntWalk.i64_in _ (by have := b.toNat_lt; omega)
    go_enter Try.func30, Try.ntmps30
    go_wp2_with (go_at_call 33; refine H.out.mono ?_; intro e w2 hg; obtain ⟨rfl, hr, hm⟩ := hg.has (v := S [b]) (t := t) rfl; have HR := hid hr; have HM := hid hm; clear hr hm hg)
    go_ret
    exact ⟨HM.out, ret_int rfl, HR.out⟩
theorem Mod.same {own : Nat → Prop} {a b c : World} (h : Mod own a b) (k : Mod own b c) : Mod own a c := h.trans k
theorem shl8 (a b : UInt8) : Go.bits .or .i64 ((a.toNat : Int) * 256) (b.toNat : Int) = ((a.toNat * 256 + b.toNat : Nat) : Int) := by
  have ha := a.toNat_lt
  have hb := b.toNat_lt
  have hj : a.toNat * 256 ||| b.toNat = a.toNat * 256 + b.toNat := by
    have := Nat.two_pow_add_eq_or_of_lt (i := 8) (b := b.toNat) (by omega) a.toNat
    rw [Nat.mul_comm (2 ^ 8) _] at this
    exact this.symm
  have hx : a.toNat * 256 ||| b.toNat < 2 ^ 63 := by rw [hj]; omega
  have e2 : ((a.toNat : Int) * 256) = ((a.toNat * 256 : Nat) : Int) := by omega
  show IntKind.i64.wrap ((BitVec.ofInt 64 ((a.toNat : Int) * 256) ||| BitVec.ofInt 64 (b.toNat : Int)).toNat : Int) = _
  rw [e2, BitVec.toNat_or, ofInt_u64 _ (by omega), ofInt_u64 _ (by omega), hj, IntWalk.i64_in _ (by omega)]
set_option maxRecDepth 100000 in
set_option maxHeartbeats 800000 in
theorem short_any (w : World) (r : Nat) (s : List UInt8) (h : RdIn w r s) : Calls Try.prog 39 #[.pointer (some ⟨r, 0, none⟩)] w (Got w r ((Mp.short s).map fun x => (I x.1, x.2))) := by
  have H := hid (byte_any w r s h)
  clear h
  match s, H with
  | [], H =>
    go_enter Try.func39, Try.ntmps39
    go_wp2_with (go_at_call 30; refine H.out.mono ?_; intro e w2 hg; obtain ⟨rfl, hm⟩ := hg.gone rfl)
    exact ⟨rfl, hm, rfl⟩
  | [a], H =>
    go_enter Try.func39, Try.ntmps39
    go_wp2_with (first | (go_at_call 30; refine H.out.mono ?_; clear H; intro e w2 hg; obtain ⟨rfl, hr, hm⟩ := hg.has (v := I a.toNat) (t := []) rfl; have H2 := hid (byte_any _ r _ hr); have HM := hid hm; clear hr hm hg) | (go_at_call 30; refine H2.out.mono ?_; intro e w3 hg; obtain ⟨rfl, hm⟩ := hg.gone rfl))
    exact ⟨rfl, HM.out.trans hm, rfl⟩
  | a :: b :: t, H =>
    have ha := byte_bd a
    have hor := shl8 a b
    have HOR := hid hor
    clear hor
    go_enter Try.func39, Try.ntmps39
    go_wp2_with (first | (go_at_call 30; refine H.out.mono ?_; clear H; intro e w2 hg; obtain ⟨rfl, hr, hm⟩ := hg.has (v := I a.toNat) (t := b :: t) rfl; have H2 := hid (byte_any _ r _ hr); have HM := hid hm; clear hr hm hg) | (go_at_call 30; refine H2.out.mono ?_; intro e w3 hg; obtain ⟨rfl, hr, hm⟩ := hg.has (v := I b.toNat) (t := t) rfl; have HR := hid hr; have HM2 := hid hm; clear hr hm hg))
    go_ret
    exact ⟨HM.out.trans HM2.out, ret_int HOR.out, HR.out⟩
theorem short_bd {s t : List UInt8} {n : Nat} (h : Mp.short s = some (n, t)) : n ≤ 65535 := by
  obtain ⟨a, b, -, rfl⟩ := Mp.short_len h
  have := a.toNat_lt
  have := b.toNat_lt
  omega
set_option maxRecDepth 100000 in
set_option maxHeartbeats 800000 in
theorem text_any (w : World) (r : Nat) (s : List UInt8) (h : RdIn w r s) : Calls Try.prog 31 #[.pointer (some ⟨r, 0, none⟩)] w (Got w r ((Mp.text s).map fun x => (S x.1, x.2))) := by
  have H := hid (short_any w r s h)
  clear h
  obtain ⟨o, ho⟩ : ∃ o, o = Mp.short s := ⟨_, rfl⟩
  have ht : Mp.text s = o.bind fun x => Mp.take x.1 x.2 := by rw [ho]; rfl
  rw [← ho] at H
  rw [ht]
  cases o with
  | none =>
    go_enter Try.func31, Try.ntmps31
    go_wp2_with (go_at_call 39; refine H.out.mono ?_; intro e w2 hg; obtain ⟨rfl, hm⟩ := hg.gone rfl)
    exact ⟨rfl, hm, rfl⟩
  | some x =>
    obtain ⟨n, t⟩ := x
    have hn := short_bd ho.symm
    clear ho ht
    go_enter Try.func31, Try.ntmps31
    go_wp2_with (first | (go_at_call 39; refine H.out.mono ?_; intro e w2 hg; obtain ⟨rfl, hr, hm⟩ := hg.has (v := I n) (t := t) rfl; have HR := hid hr; have HM := hid hm; clear hr hm hg) | fail)
    refine (take_any _ r t n HR.out (by omega)).mono ?_
    intro e w3 hg
    cases hk : Mp.take n t with
    | none =>
      obtain ⟨rfl, hm⟩ := hg.gone (by rw [hk]; rfl)
      have HM3 := hid hm
      clear hm hg
      go_wp2
      refine ⟨rfl, Got.no (HM.out.trans HM3.out) ?_⟩
      rw [Option.bind_some, hk]
      rfl
    | some y =>
      obtain ⟨rfl, hr, hm⟩ := hg.has (v := S y.1) (t := y.2) (by rw [hk]; rfl)
      have HM3 := hid hm
      have HR3 := hid hr
      clear hm hg hr
      go_wp2
      go_ret
      refine Got.yes (HM.out.trans HM3.out) ?_ HR3.out
      rw [Option.bind_some, hk]
      rfl
set_option maxRecDepth 100000 in
set_option maxHeartbeats 800000 in
theorem id_any (w : World) (r : Nat) (s : List UInt8) (h : RdIn w r s) : Calls Try.prog 32 #[.pointer (some ⟨r, 0, none⟩)] w (Got w r ((Mp.id s).map fun x => (I x.1, x.2))) := by
  have H := hid (short_any w r s h)
  clear h
  obtain ⟨o, ho⟩ : ∃ o, o = Mp.short s := ⟨_, rfl⟩
  have ht : Mp.id s = o.bind fun x => if 0 < x.1 then some x else none := by rw [ho]; rfl
  rw [← ho] at H
  rw [ht]
  clear ht ho
  cases o with
  | none =>
    go_enter Try.func32, Try.ntmps32
    go_wp2_with (go_at_call 39; refine H.out.mono ?_; intro e w2 hg; obtain ⟨rfl, hm⟩ := hg.gone rfl)
    exact ⟨rfl, hm, rfl⟩
  | some x =>
    obtain ⟨n, t⟩ := x
    by_cases h0 : 0 < n
    · go_enter Try.func32, Try.ntmps32
      go_wp2_with (first | (go_at_call 39; refine H.out.mono ?_; intro e w2 hg; obtain ⟨rfl, hr, hm⟩ := hg.has (v := I n) (t := t) rfl; have HR := hid hr; have HM := hid hm; clear hr hm hg) | (go_at_call 21; refine (unless_ok _).mono ?_; rintro e w2 ⟨rfl, rfl⟩))
      go_ret
      refine Got.yes HM.out ?_ HR.out
      rw [Option.bind_some, if_pos h0]
      rfl
    · go_enter Try.func32, Try.ntmps32
      go_wp2_with (first | (go_at_call 39; refine H.out.mono ?_; intro e w2 hg; obtain ⟨rfl, hr, hm⟩ := hg.has (v := I n) (t := t) rfl; have HR := hid hr; have HM := hid hm; clear hr hm hg) | (go_at_call 21; refine (unless_no _).mono ?_; rintro e w2 ⟨rfl, rfl⟩))
      refine ⟨rfl, Got.no HM.out ?_⟩
      rw [Option.bind_some, if_neg h0]
      rfl
end Go.Proofs.Ytnljmllkfmgclaa
