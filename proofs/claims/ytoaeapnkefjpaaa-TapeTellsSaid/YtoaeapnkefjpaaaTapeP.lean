/-
  THE PROGRAM'S TAPE, first file: unless, size, number, framed, flush. Conditions: those that each contract names.
-/
import Derived.Test.YtoaeapnkefjpaaaDrumG
import Derived.Test.YtoaeapnkefjpaaaTapeS
import Derived.WalkLawsBesides
import Derived.Laws.BitsAllLaws
namespace Go.Proofs.Ytoaeapnkefjpaaa
open Go.RowKit
set_option linter.unusedVariables false
set_option linter.unusedSimpArgs false

theorem own_anew {w : World} {b b' : Nat} {e : TypeId} {size n : Nat} {v : Value} {xs : List Value} (h : w.ownsRow b e size v n xs) (hb : ∀ k, v.ownBlock = some k → b' ≤ k) : w.ownsRow b' e size v n xs := by
  refine ⟨h.1, ?_⟩
  rcases h.2 with h0 | ⟨g, cap, cur, rfl, _, r⟩
  · exact .inl h0
  · exact .inr ⟨g, cap, cur, rfl, hb g rfl, r⟩
/-- What the tape gives up with. -/
def gaveUp (e : Int) : List PanicEntry := [{ v := .iface 130 (.agg #[I e]), recovered := false }]
theorem unless_ok (e : Int) (w : World) : Calls Try.prog 108 #[.bool true, I e] w fun r w' => r = .returned (.tuple #[]) ∧ w = w' := by
  go_enter Try.func108, Try.ntmps108
  go_wp2
  ((try simp only [Exit.inBlock, Exit.then]); first | refine bodyPost_end (results_none rfl _ _ _) rfl ?_ | refine bodyPost_ret (results_none rfl _ _ _) rfl ?_)
  exact ⟨rfl, rfl⟩
theorem unless_no (e : Int) (w : World) : Calls Try.prog 108 #[.bool false, I e] w fun r w' => r = .panicked (gaveUp e) ∧ w = w' := by
  go_enter Try.func108, Try.ntmps108
  go_wp2
  exact ⟨rfl, rfl, rfl⟩

/-- The tape at block t, over the drum at p, of n pages. -/
structure TapeIn (w : World) (t p n : Nat) (T : TS) : Prop where
  ok : T.Ok n
  n2 : n ≤ 4096
  ht : w.heap[t]? = some (.cells #[.pointer (some ⟨p, 0, none⟩), I T.lo, I T.hi, I T.pos, I T.count, I T.sick] 132 (0, 0))
section
variable {w w' : World} {t p n : Nat} {T : TS}
theorem TapeIn.lt (h : TapeIn w t p n T) : t < w.heap.size := (Array.getElem?_eq_some_iff.1 h.ht).1
theorem TapeIn.keep (h : TapeIn w t p n T) (hb : w'.heap[t]? = w.heap[t]?) : TapeIn w' t p n T := ⟨h.ok, h.n2, hb.trans h.ht⟩
theorem TapeIn.below (h : TapeIn w t p n T) (hb : Below w.heap.size w w') : TapeIn w' t p n T := h.keep (hb.block t h.lt)
theorem TapeIn.mod {own : Nat → Prop} (h : TapeIn w t p n T) (hm : Mod own w w') (ho : ¬ own t) : TapeIn w' t p n T := h.keep (hm.block t h.lt ho)
theorem TapeIn.c0 (h : TapeIn w t p n T) : w.cell? ⟨t, 0, none⟩ = some (.pointer (some ⟨p, 0, none⟩)) := by rw [cell_of_row w t _ _ _ _ h.ht]; rfl
theorem TapeIn.c1 (h : TapeIn w t p n T) : w.cell? ⟨t, 1, none⟩ = some (I T.lo) := by rw [cell_of_row w t _ _ _ _ h.ht]; rfl
theorem TapeIn.c2 (h : TapeIn w t p n T) : w.cell? ⟨t, 2, none⟩ = some (I T.hi) := by rw [cell_of_row w t _ _ _ _ h.ht]; rfl
theorem TapeIn.c3 (h : TapeIn w t p n T) : w.cell? ⟨t, 3, none⟩ = some (I T.pos) := by rw [cell_of_row w t _ _ _ _ h.ht]; rfl
theorem TapeIn.c4 (h : TapeIn w t p n T) : w.cell? ⟨t, 4, none⟩ = some (I T.count) := by rw [cell_of_row w t _ _ _ _ h.ht]; rfl
theorem TapeIn.c5 (h : TapeIn w t p n T) : w.cell? ⟨t, 5, none⟩ = some (I T.sick) := by rw [cell_of_row w t _ _ _ _ h.ht]; rfl
theorem TapeIn.fr (h : TapeIn w t p n T) : ∀ i, w.frozen? ⟨t, i, none⟩ = false := frozen_row h.ht
theorem TapeIn.bd (h : TapeIn w t p n T) : T.lo < T.hi ∧ T.hi ≤ n ∧ n ≤ 4096 ∧ T.pos ≤ T.size ∧ T.size ≤ 1048576 ∧ T.count ≤ T.pos ∧ (T.size : Int) = ((T.hi : Int) - (T.lo : Int)) * 256 := by
  obtain ⟨⟨h1, h2, h3, h4, h5⟩, h6, _⟩ := h
  unfold TS.size at *
  omega
end
set_option maxRecDepth 100000 in
theorem size_any (w : World) (t p n : Nat) (T : TS) (h : TapeIn w t p n T) : Calls Try.prog 98 #[.pointer (some ⟨t, 0, none⟩)] w fun e w' => e = .returned (I T.size) ∧ ∃ m, w' = w.drewN m := by
  obtain ⟨b1, b2, b3, b4, b5, b6, b7⟩ := h.bd
  have c1 := h.c1
  have c2 := h.c2
  have HB := hid b7
  have hs : IntKind.i64.wrap ((T.hi : Int) - (T.lo : Int)) = (T.hi : Int) - (T.lo : Int) := IntWalk.i64_in _ (by omega)
  have hs2 : IntKind.i64.wrap (((T.hi : Int) - (T.lo : Int)) * 256) = ((T.hi : Int) - (T.lo : Int)) * 256 := IntWalk.i64_in _ (by omega)
  clear h b7
  go_enter Try.func98, Try.ntmps98
  go_wp2
  go_quiet (fail)
  go_wp2
  go_ret
  exact ⟨ret_int HB.out.symm, _, rfl⟩
theorem i64_or_nat (a b : Nat) (ha : a < 9223372036854775808) (hb : b < 9223372036854775808) : Go.bits .or .i64 (a : Int) (b : Int) = ((a ||| b : Nat) : Int) := by
  have hx : a ||| b < 2 ^ 63 := Nat.or_lt_two_pow (by omega) (by omega)
  show IntKind.i64.wrap ((BitVec.ofInt 64 (a : Int) ||| BitVec.ofInt 64 (b : Int)).toNat : Int) = _
  rw [BitVec.toNat_or, ofInt_u64 a (by omega), ofInt_u64 b (by omega), IntWalk.i64_in _ (by omega)]
theorem or8i (x : Int) (c : UInt8) (h0 : 0 ≤ x) (h1 : x < 36028797018963968) : Go.bits .or .i64 (x * 256) (c.toNat : Int) = Sum.nst x c := by
  have hb := c.toNat_lt
  obtain ⟨X, rfl⟩ := Int.eq_ofNat_of_zero_le h0
  have e := i64_or_nat (X * 256) c.toNat (by omega) (by omega)
  have hj := nat_join 8 (X * 256) c.toNat (by omega) (by omega)
  rw [hj] at e
  have e2 : ((X : Int) * 256) = ((X * 256 : Nat) : Int) := by omega
  rw [e2, e]
  unfold Sum.nst
  omega
theorem num6 (T : List UInt8) (k : Nat) (hT : T.length ≤ 6) : 0 ≤ Sum.num (T.take k) ∧ Sum.num (T.take k) < 281474976710656 * 1 := by
  have h := Sum.num_range (T.take k)
  have h3 : (T.take k).length ≤ 6 := by have := List.length_take_le k T; rw [List.length_take]; omega
  generalize (T.take k).length = m at *
  refine ⟨h.1, Int.lt_of_lt_of_le h.2 ?_⟩
  have : m = 0 ∨ m = 1 ∨ m = 2 ∨ m = 3 ∨ m = 4 ∨ m = 5 ∨ m = 6 := by omega
  rcases this with rfl | rfl | rfl | rfl | rfl | rfl | rfl <;> decide
set_option maxRecDepth 100000 in
set_option maxHeartbeats 800000 in
theorem number_any (w : World) (v : Value) (l : List UInt8) (hv : Sees w v l) (hl : l.length ≤ 6) : Calls Try.prog 107 #[v] w fun e w' => e = .returned (I (Sum.num l)) ∧ w = w' := by
  obtain ⟨ao, cap, rfl, h1, h2, h3⟩ := hv
  have H3 := hid h3
  clear h3
  go_enter Try.func107, Try.ntmps107
  go_wp2
  go_loop [3, 8] (fun x i => ∃ k : Nat, k ≤ l.length ∧ i = .int .i64 k ∧ x = .int .i64 (Sum.num (l.take k))) (fun _ i => l.length - (intOf i).toNat)
  case atStart => exact ⟨0, Nat.zero_le _, rfl, rfl⟩
  case round =>
    obtain ⟨k, hk, rfl, rfl⟩ := hrel
    by_cases hlt : k < l.length
    · obtain ⟨g, off, rfl, hc⟩ := H3.out (by omega)
      have hck := hc k _ (List.getElem?_eq_getElem hlt)
      have bb := byte_bd l[k]
      have nb := num6 l k hl
      have hor := or8i (Sum.num (l.take k)) l[k] nb.1 (by omega)
      rw [← Sum.num_snoc, ← List.take_succ_eq_append_getElem hlt] at hor
      generalize Sum.num (l.take k) = X at *
      have HOR := hid hor
      clear hor hc
      go_wp2
      go_round
      case rel => exact ⟨k + 1, by omega, by go_num, by rw [HOR.out]⟩
      case measure => simp [intOf]; omega
    · have e : k = l.length := by omega
      go_wp2
      go_ret
      subst e
      first | exact ⟨ret_int rfl, rfl⟩ | exact ⟨ret_int (by rw [List.take_length]), rfl⟩
set_option maxRecDepth 100000 in
set_option maxHeartbeats 800000 in
theorem framed_any (w : World) (c : Int) (hc : -9223372036854775808 ≤ c ∧ c ≤ 9223372036854775807) (v : Value) (r : List UInt8) (hv : Sees w v r) (hr : r.length ≤ 65536) : Calls Try.prog 109 #[I c, v] w (Fresh w (TS.size3 r.length ++ Sum.be8 (Sum.add (Sum.of c (TS.size3 r.length)) r))) := by
  obtain ⟨ao, cap, rfl, -⟩ := hv.form0
  have HV := hid hv
  clear hv
  go_enter Try.func109, Try.ntmps109
  go_wp2_with fail
  have hcells : (#[Value.int .u8 ((r.length : Int) / 65536), Value.int .u8 ((r.length : Int) / 256 % 256), Value.int .u8 ((r.length : Int) % 256)] : Array Value) = ((TS.size3 r.length).map B).toArray := by
    have e1 : ((UInt8.ofNat (r.length / 65536 % 256)).toNat : Int) = (r.length : Int) / 65536 := by rw [UInt8.toNat_ofNat']; omega
    have e2 : ((UInt8.ofNat (r.length / 256 % 256)).toNat : Int) = (r.length : Int) / 256 % 256 := by rw [UInt8.toNat_ofNat']; omega
    have e3 : ((UInt8.ofNat (r.length % 256)).toNat : Int) = (r.length : Int) % 256 := by rw [UInt8.toNat_ofNat']; omega
    unfold TS.size3 B
    rw [List.map_cons, List.map_cons, List.map_cons, List.map_nil, e1, e2, e3]
  rw [hcells]
  have hS := Sees.lit w (TS.size3 r.length) (0, 0) (by show 3 ≤ maxLen; unfold maxLen; omega)
  have hb : Below w.heap.size w (w.alloc (.cells ((TS.size3 r.length).map B).toArray 5)) := (Below.refl _ _).alloc (Nat.le_refl _) _
  have HVa := hid (HV.out.below hb)
  have HS : Hid (Sees (w.alloc (.cells ((TS.size3 r.length).map B).toArray 5)) (.slice (some ⟨w.heap.size, 0, none⟩) 3 3) (TS.size3 r.length)) := hid hS
  have HB := hid hb
  generalize w.alloc (.cells ((TS.size3 r.length).map B).toArray 5) = wa at *
  clear hcells hS hb
  have r1 : 0 ≤ Sum.of c (TS.size3 r.length) ∧ Sum.of c (TS.size3 r.length) < 18446744073709551616 := by
    have := Sum.add_range (Sum.start c) (TS.size3 r.length)
    unfold Sum.of; omega
  have r2 : 0 ≤ Sum.add (Sum.of c (TS.size3 r.length)) r ∧ Sum.add (Sum.of c (TS.size3 r.length)) r < 18446744073709551616 := by
    have := Sum.add_range (Sum.of c (TS.size3 r.length)) r
    omega
  refine (of_any c hc.1 hc.2 _ (TS.size3 r.length) _ HS.out).mono ?_
  rintro e w1 ⟨rfl, rfl⟩
  go_wp2_with (first | (go_at_call 26; refine (add_any _ r1.1 r1.2 _ r _ HVa.out).mono ?_; rintro e w2 ⟨rfl, rfl⟩) | (go_at_call 30; refine (put_any _ (TS.size3 r.length) _ r2.1 r2.2 _ HS.out (by show 3 ≤ 1099511627776; omega)).mono ?_; rintro e w3 ⟨v3, rfl, ho, hb3⟩; have HO := hid ho; have HB3 := hid hb3; clear ho hb3))
  go_ret
  exact ⟨v3, rfl, own_anew HO.out (fun k hk => Nat.le_trans HB.out.size (own_lt HO.out k hk).1), HB.out.trans (HB3.out.mono HB.out.size)⟩
theorem framed_of (w : World) (c : Nat) (hc : c ≤ 1000000000) (v : Value) (r : List UInt8) (hv : Sees w v r) (hr : r.length ≤ 65536) : Calls Try.prog 109 #[I c, v] w (Fresh w (TS.framed c r)) := framed_any w c (by omega) v r hv hr
/-! ### flush -/
/-- What is answered, or given up with, where an error is. -/
def endOr (e : Int) (v : Value) : Ending := if e = 0 then .returned v else .panicked (gaveUp e)
theorem endOr_ok (v : Value) : Ending.returned v = endOr 0 v := rfl
theorem endOr_no {e : Int} (h : (e == 0) = false) (v : Value) : Ending.panicked (gaveUp e) = endOr e v := by
  have : ¬ e = 0 := by simpa using h
  unfold endOr
  rw [if_neg this]
set_option maxRecDepth 100000 in
theorem tflush_any (w : World) (t p n : Nat) (own : Nat → Prop) (T : TS) (D : DS) (h : TapeIn w t p n T) (hd : DrumAt w p own D) : Calls Try.prog 112 #[.pointer (some ⟨t, 0, none⟩)] w fun e w' => e = endOr D.Flush.1 (.tuple #[]) ∧ Drummed own p w D.Flush.2 w' := by
  have c0 := h.c0
  have hf := flush_any w p own D hd
  generalize D.Flush = R at *
  obtain ⟨e0, D'⟩ := R
  have HF := hid hf
  clear hf h hd
  by_cases h0 : e0 = 0
  · subst h0
    go_enter Try.func112, Try.ntmps112
    go_wp2_with (first | (go_at_call 52; refine HF.out.mono ?_; rintro e w1 ⟨rfl, hd1⟩; have HD := hid hd1; clear hd1) | (go_at_call 108; refine (unless_ok _ _).mono ?_; rintro e w2 ⟨rfl, rfl⟩))
    ((try simp only [Exit.inBlock, Exit.then]); first | refine bodyPost_end (results_none rfl _ _ _) rfl ?_ | refine bodyPost_ret (results_none rfl _ _ _) rfl ?_)
    exact ⟨rfl, HD.out⟩
  · have hb : (e0 == 0) = false := by simpa using h0
    clear h0
    go_enter Try.func112, Try.ntmps112
    go_wp2_with (first | (go_at_call 52; refine HF.out.mono ?_; rintro e w1 ⟨rfl, hd1⟩; have HD := hid hd1; clear hd1) | (go_at_call 108; refine (unless_no _ _).mono ?_; rintro e w2 ⟨rfl, rfl⟩))
    exact ⟨rfl, endOr_no hb _, HD.out⟩
end Go.Proofs.Ytoaeapnkefjpaaa
