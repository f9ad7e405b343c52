/-
  A drum that was made since a world w0: the calls, as the statements' walks use them; trivetlaw03.wakes. Conditions: none.
-/
import Derived.Test.YtoaeapnkefjpaaaDrumF
namespace Go.Proofs.Ytoaeapnkefjpaaa
open Go.RowKit
set_option linter.unusedVariables false
set_option linter.unusedSimpArgs false

/-- The drum at p, all its blocks newer than w0; what was there at w0 is as it was. -/
structure St (w0 : World) (own : Nat → Prop) (p : Nat) (D : DS) (w : World) : Prop where
  at' : DrumAt w p own D
  fresh : ∀ k, own k → w0.heap.size ≤ k
  below : Below w0.heap.size w0 w
theorem St.on {w0 w w' : World} {own : Nat → Prop} {p : Nat} {D : DS} (h : St w0 own p D w) (hb : Below w.heap.size w w') : St w0 own p D w' :=
  ⟨h.at'.below hb, h.fresh, h.below.trans (hb.mono h.below.size)⟩
theorem St.step {w0 w w' : World} {own : Nat → Prop} {p : Nat} {D D' : DS} (h : St w0 own p D w) (hd : Drummed own p w D' w') : St w0 own p D' w' :=
  ⟨hd.1, h.fresh, h.below.trans (hd.2.below h.below.size (fun i hi ho => by have := h.fresh i ho; omega))⟩
theorem St.step' {w0 w w' : World} {own : Nat → Prop} {p : Nat} {D D' : DS} (h : St w0 own p D w) (hd : Drummed' own p w D' w') : ∃ own', St w0 own' p D' w' ∧ (∀ k, own' k → own k ∨ w.heap.size ≤ k) ∧ Mod own w w' := by
  obtain ⟨own', h1, h2, h3⟩ := hd
  refine ⟨own', ⟨h1, fun k hk => ?_, h.below.trans (h3.below h.below.size (fun i hi ho => by have := h.fresh i ho; omega))⟩, h2, h3⟩
  rcases h2 k hk with hk | hk
  · exact h.fresh k hk
  · have := h.below.size; omega
/-- A slice of bytes that is none of the drum's. -/
def Apart (own : Nat → Prop) (w : World) (v : Value) (l : List UInt8) : Prop := Sees w v l ∧ ∀ k, v.ownBlock = some k → ¬ own k
theorem Apart.mod {own : Nat → Prop} {w w' : World} {v : Value} {l : List UInt8} (h : Apart own w v l) (hm : Mod own w w') (hl : ∀ k, v.ownBlock = some k → k < w.heap.size) : Sees w' v l :=
  h.1.keep (fun k hk => hm.block k (hl k hk) (h.2 k hk))
theorem St.apart {w0 w w' : World} {own : Nat → Prop} {p : Nat} {D : DS} (h : St w0 own p D w) {v : Value} {l : List UInt8} (ho : w'.ownsRow w.heap.size 5 1 v l.length (l.map B)) : Apart own w' v l :=
  ⟨own_sees ho, fun k hk hk2 => by have := (own_lt ho k hk).1; have := h.at'.lt k hk2; omega⟩

theorem st_new (w : World) (n : Int) (hn : -9223372036854775808 ≤ n ∧ n ≤ 9223372036854775807) :
    Calls Try.prog 36 #[I n] w fun e w' => ∃ p own, e = .returned (.pointer (some ⟨p, 0, none⟩)) ∧ St w own p (DS.new (DS.clamp n)) w' :=
  (new_any w n hn).mono fun e w' ⟨p, own, h1, h2, h3, h4⟩ => ⟨p, own, h1, h2, h3, h4⟩
/-- A drum made later than w0. -/
theorem St.back {w00 w0 w : World} {own : Nat → Prop} {p : Nat} {D : DS} (h : St w0 own p D w) (hb : Below w00.heap.size w00 w0) : St w00 own p D w :=
  ⟨h.at', fun k hk => Nat.le_trans hb.size (h.fresh k hk), hb.trans (h.below.mono hb.size)⟩
theorem st_write {w0 w : World} {own : Nat → Prop} {p : Nat} {D : DS} (h : St w0 own p D w) (a : Int) (ha : -9223372036854775808 ≤ a ∧ a ≤ 9223372036854775807) {v : Value} {l : List UInt8} (hv : Apart own w v l) (hN : D.waits.length ≤ 1000000000) :
    Calls Try.prog 50 #[.pointer (some ⟨p, 0, none⟩), I a, v] w fun e w' => e = .returned (I (D.write a l).1) ∧ ∃ own', St w0 own' p (D.write a l).2 w' ∧ (∀ k, own' k → own k ∨ w.heap.size ≤ k) ∧ Mod own w w' :=
  (write_any w p own D a v l h.at' hv.1 ha hv.2 hN).mono fun e w' ⟨h1, h2⟩ => ⟨h1, h.step' h2⟩
theorem st_flush {w0 w : World} {own : Nat → Prop} {p : Nat} {D : DS} (h : St w0 own p D w) :
    Calls Try.prog 52 #[.pointer (some ⟨p, 0, none⟩)] w fun e w' => e = .returned (I D.Flush.1) ∧ St w0 own p D.Flush.2 w' ∧ Mod own w w' :=
  (flush_any w p own D h.at').mono fun e w' ⟨h1, h2⟩ => ⟨h1, h.step h2, h2.2⟩
theorem st_off {w0 w : World} {own : Nat → Prop} {p : Nat} {D : DS} (h : St w0 own p D w) (k : Int) (hk : -9223372036854775808 ≤ k ∧ k ≤ 9223372036854775807) :
    Calls Try.prog 46 #[.pointer (some ⟨p, 0, none⟩), I k] w fun e w' => e = .returned (.tuple #[]) ∧ St w0 own p (D.Off k) w' ∧ Mod own w w' :=
  (off_any w p own D k h.at' hk).mono fun e w' ⟨h1, h2⟩ => ⟨h1, h.step h2, h2.2⟩
theorem st_on {w0 w : World} {own : Nat → Prop} {p : Nat} {D : DS} (h : St w0 own p D w) :
    Calls Try.prog 48 #[.pointer (some ⟨p, 0, none⟩)] w fun e w' => e = .returned (.tuple #[]) ∧ St w0 own p D.On w' ∧ Mod own w w' :=
  (on_any w p own D h.at').mono fun e w' ⟨h1, h2⟩ => ⟨h1, h.step h2, h2.2⟩
theorem st_arm {w0 w : World} {own : Nat → Prop} {p : Nat} {D : DS} (h : St w0 own p D w) (n k : Int) (hn : -9223372036854775808 ≤ n ∧ n ≤ 9223372036854775807) (hk : -9223372036854775808 ≤ k ∧ k ≤ 9223372036854775807) :
    Calls Try.prog 44 #[.pointer (some ⟨p, 0, none⟩), I n, I k] w fun e w' => e = .returned (.tuple #[]) ∧ St w0 own p (D.Arm n k) w' ∧ Mod own w w' :=
  (arm_any w p own D n k h.at' hn hk).mono fun e w' ⟨h1, h2⟩ => ⟨h1, h.step h2, h2.2⟩
theorem st_read {w0 w : World} {own : Nat → Prop} {p : Nat} {D : DS} (h : St w0 own p D w) (a : Int) (ha : -9223372036854775808 ≤ a ∧ a ≤ 9223372036854775807) :
    Calls Try.prog 58 #[.pointer (some ⟨p, 0, none⟩), I a] w fun e w' => ∃ v, e = .returned (.tuple #[v, I (D.read a).1]) ∧ St w0 own p D w' ∧ w'.ownsRow w.heap.size 5 1 v (D.read a).2.length ((D.read a).2.map B) ∧ Below w.heap.size w w' :=
  (read_any w p own D a h.at' ha).mono fun e w' ⟨v, h1, h2, h3⟩ => ⟨v, h1, h.on h3, h2, h3⟩

/-! ### what wakes tells of -/
namespace Wk
def D0 : DS := DS.new (DS.clamp 2)
def D1 : DS := (D0.write 0 (fullPage 97)).2
def D2 : DS := D1.Flush.2
def D3 : DS := (D2.write 0 (fullPage 98)).2
def D4 : DS := (D3.write 1 (fullPage 99)).2
def D5 : DS := (D4.Off 3).On
theorem e1 : D0.write 0 (fullPage 97) = (0, D1) := Prod.ext (by kernel_rfl) (by kernel_rfl)
theorem e2 : D1.Flush = (0, D2) := Prod.ext (by kernel_rfl) (by kernel_rfl)
theorem e3 : D2.write 0 (fullPage 98) = (0, D3) := Prod.ext (by kernel_rfl) (by kernel_rfl)
theorem e4 : D3.write 1 (fullPage 99) = (0, D4) := Prod.ext (by kernel_rfl) (by kernel_rfl)
def P0 : List UInt8 := [98, 98, 98] ++ List.replicate 253 97
theorem e5 : D5.read 0 = (0, P0) := by kernel_rfl
theorem e6 : D5.read 1 = (0, fullPage 0) := by kernel_rfl
theorem n0 : D0.waits.length ≤ 1000000000 := of_decide_eq_true (by kernel_rfl)
theorem n2 : D2.waits.length ≤ 1000000000 := of_decide_eq_true (by kernel_rfl)
theorem n3 : D3.waits.length ≤ 1000000000 := of_decide_eq_true (by kernel_rfl)
theorem P0_len : P0.length = 256 := by kernel_rfl
end Wk
set_option maxRecDepth 100000 in
set_option maxHeartbeats 1600000 in
theorem wakes3_any (w : World) : Calls Try.prog 56 #[] w fun e w' => e = .returned (.bool true) ∧ Below w.heap.size w w' := by
  go_enter Try.func56, Try.ntmps56
  go_wp2_with (first | (go_at_call 36; refine (st_new _ 2 (by omega)).mono ?_; rintro e w1 ⟨p, own, rfl, h⟩; have H := hid (show St w own p Wk.D0 w1 from h); clear h) | (go_at_call_of 57 (Value.int .u8 97); refine (full_any _ 97).mono ?_; rintro e w2 ⟨v, rfl, ho, hb⟩; have HV := hid (H.out.apart ho); replace H := hid (H.out.on hb); clear ho hb) | (go_at_call_of 57 (Value.int .u8 98); refine (full_any _ 98).mono ?_; rintro e w2 ⟨v, rfl, ho, hb⟩; have HV := hid (H.out.apart ho); replace H := hid (H.out.on hb); clear ho hb) | (go_at_call_of 57 (Value.int .u8 99); refine (full_any _ 99).mono ?_; rintro e w2 ⟨v, rfl, ho, hb⟩; have HV := hid (H.out.apart ho); replace H := hid (H.out.on hb); clear ho hb) | (go_at_call 50; (first | refine (st_write H.out 0 (by omega) HV.out Wk.n0).mono ?_ | refine (st_write H.out 0 (by omega) HV.out Wk.n2).mono ?_ | refine (st_write H.out 1 (by omega) HV.out Wk.n3).mono ?_); simp only [Wk.e1, Wk.e3, Wk.e4]; rintro e w3 ⟨rfl, own', h, hO, hM⟩; clear H HV; have H := hid h; clear h hO hM) | (go_at_call 52; refine (st_flush H.out).mono ?_; simp only [Wk.e2]; rintro e w3 ⟨rfl, h, hM⟩; replace H := hid h; clear h hM) | (go_at_call 46; refine (st_off H.out 3 (by omega)).mono ?_; rintro e w3 ⟨rfl, h, hM⟩; replace H := hid h; clear h hM) | (go_at_call 48; refine (st_on H.out).mono ?_; rintro e w3 ⟨rfl, h, hM⟩; replace H := hid (show St w _ _ Wk.D5 _ from h); clear h hM) | (go_at_call_of 58 (Value.int .i64 0); refine (st_read H.out 0 (by omega)).mono ?_; rw [Wk.e5]; rintro e w3 ⟨v0, rfl, h, ho0, hb⟩; replace H := hid h; have ho0' := own_len ho0 Wk.P0_len rfl; obtain ⟨g0, cp0, rfl, hc01, hc02, -, -⟩ := own_slice ho0' (by omega); have HV0 := hid ho0'; clear h ho0 ho0' hb) | (go_at_call_of 58 (Value.int .i64 1); refine (st_read H.out 1 (by omega)).mono ?_; rw [Wk.e6]; rintro e w4 ⟨v1, rfl, h, ho1, hb⟩; replace H := hid h; have ho1' := own_len ho1 (fullPage_len 0) rfl; obtain ⟨g1, cp1, rfl, hc11, hc12, -, -⟩ := own_slice ho1' (by omega); have hcell := own_cell ho1' (i := 0) (u := .int .u8 0) (by kernel_rfl); have HV1 := hid ho1'; have HV0' := hid (own_below HV0.out hb); clear h ho1 ho1' hb HV0) | (with_reducible refine wpList_str 60 rfl 23 9 (.tmp 59) rfl ?hw 5 Try.underlying23 Try.underlying5 Try.underlying9 [98, 98, 98, 97, 97] ?hv ?_))
  case hv => exact (show (Wk.P0.take 5) = [98, 98, 98, 97, 97] by kernel_rfl) ▸ (own_sees (own_len HV0'.out Wk.P0_len.symm rfl)).take 5 (by rw [Wk.P0_len]; omega)
  · go_ret
    exact ⟨rfl, H.out.below⟩
  · rename_i h
    exact absurd (str_toList _) h
/-! ### what the calls come to, where the power stays on -/
theorem DS.write_ok {D : DS} (ho : D.off = false) (har : D.armed = 0) {a : Nat} (ha : a < D.safe.length) {l : List UInt8} (hl : l.length = 256) : D.write a l = (0, { D with waits := D.waits ++ [(a, l)], ops := DS.inc D.ops }) := by
  unfold DS.write DS.bad DS.op
  have h1 : ¬ ((D.safe.length : Int) ≤ (a : Int)) := by omega
  have h2 : ¬ ((a : Int) < 0) := by omega
  simp [h1, h2, hl, ho, har]
theorem DS.flush_ok {D : DS} (ho : D.off = false) (har : D.armed = 0) : D.Flush = (0, { D with safe := DS.flush D.safe D.waits, waits := [], ops := DS.inc D.ops }) := by
  unfold DS.Flush DS.op
  simp [ho, har]
theorem DS.read_ok {D : DS} (ho : D.off = false) {a : Nat} (ha : a < D.safe.length) : D.read a = (0, DS.look D.safe D.waits a) := by
  unfold DS.read
  have h1 : ¬ ((D.safe.length : Int) ≤ (a : Int)) := by omega
  have h2 : ¬ ((a : Int) < 0) := by omega
  simp [h1, h2, ho]
theorem DS.look_snoc (safe : List (List UInt8)) (ws : List (Nat × List UInt8)) (a : Nat) (p : List UInt8) (k : Nat) : DS.look safe (ws ++ [(a, p)]) k = if a = k then p else DS.look safe ws k := DS.seen_snoc _ _ _ _ _
/-- What is flushed reads as before. -/
theorem DS.look_flush : ∀ (ws : List (Nat × List UInt8)) (safe : List (List UInt8)) (k : Nat), k < safe.length → DS.look (DS.flush safe ws) [] k = DS.look safe ws k
  | [], safe, k, h => rfl
  | (a, p) :: r, safe, k, h => by
    have := DS.look_flush r (safe.set a p) k (by simpa using h)
    rw [DS.flush, this]
    unfold DS.look
    rw [DS.seen]
    congr 1
    by_cases e : a = k
    · subst e
      simp [List.getD_eq_getElem?_getD, h]
    · rw [if_neg e]
      simp [List.getD_eq_getElem?_getD, List.getElem?_set, e]
theorem DS.look_new (n k : Nat) (hk : k < n) : DS.look (DS.new n).safe (DS.new n).waits k = fullPage 0 := by
  unfold DS.look DS.new
  simp [DS.seen, List.getD_eq_getElem?_getD, List.getElem?_replicate, hk]
  rfl
end Go.Proofs.Ytoaeapnkefjpaaa
