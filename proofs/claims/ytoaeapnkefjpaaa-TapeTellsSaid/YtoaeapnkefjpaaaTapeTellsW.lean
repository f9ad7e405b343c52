/-
  TapeTells: the walk. Conditions: none beyond the given row's.
-/
import Derived.Test.YtoaeapnkefjpaaaTapeL4
import Derived.Test.YtoaeapnkefjpaaaTapeW5
import Derived.Laws.BitsAllLaws
import Derived.Deep.DeepMust
namespace Go.Proofs.Ytoaeapnkefjpaaa
open Go.RowKit
set_option linter.unusedVariables false
set_option linter.unusedSimpArgs false
/-- How many bytes the first k records take. -/
def tot (L : List (List UInt8)) (k : Nat) : Nat := (TS.encs 0 (L.take k)).length
theorem tot_zero (L : List (List UInt8)) : tot L 0 = 0 := by simp [tot, TS.encs]
theorem tot_succ {L : List (List UInt8)} {k : Nat} {r : List UInt8} (h : L[k]? = some r) : tot L (k + 1) = tot L k + 12 + r.length := by
  unfold tot
  rw [take_snoc h, TS.encs_snoc, List.length_append, List.length_cons, List.length_append, TS.framed_len]
  omega
theorem tot_fit {L : List (List UInt8)} {k : Nat} {r : List UInt8} (h : L[k]? = some r) : tot L k + 12 + r.length ≤ tot L L.length := by
  have := TS.encs_split L k r h
  unfold tot
  rw [List.take_length, this, List.length_append, List.length_append, List.length_cons, List.length_append, TS.framed_len]
  omega
theorem xor_byte (c : UInt8) (x : Int) (h1 : 1 ≤ x) (h2 : x ≤ 255) : ∃ y : UInt8, bits BinOp.xor IntKind.u8 (c.toNat : Int) x = (y.toNat : Int) ∧ y ≠ c := by
  have hc := c.toNat_lt
  obtain ⟨n, rfl⟩ : ∃ n : Nat, x = (n : Int) := ⟨x.toNat, by omega⟩
  rw [u8_xor_nat _ _ (by omega) (by omega)]
  have hlt : c.toNat ^^^ n < 2 ^ 8 := Nat.xor_lt_two_pow (by omega) (by omega)
  have e : (UInt8.ofNat (c.toNat ^^^ n)).toNat = c.toNat ^^^ n := by rw [UInt8.toNat_ofNat_of_lt' (by simp [UInt8.size]; omega)]
  refine ⟨UInt8.ofNat (c.toNat ^^^ n), by rw [e], fun h => ?_⟩
  rw [h] at e
  have e2 : c.toNat ^^^ c.toNat = c.toNat ^^^ (c.toNat ^^^ n) := by rw [← e]
  rw [← Nat.xor_assoc, Nat.xor_self, Nat.zero_xor] at e2
  omega
theorem Shows.take {w : World} {a : Option Addr} {n cap : Nat} {L : List (List UInt8)} (h : Shows w (.slice a n cap) L) {j : Nat} (hj : j ≤ L.length) : Shows w (.slice a j cap) (L.take j) := by
  obtain ⟨ao, c, hv, h1, h2, h3⟩ := h
  simp only [Value.slice.injEq] at hv
  obtain ⟨rfl, rfl, rfl⟩ := hv
  have hl : (L.take j).length = j := by rw [List.length_take]; omega
  refine ⟨a, cap, by rw [hl], by omega, h2, fun hp => ?_⟩
  obtain ⟨g, off, rfl, h4⟩ := h3 (by omega)
  refine ⟨g, off, rfl, fun i r hr => ?_⟩
  rw [List.getElem?_take] at hr
  split at hr
  · exact h4 i r hr
  · cases hr
theorem Shows.cap {w : World} {a : Option Addr} {n cap : Nat} {L : List (List UInt8)} (h : Shows w (.slice a n cap) L) : n = L.length ∧ L.length ≤ cap := by
  obtain ⟨ao, c, hv, h1, h2, h3⟩ := h
  simp only [Value.slice.injEq] at hv
  obtain ⟨rfl, rfl, rfl⟩ := hv
  exact ⟨rfl, h1⟩
/-- Between two records. -/
structure TlB (w wx : World) (p t : Nat) (own : Nat → Prop) (T : TS) (D : DS) (L : List (List UInt8)) (k : Nat) : Prop where
  tst : TSt w own p t T D wx
  holds : TS.Holds D T (L.take k)
  lo : T.lo = 0
  hi : T.hi = 9
  waits : D.waits.length ≤ 400 * k
  len : D.safe.length = 9
/-- Which record the place lies in, so far. -/
structure Which (L : List (List UInt8)) (n k j : Nat) : Prop where
  le : tot L j ≤ n
  zero : k = 0 → j = 0
  lt : 0 < k → j < k
  last : ∀ m, m < k → tot L m ≤ n → m ≤ j
theorem Which.start (L : List (List UInt8)) (n : Nat) : Which L n 0 0 := ⟨by rw [tot_zero]; omega, fun _ => rfl, fun h => by omega, fun m h => by omega⟩
theorem Which.here {L : List (List UInt8)} {n k j : Nat} (h : Which L n k j) (hk : tot L k ≤ n) : Which L n (k + 1) k := ⟨hk, fun h => by omega, fun _ => by omega, fun m hm _ => by omega⟩
theorem Which.past {L : List (List UInt8)} {n k j : Nat} (h : Which L n k j) (hk : ¬ tot L k ≤ n) : Which L n (k + 1) j := by
  refine ⟨h.le, fun h => by omega, fun _ => ?_, fun m hm hl => ?_⟩
  · by_cases e : k = 0
    · subst e; rw [tot_zero] at hk; omega
    · have := h.lt (by omega); omega
  · by_cases e : m = k
    · subst e; exact absurd hl hk
    · exact h.last m (by omega) hl
theorem Which.end {L : List (List UInt8)} {n j : Nat} (h : Which L n L.length j) (hn : n < tot L L.length) : ∃ r, L[j]? = some r ∧ tot L j ≤ n ∧ n < tot L j + 12 + r.length := by
  have h0 : 0 < L.length := by
    by_cases e : L.length = 0
    · rw [e, tot_zero] at hn; omega
    · omega
  have hj := h.lt h0
  obtain ⟨r, hr⟩ : ∃ r, L[j]? = some r := ⟨_, List.getElem?_eq_getElem hj⟩
  refine ⟨r, hr, h.le, ?_⟩
  have hs := tot_succ hr
  by_cases e : j + 1 = L.length
  · rw [← e, hs] at hn; exact hn
  · by_cases e2 : tot L (j + 1) ≤ n
    · have := h.last (j + 1) (by omega) e2; omega
    · omega
/-- The byte changed. -/
theorem TlB.spoil {w wx : World} {p t : Nat} {own : Nat → Prop} {T : TS} {D : DS} {L : List (List UInt8)} (h : TlB w wx p t own T D L L.length) {n j : Nat} {r : List UInt8} (hr : L[j]? = some r) (h1 : tot L j ≤ n) (h2 : n < tot L j + 12 + r.length) (h3 : n - tot L j = 0 ∨ 4 ≤ n - tot L j) (hn : n < 2000)
    {y c : UInt8} (hc : (DS.look D.safe D.waits (n / 256))[n % 256]? = some c) (hy : y ≠ c) :
    (D.write ((n / 256 : Nat) : Int) ((DS.look D.safe D.waits (n / 256)).set (n % 256) y)).1 = 0 ∧
    (((TS.opn (D.write ((n / 256 : Nat) : Int) ((DS.look D.safe D.waits (n / 256)).set (n % 256) y)).2 0 9).1 = 0 ∧ (TS.opn (D.write ((n / 256 : Nat) : Int) ((DS.look D.safe D.waits (n / 256)).set (n % 256) y)).2 0 9).2.1 = L.take j) ∨
      ((TS.opn (D.write ((n / 256 : Nat) : Int) ((DS.look D.safe D.waits (n / 256)).set (n % 256) y)).2 0 9).1 = 11 ∨ (TS.opn (D.write ((n / 256 : Nat) : Int) ((DS.look D.safe D.waits (n / 256)).set (n % 256) y)).2 0 9).1 = 12)) := by
  have hon := h.holds.on
  rw [h.lo, h.hi, List.take_length] at hon
  have hlen := h.len
  have hll := DS.look_len hon.live.ok.page hon.live.ok.wait (k := n / 256) (by omega)
  obtain ⟨k1, k2, k3, k4⟩ := TS.write_live hon.live (a := n / 256) (by omega) (l := (DS.look D.safe D.waits (n / 256)).set (n % 256) y) (by rw [List.length_set]; exact hll)
  refine ⟨k1, ?_⟩
  have := hon.tells (D' := (D.write ((n / 256 : Nat) : Int) ((DS.look D.safe D.waits (n / 256)).set (n % 256) y)).2) (y := y) hr h1 h2 h3 (by rw [Nat.zero_add, List.getD_eq_getElem?_getD, hc]; exact hy) k2 k3 (fun k => by rw [Nat.zero_add]; exact k4 k)
  exact this
theorem spoiled_open {w0 w : World} {own : Nat → Prop} {p : Nat} {D : DS} {M : List (List UInt8)} (h : St w0 own p D w) (ho : ((TS.opn D 0 9).1 = 0 ∧ (TS.opn D 0 9).2.1 = M) ∨ ((TS.opn D 0 9).1 = 11 ∨ (TS.opn D 0 9).1 = 12)) :
    Calls Try.prog 65 #[.pointer (some ⟨p, 0, none⟩), I 0, I 9] w fun e w' => ((e = .returned (.tuple #[.pointer none, .slice none 0 0, I 11]) ∨ e = .returned (.tuple #[.pointer none, .slice none 0 0, I 12])) ∨ ∃ t v, e = .returned (.tuple #[.pointer (some ⟨t, 0, none⟩), v, I 0]) ∧ Shows w' v M) ∧ Below w.heap.size w w' := by
  refine (tst_open h 0 9 (by omega) (by omega)).mono fun e w' hx => ?_
  rcases hx with ⟨h1, h2, h3⟩ | ⟨h1, t, v, h2, h3, h4, h5, h6⟩
  · rcases ho with ⟨e1, -⟩ | e1 | e1
    · exact absurd e1 h1
    · rw [e1] at h2; exact ⟨.inl (.inl h2), h3⟩
    · rw [e1] at h2; exact ⟨.inl (.inr h2), h3⟩
  · rcases ho with ⟨e1, e2⟩ | e1 | e1
    · rw [e2] at h5; exact ⟨.inr ⟨t, v, h2, h5.shows⟩, h6⟩
    · rw [h1] at e1; exact absurd e1 (by decide)
    · rw [h1] at e1; exact absurd e1 (by decide)
set_option maxRecDepth 100000 in
set_option maxHeartbeats 3200000 in
theorem tells_walk (w : World) (a0 : Option Addr) (cap0 : Nat) (L : List (List UInt8)) (h0 : Shows w (.slice a0 L.length cap0) L) (hz : ∀ r ∈ L, r.length ≤ 140737488355328) (a : Int) (ha : -9223372036854775808 ≤ a ∧ a ≤ 9223372036854775807) (x : Int) (hx : 0 ≤ x ∧ x ≤ 255) :
    Calls Try.prog 16 #[.slice a0 L.length cap0, I a, .int .u8 x] w fun e w' => e = .returned (.bool true) ∧ Below w.heap.size w w' := by
  have H0 := hid h0
  obtain ⟨_, _, _, m0⟩ := h0.len
  have HZ := hid hz
  unfold maxLen at m0
  clear h0 hz
  go_enter Try.func16, Try.ntmps16
  go_wp2_with (go_at_call 64; refine (wakes4_any _).mono ?_; rintro e w1 ⟨rfl, hb⟩; have HB := hid hb; clear hb)
  go_loopw [7, 26] (fun n i wr => ∃ (k m : Nat), k ≤ L.length ∧ n = I m ∧ i = I k ∧ m ≤ 2000 ∧ Hid (m = tot L k) ∧ Hid (Below w.heap.size w wr)) (fun _ i _ => L.length - (intOf i).toNat)
  case atStart => exact ⟨0, 0, by omega, rfl, rfl, by omega, hid (by rw [tot_zero]), HB⟩
  case round =>
    clear HB
    obtain ⟨k, m, hk, rfl, rfl, hm, HM, HB⟩ := hrel
    by_cases hlt : k < L.length
    · have f1 : decide ((k : Int) < (L.length : Int)) = true := decide_eq_true (by omega)
      obtain ⟨r, hr⟩ : ∃ r, L[k]? = some r := ⟨_, List.getElem?_eq_getElem hlt⟩
      obtain ⟨g, off, u, rfl, hc, hs⟩ := H0.out.at hr
      have hrz := HZ.out r (List.mem_of_getElem? hr)
      have hc' := (World.cell?_of_block (w := w) (a := ⟨g, off + k, none⟩) (HB.out.block g (cell_lt hc))).trans hc
      obtain ⟨au, cu, rfl, hul⟩ := hs.form0
      have HR := hid hr
      clear hc hs hr
      by_cases h6 : 2000 < m + (r.length + 12)
      · have f2 : decide ((2000 : Int) < (m : Int) + ((r.length : Int) + 12)) = true := decide_eq_true (by omega)
        go_wp2
        go_ret
        exact ⟨rfl, HB.out⟩
      · have f2 : decide ((2000 : Int) < (m : Int) + ((r.length : Int) + 12)) = false := decide_eq_false (by omega)
        go_wp2
        go_roundw
        case rel => exact ⟨k + 1, m + (r.length + 12), by omega, by go_num, by go_num, by omega, hid (by rw [tot_succ HR.out, HM.out]; omega), HB⟩
        case measure => simp [intOf]; omega
    · have hke : k = L.length := by omega
      subst hke
      have hcases : (a < 0 ∨ (m : Int) ≤ a ∨ x = 0 ∨ 40 < L.length) ∨ (0 ≤ a ∧ a < m ∧ 1 ≤ x ∧ L.length ≤ 40) := by omega
      rcases hcases with c | ⟨c1, c2, c3, c4⟩
      · have e1 : (decide (a < 0) = true) ∨ (decide (a < 0) = false ∧ decide ((m : Int) ≤ a) = true) ∨ (decide (a < 0) = false ∧ decide ((m : Int) ≤ a) = false ∧ (x == 0) = true) ∨ (decide (a < 0) = false ∧ decide ((m : Int) ≤ a) = false ∧ (x == 0) = false ∧ decide ((40 : Int) < (L.length : Int)) = true) := by
          simp only [decide_eq_true_eq, decide_eq_false_iff_not, beq_iff_eq, beq_eq_false_iff_ne]; omega
        clear c
        rcases e1 with e1 | ⟨e1, e2⟩ | ⟨e1, e2, e3⟩ | ⟨e1, e2, e3, e4⟩
        all_goals
          go_wp2
          go_ret
          exact ⟨rfl, HB.out⟩
      obtain ⟨n, rfl⟩ : ∃ n : Nat, a = (n : Int) := ⟨a.toNat, by omega⟩
      have e1 : decide ((n : Int) < 0) = false := decide_eq_false (by omega)
      have e2 : decide ((m : Int) ≤ (n : Int)) = false := decide_eq_false (by omega)
      have e3 : (x == 0) = false := by rw [beq_eq_false_iff_ne]; omega
      have e4 : decide ((40 : Int) < (L.length : Int)) = false := decide_eq_false (by omega)
      have hnm : n < m := by omega
      clear c1 c2 hlt
      go_wp2_with (go_at_call 36; refine (st_new _ 9 (by omega)).mono ?_; rintro e w2 ⟨p, own, rfl, h⟩; have HS := hid (show St w own p (DS.new 9) w2 from h.back HB.out); clear h HB)
      clear e1 e2 e3 e4
      have hon : TS.On (DS.new 9) 0 9 [] := TS.On.new (by omega) (by omega) (by omega) (by omega)
      have hop := tst_open_on (lo := 0) (hi := 9) HS.out hon
      have hop' : Calls Try.prog 65 #[.pointer (some ⟨p, 0, none⟩), I 0, I 9] w2 _ := hop
      refine hop'.mono ?_
      rintro e w3 ⟨t, v, rfl, ht, hlt, hrc, hb⟩
      obtain ⟨ao, co, rfl⟩ := hrc.form
      have HIN : Hid (TlB w w3 p t own ⟨0, 9, (TS.encs 0 []).length, ([] : List (List UInt8)).length, 0⟩ (DS.new 9) L 0) := hid ⟨ht, by rw [List.take_zero]; exact hon.holds, rfl, rfl, by decide, rfl⟩
      clear hon hop hop' ht hlt hrc hb HS
      rw [List.length_nil]
      go_wp2
      go_loopw [14, 15, 16, 65] (fun wh bg en i wr => ∃ (k j tj tk : Nat) (own : Nat → Prop) (T : TS) (D : DS), k ≤ L.length ∧ j ≤ L.length ∧ tj ≤ n ∧ tk ≤ 2000 ∧ wh = I j ∧ bg = I tj ∧ en = I tk ∧ i = I k ∧ Hid (tj = tot L j ∧ tk = tot L k) ∧ Hid (Which L n k j) ∧ Hid (TlB w wr p t own T D L k)) (fun _ _ _ i _ => L.length - (intOf i).toNat)
      case atStart => exact ⟨0, 0, 0, 0, _, _, _, by omega, by omega, by omega, by omega, rfl, rfl, rfl, rfl, hid ⟨by rw [tot_zero], by rw [tot_zero]⟩, hid (Which.start L n), HIN⟩
      case round =>
        clear HIN
        obtain ⟨k, j, tj, tk, own, T, D, hk, hj, htj, htk, rfl, rfl, rfl, rfl, HTJ, HW, HT⟩ := hrel
        by_cases hlt : k < L.length
        · have f1 : decide ((k : Int) < (L.length : Int)) = true := decide_eq_true (by omega)
          obtain ⟨r, hr⟩ : ∃ r, L[k]? = some r := ⟨_, List.getElem?_eq_getElem hlt⟩
          obtain ⟨g, off, u, rfl, hc, hs⟩ := H0.out.at hr
          have hbw := HT.out.tst.drum.below
          have hc' := (World.cell?_of_block (w := w) (a := ⟨g, off + k, none⟩) (hbw.block g (cell_lt hc))).trans hc
          have hs' := hs.below hbw
          obtain ⟨au, cu, rfl, hul⟩ := hs'.form0
          have hfit := tot_fit hr
          rw [← HM.out, ← HTJ.out.2] at hfit
          have hsz : T.size = 9 * 256 := by unfold TS.size; rw [HT.out.lo, HT.out.hi]
          have hps : T.pos = tk := by rw [HT.out.holds.pos, HTJ.out.2]; rfl
          have hap := tst_append_on HT.out.tst HT.out.holds hs' (by omega) (by omega) (by have := HT.out.waits; omega)
          have HAP := hid hap
          have HNX := hid (fun (own' : Nat → Prop) (T' : TS) (D' : DS) (w' : World) (x1 : TSt w own' p t T' D' w') (x2 : TS.Holds D' T' (L.take k ++ [r])) (x3 : T'.lo = T.lo) (x4 : T'.hi = T.hi) (x5 : D'.waits.length ≤ D.waits.length + 400) (x6 : D'.safe.length = D.safe.length) =>
            (⟨x1, by rw [take_snoc hr]; exact x2, x3.trans HT.out.lo, x4.trans HT.out.hi, by have := HT.out.waits; omega, x6.trans HT.out.len⟩ : TlB w w' p t own' T' D' L (k + 1)))
          have HTS := hid (tot_succ hr)
          clear hs' hbw hc hs hap hr hsz hps
          by_cases h6 : tk ≤ n
          · have f2 : decide ((tk : Int) ≤ (n : Int)) = true := decide_eq_true (by omega)
            go_wp2_with (go_at_call 66; refine HAP.out.mono ?_; rintro e w4 ⟨rfl, own', T', D', x1, x2, x3, x4, x5, x6, x7⟩; have HI2 := hid (HNX.out own' T' D' w4 x1 x2 x3 x4 x6 x7); clear x1 x2 x3 x4 x5 x6 x7)
            go_roundw
            case rel => exact ⟨k + 1, k, tk, tk + (r.length + 12), own', T', D', by omega, by omega, by omega, by omega, rfl, rfl, by go_num, by go_num, hid ⟨HTJ.out.2, by rw [HTS.out, HTJ.out.2]; omega⟩, hid (HW.out.here (by rw [← HTJ.out.2]; exact h6)), HI2⟩
            case measure => simp [intOf]; omega
          · have f2 : decide ((tk : Int) ≤ (n : Int)) = false := decide_eq_false (by omega)
            go_wp2_with (go_at_call 66; refine HAP.out.mono ?_; rintro e w4 ⟨rfl, own', T', D', x1, x2, x3, x4, x5, x6, x7⟩; have HI2 := hid (HNX.out own' T' D' w4 x1 x2 x3 x4 x6 x7); clear x1 x2 x3 x4 x5 x6 x7)
            go_roundw
            case rel => exact ⟨k + 1, j, tj, tk + (r.length + 12), own', T', D', by omega, by omega, by omega, by omega, rfl, rfl, by go_num, by go_num, hid ⟨HTJ.out.1, by rw [HTS.out, HTJ.out.2]; omega⟩, hid (HW.out.past (by rw [← HTJ.out.2]; exact h6)), HI2⟩
            case measure => simp [intOf]; omega
        · have hke : k = L.length := by omega
          subst hke
          have hq3 : (1 ≤ n - tj ∧ n - tj ≤ 3) ∨ (n - tj = 0 ∨ 4 ≤ n - tj) := by omega
          rcases hq3 with ⟨d1, d2⟩ | d
          · have f2 : decide ((1 : Int) ≤ (n : Int) - (tj : Int)) = true := decide_eq_true (by omega)
            have f3 : decide ((n : Int) - (tj : Int) ≤ 3) = true := decide_eq_true (by omega)
            have HBE := hid HT.out.tst.drum.below
            go_wp2
            go_ret
            exact ⟨rfl, HBE.out⟩
          have hff : (decide ((1 : Int) ≤ (n : Int) - (tj : Int)) = false) ∨ (decide ((1 : Int) ≤ (n : Int) - (tj : Int)) = true ∧ decide ((n : Int) - (tj : Int) ≤ 3) = false) := by
            simp only [decide_eq_true_eq, decide_eq_false_iff_not]; omega
          obtain ⟨r, hr, hle, hlt2⟩ := HW.out.end (by rw [← HM.out]; exact hnm)
          have hlv := HT.out.holds.on.live
          have hln := HT.out.len
          obtain ⟨q, hqd⟩ : ∃ q, q = n / 256 := ⟨_, rfl⟩
          have hqi : (n : Int) / 256 = (q : Int) := by omega
          have hrd := st_read HT.out.tst.drum (q : Int) (by omega)
          rw [DS.read_ok hlv.on (by omega)] at hrd
          have hPl := DS.look_len hlv.ok.page hlv.ok.wait (k := q) (by omega)
          obtain ⟨c, hc⟩ : ∃ c, (DS.look D.safe D.waits q)[n % 256]? = some c := ⟨_, List.getElem?_eq_getElem (by omega)⟩
          obtain ⟨y, hy, hyc⟩ := xor_byte c x c3 hx.2
          have hsp := HT.out.spoil hr hle hlt2 (by rw [← HTJ.out.1]; exact d) (by omega) (by rw [← hqd]; exact hc) hyc
          rw [← hqd] at hsp
          simp only [hPl] at hrd
          generalize hPd : DS.look D.safe D.waits q = P at *
          rw [← hqi] at hrd
          have hst := fun (w' : World) (g5 : Nat) (v : Value) (u : Value) (hg : wr.heap.size ≤ g5) (h1 : St w own p D w') => h1.keepBelow (n := wr.heap.size) (fun k hk => HT.out.tst.drum.at'.lt k hk) HT.out.tst.drum.below.size ((Below.refl _ w').setCell (p := ⟨g5, n % 256, none⟩) hg u)
          have HST := hid hst
          have HRD := hid hrd
          have HSP := hid hsp
          have HCY := hid hc
          have HPL := hid hPl
          have HQ := hid hqi
          have HOL := hid HT.out.tst.drum.at'.lt
          have HWT := hid HT.out.waits
          have HR2 := hid hr
          clear hrd hr hPd hPl hqd hqi hle hlt2 hlv hln d hlt hst hsp hc hyc
          rcases hff with f2 | ⟨f2, f3⟩
          all_goals
            go_wp2_with (first | (go_at_call 58; refine HRD.out.mono ?_; rintro e w5 ⟨v5, rfl, x1, x2, x3⟩; obtain ⟨g5, cp5, rfl, y1, y2, y3, y4⟩ := own_slice x2 (by omega); have hcell := own_cell x2 (i := n % 256) (u := B c) (by rw [List.getElem?_map, HCY.out]; rfl); have hfr := own_frozen x2 (n % 256); have X := hid (And.intro x1 (And.intro x2 (And.intro x3 y3))); clear x1 x2 x3 y3 y4))
            obtain ⟨x1, x2, x3, x4⟩ := X.out
            have st6 := HST.out w5 g5 (.bool true) (B y) x4 x1
            have hrow := own_set x2 (show n % 256 < 256 by omega) (B y)
            rw [← List.map_set] at hrow
            have hwr := st_write st6 (q : Int) (by have := HQ.out; omega) (v := .slice (some ⟨g5, 0, none⟩) 256 cp5) (l := P.set (n % 256) y) ⟨own_sees' hrow (by rw [List.length_set]; exact HPL.out), fun k hk ho => by have := HOL.out k ho; have e : g5 = k := Option.some.inj hk; omega⟩ (by have := HWT.out; omega)
            rw [HSP.out.1, ← HQ.out] at hwr
            clear x1 x2 x3 x4 X st6 hrow hcell hfr hy
            refine hwr.mono ?_
            rintro e w6 ⟨rfl, own6, z1, -, -⟩
            have hsp2 := HSP.out.2
            rw [← HQ.out] at hsp2
            have HOPN := hid (spoiled_open z1 hsp2)
            have HZ1 := hid z1.below
            clear hwr z1 hsp2
            go_wp2_with fail
            refine HOPN.out.mono ?_
            rintro e w7 ⟨(rfl | rfl) | ⟨t7, v7, rfl, hsh⟩, hb7⟩
            · have HB7 := hid (HZ1.out.trans (hb7.mono HZ1.out.size))
              clear hb7
              go_wp2
              go_ret
              exact ⟨rfl, HB7.out⟩
            · have HB7 := hid (HZ1.out.trans (hb7.mono HZ1.out.size))
              clear hb7
              go_wp2
              go_ret
              exact ⟨rfl, HB7.out⟩
            · have HB7 := hid (HZ1.out.trans (hb7.mono HZ1.out.size))
              obtain ⟨ao7, co7, rfl, hl7⟩ := hsh.len
              have hlj : (L.take j).length = j := by rw [List.length_take]; omega
              rw [hlj] at hsh ⊢
              have hal := alike_any w7 _ _ _ _ hsh ((H0.out.below HB7.out).take (j := j) (by omega))
              rw [decide_eq_true rfl] at hal
              have HAL := hid hal
              obtain ⟨go, oo, uu, rfl, -⟩ := H0.out.at HR2.out
              have hcp := H0.out.cap.2
              have hjc : (j : Int) ≤ (cap0 : Int) := by omega
              clear hb7 hal hsh hl7 hlj
              go_wp2_with (go_at_call 67; go_must (refine HAL.out.mono ?_); rintro e w8 ⟨rfl, m8, rfl⟩)
              go_ret
              exact ⟨rfl, HB7.out.trans ((below_drewN _ _).mono HB7.out.size)⟩
namespace tapeTells
theorem walkAll (a0 : Option Addr) (cap0 : Nat) (L : List (List UInt8)) {w : World} (h0 : Shows w (.slice a0 L.length cap0) L) (hz : ∀ r ∈ L, r.length ≤ 140737488355328) (a : Int) (ha : -9223372036854775808 ≤ a ∧ a ≤ 9223372036854775807) (x : Int) (hx : 0 ≤ x ∧ x ≤ 255) (w' : World) (e : w = w') :
    Calls Try.prog 16 #[.slice a0 L.length cap0, I a, .int .u8 x] w' fun e w'' => e = .returned (.bool true) ∧ Below w'.heap.size w' w'' := by
  subst e
  exact tells_walk w a0 cap0 L h0 hz a ha x hx
end tapeTells
end Go.Proofs.Ytoaeapnkefjpaaa
