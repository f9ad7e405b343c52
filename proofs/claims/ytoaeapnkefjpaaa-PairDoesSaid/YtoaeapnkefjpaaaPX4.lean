/-
  Part 4 of what PairDoes lean on: contracts of the functions that they reach, and plain lemmas. Conditions: those that each lemma names.
-/
import Derived.Test.YtoaeapnkefjpaaaPX3
namespace Go.Proofs.Ytoaeapnkefjpaaa
open Go.RowKit
set_option linter.unusedVariables false
set_option linter.unusedSimpArgs false
namespace Sum
theorem num_digs8 (s : Int) (h0 : 0 ≤ s) (h1 : s < 18446744073709551616) : ∀ j, j ≤ 8 → num (digs s j) = s / 256 ^ (8 - j) := by
  intro j
  induction j with
  | zero =>
    intro _
    have e : (256 : Int) ^ (8 - 0) = 18446744073709551616 := by decide
    rw [e]
    show (0 : Int) = _
    omega
  | succ j ih =>
    intro hj
    rw [digs_succ, num_snoc, ih (by omega)]
    unfold nst
    rw [dig_val, show 8 - j = (7 - j) + 1 from by omega, show 8 - (j + 1) = 7 - j from by omega, Int.pow_succ, ← Int.ediv_ediv_of_nonneg (by exact Int.le_of_lt (Int.pow_pos (by decide)))]
    omega
theorem num_of_be8 (s : Int) (h0 : 0 ≤ s) (h1 : s < 18446744073709551616) : num (be8 s) = s := by
  have := num_digs8 s h0 h1 8 (by omega)
  simpa [be8] using this
theorem add_tells (s : Int) (l : List UInt8) (i : Nat) (hi : i < l.length) (y : UInt8) (hy : y ≠ l[i]) : be8 (add s (l.set i y)) ≠ be8 (add s l) := by
  intro h
  have r1 := add_range s (l.set i y)
  have r2 := add_range s l
  have h2 : add s (l.set i y) = add s l := by
    rw [← num_of_be8 _ r1.1 (by omega), h, num_of_be8 _ r2.1 (by omega)]
  have e1 : l.set i y = l.take i ++ y :: l.drop (i + 1) := by rw [List.set_eq_take_append_cons_drop, if_pos hi]
  have e2 : l.take i ++ l[i] :: l.drop (i + 1) = l := by rw [List.getElem_cons_drop, List.take_append_drop]
  have b := lo_range s
  have n2 := tellsR (lo s) (l.take i) (l.drop (i + 1)) y l[i] hy
  rw [← e1, e2, ← lo_add, ← lo_add, h2] at n2
  exact n2 rfl
end Sum
namespace TS
/-- The records ahead are found, whatever stands behind. -/
theorem opened_skip : ∀ (recs : List (List UInt8)) (A rest : List UInt8) (c fuel : Nat) (acc : List (List UInt8)), (∀ r ∈ recs, r.length ≤ 65536) → recs.length ≤ fuel →
    opened (A ++ encs c recs ++ rest) fuel A.length c acc = opened (A ++ encs c recs ++ rest) (fuel - recs.length) (A ++ encs c recs).length (c + recs.length) (acc ++ recs)
  | [], A, rest, c, fuel, acc, _, hf => by simp [encs]
  | r :: rs, A, rest, c, fuel, acc, hr, hf => by
    obtain ⟨k, rfl⟩ : ∃ k, fuel = k + 1 := ⟨fuel - 1, by rw [List.length_cons] at hf; omega⟩
    have e1 : A ++ encs c (r :: rs) ++ rest = A ++ (1 :: (framed c r ++ r)) ++ (encs (c + 1) rs ++ rest) := by rw [encs]; simp
    have e2 : A ++ encs c (r :: rs) ++ rest = (A ++ (1 :: (framed c r ++ r))) ++ encs (c + 1) rs ++ rest := by rw [encs]; simp
    have e3 : A.length + 12 + r.length = (A ++ (1 :: (framed c r ++ r))).length := by simp only [List.length_append, List.length_cons, framed_len]; omega
    have hfd := found_enc (A := A) (rest := encs (c + 1) rs ++ rest) (c := c) (hr r (by simp))
    have h1 : opened (A ++ encs c (r :: rs) ++ rest) (k + 1) A.length c acc = opened (A ++ encs c (r :: rs) ++ rest) k (A.length + 12 + r.length) (c + 1) (acc ++ [r]) := by
      rw [opened, e1, hfd]
    rw [h1, e2, e3, opened_skip rs _ rest (c + 1) k (acc ++ [r]) (fun x hx => hr x (by simp [hx])) (by rw [List.length_cons] at hf; omega)]
    have e4 : A ++ (1 :: (framed c r ++ r)) ++ encs (c + 1) rs = A ++ encs c (r :: rs) := by rw [encs]; simp
    rw [e4, List.length_cons, show c + 1 + rs.length = c + (rs.length + 1) from by omega, show k + 1 - (rs.length + 1) = k - rs.length from by omega]
    simp
/-- A record with one byte changed is no record. -/
theorem found_changed {A rest r : List UInt8} {c j : Nat} {y : UInt8} (hr : r.length ≤ 65536) (hj : j = 0 ∨ 4 ≤ j) (hj2 : j < 12 + r.length) (hy : y ≠ (1 :: (framed c r ++ r)).getD j 0) :
    found (A ++ (1 :: (framed c r ++ r)).set j y ++ rest) A.length c = .no ∨ (∃ e, (e = 11 ∨ e = 12) ∧ found (A ++ (1 :: (framed c r ++ r)).set j y ++ rest) A.length c = .bad e) := by
  have hfl := framed_len c r
  rcases hj with rfl | hj
  · have hS : A ++ (1 :: (framed c r ++ r)).set 0 y ++ rest = A ++ (y :: (framed c r ++ r) ++ rest) := by simp
    rw [hS]
    generalize hT : framed c r ++ r ++ rest = T
    have hl : (A ++ (y :: (framed c r ++ r) ++ rest)).length = A.length + 12 + r.length + rest.length := by
      simp only [List.length_append, List.length_cons, hfl]; omega
    have h1 : (A ++ (y :: (framed c r ++ r) ++ rest)).getD A.length 0 = y := by
      rw [List.getD_eq_getElem?_getD, List.getElem?_append_right (Nat.le_refl _), Nat.sub_self]
      rfl
    have hy1 : y ≠ 1 := by simpa using hy
    unfold found
    rw [if_neg (by omega), h1]
    by_cases h0 : y = 0
    · exact .inl (by rw [if_pos h0])
    · refine .inr ⟨11, .inl rfl, ?_⟩
      rw [if_neg h0, if_neg (fun h => hy1 h.1)]
  · obtain ⟨k, rfl⟩ : ∃ k, j = k + 1 := ⟨j - 1, by omega⟩
    rw [List.set_cons_succ]
    have hy' : y ≠ (framed c r ++ r).getD k 0 := by simpa using hy
    -- what stands there: F ahead, R behind
    obtain ⟨F, R, hFR, hFl, hRl, hF3, hne⟩ : ∃ F R, (framed c r ++ r).set k y = F ++ R ∧ F.length = 11 ∧ R.length = r.length ∧ F.take 3 = size3 r.length ∧ framed c R ≠ F := by
      by_cases hk : k < 11
      · refine ⟨(framed c r).set k y, r, by rw [List.set_append_left _ _ (by omega)], by rw [List.length_set]; exact hfl, rfl, ?_, ?_⟩
        · rw [List.take_set, List.set_eq_of_length_le (by rw [List.length_take]; omega)]
          unfold framed
          exact List.take_left' (size3_len _)
        · intro e
          have e1 : ((framed c r).set k y)[k]? = some y := by rw [List.getElem?_set_self (by omega)]
          rw [← e] at e1
          rw [List.getD_eq_getElem?_getD, List.getElem?_append_left (by omega), e1] at hy'
          exact hy' rfl
      · have hkr : k - 11 < r.length := by omega
        refine ⟨framed c r, r.set (k - 11) y, by rw [List.set_append_right _ _ (by omega), hfl], hfl, by simp, ?_, ?_⟩
        · unfold framed
          exact List.take_left' (size3_len _)
        · intro e
          unfold framed at e
          rw [List.length_set] at e
          have e1 := List.append_cancel_left e
          refine Sum.add_tells _ r (k - 11) hkr y ?_ e1
          rw [List.getD_eq_getElem?_getD, List.getElem?_append_right (by omega), hfl, List.getElem?_eq_getElem hkr] at hy'
          simpa using hy'
    rw [hFR]
    obtain ⟨S, hS⟩ : ∃ S, S = A ++ (1 :: (F ++ R)) ++ rest := ⟨_, rfl⟩
    rw [← hS]
    have hl : S.length = A.length + 12 + r.length + rest.length := by
      rw [hS]; simp only [List.length_append, List.length_cons, hFl, hRl]; omega
    have hd : S.drop (A.length + 1) = F ++ (R ++ rest) := by
      rw [hS, List.append_assoc, ← List.drop_drop, List.drop_left]
      simp
    have h1 : S.getD A.length 0 = 1 := by
      rw [hS, List.append_assoc, List.getD_eq_getElem?_getD, List.getElem?_append_right (Nat.le_refl _), Nat.sub_self]
      rfl
    have h11 : (S.drop (A.length + 1)).take 11 = F := by
      rw [hd]
      exact List.take_left' hFl
    have h3 : (S.drop (A.length + 1)).take 3 = size3 r.length := by
      rw [hd, List.take_append_of_le_length (by omega)]
      exact hF3
    have hla : lenAt S A.length = r.length := by
      unfold lenAt
      rw [h3, num_size3 (by omega)]
    have h12 : (S.drop (A.length + 12)).take r.length = R := by
      have : S.drop (A.length + 12) = R ++ rest := by
        rw [show A.length + 12 = A.length + 1 + 11 from rfl, ← List.drop_drop, hd]
        exact List.drop_left' hFl
      rw [this]
      exact List.take_left' hRl
    refine .inr ⟨12, .inr rfl, ?_⟩
    unfold found
    rw [if_neg (by omega), if_neg (by rw [h1]; decide), hla, if_pos ⟨h1, hr, by omega⟩, h12, h11, if_neg hne]
theorem stretch_set {D D' : DS} (h : D.Ok) (h' : D'.Ok) {lo n a : Nat} (hn : lo + n ≤ D.safe.length) (hn' : lo + n ≤ D'.safe.length) (ha : a < n * 256) {y : UInt8}
    (hlook : ∀ k, DS.look D'.safe D'.waits k = if lo + a / 256 = k then (DS.look D.safe D.waits (lo + a / 256)).set (a % 256) y else DS.look D.safe D.waits k) : stretch D' lo n = (stretch D lo n).set a y := by
  have l1 := stretch_len h hn
  have l2 := stretch_len h' hn'
  apply List.ext_getElem?
  intro j
  by_cases hj : j < n * 256
  · rw [stretch_get h' hn' hj, hlook, List.getElem?_set]
    by_cases e : a / 256 = j / 256
    · rw [if_pos (by omega), List.getElem?_set]
      by_cases e2 : a % 256 = j % 256
      · have e3 : a = j := by omega
        subst e3
        have := DS.look_len h.page h.wait (k := lo + a / 256) (by omega)
        rw [if_pos rfl, if_pos (by omega), if_pos rfl, if_pos (by omega)]
      · rw [if_neg e2, if_neg (by omega), stretch_get h hn hj, e]
    · rw [if_neg (by omega), if_neg (by intro e2; exact e (by rw [e2])), stretch_get h hn hj]
  · rw [List.getElem?_eq_none (by omega), List.getElem?_eq_none (by rw [List.length_set]; omega)]
theorem encs_split (recs : List (List UInt8)) (i : Nat) (r : List UInt8) (hr : recs[i]? = some r) : encs 0 recs = encs 0 (recs.take i) ++ ((1 :: (framed i r ++ r)) ++ encs (i + 1) (recs.drop (i + 1))) := by
  have key : ∀ (l : List (List UInt8)) (c i : Nat) (r : List UInt8), l[i]? = some r → encs c l = encs c (l.take i) ++ ((1 :: (framed (c + i) r ++ r)) ++ encs (c + i + 1) (l.drop (i + 1))) := by
    intro l
    induction l with
    | nil => intro c i r h; simp at h
    | cons x l ih =>
      intro c i r h
      cases i with
      | zero =>
        simp only [List.getElem?_cons_zero, Option.some.injEq] at h
        subst h
        simp [encs]
      | succ i =>
        rw [List.take_succ_cons, encs, encs, List.drop_succ_cons, ih (c + 1) i r (by simpa using h), List.append_assoc, show c + 1 + i = c + (i + 1) from by omega]
  have := key recs 0 i r hr
  simpa using this
/-- The law. -/
theorem On.tells {D : DS} {lo hi : Nat} {recs : List (List UInt8)} (h : On D lo hi recs) {i a : Nat} {r : List UInt8} (hr : recs[i]? = some r) (h1 : (encs 0 (recs.take i)).length ≤ a) (h2 : a < (encs 0 (recs.take i)).length + 12 + r.length)
    (h3 : a - (encs 0 (recs.take i)).length = 0 ∨ 4 ≤ a - (encs 0 (recs.take i)).length) {y : UInt8} (hy : y ≠ (DS.look D.safe D.waits (lo + a / 256)).getD (a % 256) 0) {D' : DS} (hl' : Live D') (hs' : D'.safe = D.safe)
    (hlook : ∀ k, DS.look D'.safe D'.waits k = if lo + a / 256 = k then (DS.look D.safe D.waits (lo + a / 256)).set (a % 256) y else DS.look D.safe D.waits k) :
    ((TS.opn D' lo hi).1 = 0 ∧ (TS.opn D' lo hi).2.1 = recs.take i) ∨ ((TS.opn D' lo hi).1 = 11 ∨ (TS.opn D' lo hi).1 = 12) := by
  obtain ⟨rest, hb, -⟩ := h.bytes
  have hlt := h.lt
  have hle := h.le
  have hl := stretch_len h.live.ok (lo := lo) (n := hi - lo) (by omega)
  have hsp := encs_split recs i r hr
  obtain ⟨A, hA⟩ : ∃ A, A = encs 0 (recs.take i) := ⟨_, rfl⟩
  rw [← hA] at hsp h1 h2 h3
  obtain ⟨tail, ht⟩ : ∃ tail, tail = encs (i + 1) (recs.drop (i + 1)) ++ rest := ⟨_, rfl⟩
  have hS : stretch D lo (hi - lo) = A ++ (1 :: (framed i r ++ r)) ++ tail := by rw [hb, hsp, ht]; simp
  have hXl : (1 :: (framed i r ++ r)).length = 12 + r.length := by rw [List.length_cons, List.length_append, framed_len]; omega
  have hal : a < (hi - lo) * 256 := by rw [← hl, hS, List.length_append, List.length_append, hXl]; omega
  have hst := stretch_set h.live.ok hl'.ok (lo := lo) (n := hi - lo) (a := a) (by omega) (by rw [hs']; omega) hal hlook
  have hyg : y ≠ (1 :: (framed i r ++ r)).getD (a - A.length) 0 := by
    have e := stretch_get h.live.ok (lo := lo) (n := hi - lo) (by omega) hal
    rw [hS, List.append_assoc, List.getElem?_append_right h1, List.getElem?_append_left (by omega)] at e
    rw [List.getD_eq_getElem?_getD] at hy ⊢
    rw [e]
    exact hy
  rw [hS, List.append_assoc, List.set_append_right _ _ h1, List.set_append_left _ _ (by omega), ← List.append_assoc] at hst
  have hi' : i < recs.length := (List.getElem?_eq_some_iff.1 hr).1
  have hil : (recs.take i).length = i := by rw [List.length_take]; omega
  have hcnt := encs_count (recs.take i) 0
  rw [hil, ← hA] at hcnt
  have hsk := opened_skip (recs.take i) [] (((1 :: (framed i r ++ r)).set (a - A.length) y) ++ tail) 0 ((hi - lo) * 256 + 1) [] (fun x hx => h.small x (List.mem_of_mem_take hx)) (by rw [hil]; omega)
  rw [← hA, hil] at hsk
  simp only [List.nil_append, List.length_nil, Nat.zero_add] at hsk
  unfold TS.opn
  have g1 : ¬ ((lo : Int) < 0 ∨ (D'.safe.length : Int) < (hi : Int) ∨ (hi : Int) ≤ (lo : Int)) := by rw [hs']; omega
  rw [if_neg g1, if_neg (by simp [hl'.on])]
  simp only [Int.toNat_natCast]
  rw [hst, List.append_assoc, hsk, ← List.append_assoc]
  obtain ⟨f, hf⟩ : ∃ f, (hi - lo) * 256 + 1 - i = f + 1 := ⟨(hi - lo) * 256 - i, by omega⟩
  rw [hf, opened]
  rcases found_changed (A := A) (rest := tail) (c := i) (h.small r (List.mem_of_getElem? hr)) h3 (by omega) hyg with e | ⟨e, he, e2⟩
  · rw [e]; exact .inl ⟨rfl, rfl⟩
  · rw [e2]; exact .inr he
end TS
end Go.Proofs.Ytoaeapnkefjpaaa

namespace Go.Proofs.Ytoaeapnkefjpaaa
open Go.RowKit
set_option linter.unusedVariables false
set_option linter.unusedSimpArgs false
/-- All but block b stays. -/
structure AllBut (b : Nat) (w w' : World) : Prop where
  m : Mod (fun k => k = b) w w'
theorem AllBut.refl {b : Nat} (w : World) : AllBut b w w := ⟨Mod.refl _ _⟩
theorem AllBut.trans {b : Nat} (w w' w'' : World) (h : AllBut b w w') (k : AllBut b w' w'') : AllBut b w w'' := ⟨h.m.trans k.m⟩
theorem AllBut.sees {b : Nat} {w w' : World} (h : AllBut b w w') {v : Value} {l : List UInt8} (hv : Sees w v l) (hb : ∀ k, v.ownBlock = some k → k < w.heap.size ∧ k ≠ b) : Sees w' v l := hv.keep (fun k hk => h.m.block k (hb k hk).1 (hb k hk).2)
set_option maxRecDepth 100000 in
set_option maxHeartbeats 1600000 in
theorem wakes4_any (w : World) : Calls Try.prog 64 #[] w fun e w' => e = .returned (.bool true) ∧ Below w.heap.size w w' := by
  have k23 := fun (w : World) (C : Array Value) (n c : Nat) => Lib.run_convert_bytes_const (P := Try.prog) w 23 5 C n c Try.underlying23 Try.underlying5
  go_enter Try.func64, Try.ntmps64
  go_wp2_with (go_at_call 36; refine (st_new _ 3 (by omega)).mono ?_; rintro e w1 ⟨p, own, rfl, h⟩; have H := hid (show St w own p Wk4.D0 w1 from h); clear h)
  have hop := tst_open H.out 1 3 (by omega) (by omega)
  rw [Wk4.opn0] at hop
  refine hop.mono ?_
  rintro e w2 (⟨h1, -⟩ | ⟨-, t, v, rfl, ht, hlt, hrc, hb⟩)
  · exact absurd rfl h1
  obtain ⟨ao, co, rfl⟩ := hrc.form
  have HT := hid (show TSt w own p t Wk4.T0 Wk4.D0 w2 from ht)
  clear ht hrc hb hop H hlt
  rw [show (((0 : Int), ([] : List (List UInt8)), (0 : Nat), (0 : Nat)).snd.fst.length) = 0 from rfl]
  have hS := Sees.lit w2 Wk4.hi2 (2, 3) (by decide)
  have hcells : (Wk4.hi2.map B).toArray = #[Value.int .u8 104, Value.int .u8 105] := rfl
  rw [hcells] at hS
  have hb : Below w2.heap.size w2 (w2.alloc (.cells #[.int .u8 104, .int .u8 105] 5 (2, 3))) := (Below.refl _ _).alloc (Nat.le_refl _) _
  have hap := tst_append (HT.out.on hb) (v := .slice (some ⟨w2.heap.size, 0, none⟩) 2 2) (r := Wk4.hi2) hS (by decide)
  have hap2 : Calls Try.prog 66 #[.pointer (some ⟨t, 0, none⟩), .slice (some ⟨w2.heap.size, 0, none⟩) 2 2] (w2.alloc (.cells #[.int .u8 104, .int .u8 105] 5 (2, 3))) fun e w' => e = .returned (I 0) ∧ ∃ own', TSt w own' p t Wk4.T1 Wk4.D1 w' := hap.mono fun e w' hx => by
    obtain ⟨h1, own', h2, -⟩ := hx
    exact ⟨by rw [h1]; show Ending.returned (I Wk4.X1.1) = _; rw [Wk4.x1], own', h2⟩
  have HAP := hid hap2
  clear hS hcells hb hap hap2
  go_wp2_with (go_at_call 66; refine HAP.out.mono ?_; rintro e w4 ⟨rfl, own', ht⟩; have HT2 := hid ht; clear ht)
  have hops := ops_any w4 p own' Wk4.D1 HT2.out.drum.at'
  rw [Wk4.ops1] at hops
  refine hops.mono ?_
  rintro e w5 ⟨rfl, rfl⟩
  clear hops
  go_wp2_with fail
  have hrd := st_read HT2.out.drum 1 (by omega)
  rw [Wk4.rd1] at hrd
  refine hrd.mono ?_
  rintro e w6 ⟨v6, rfl, hst, ho, hb⟩
  have ho' : w6.ownsRow w4.heap.size 5 1 v6 256 (Wk4.P1.map B) := own_len ho Wk4.len1 rfl
  obtain ⟨g6, cap6, rfl, g1, g2, g3, g4⟩ := own_slice ho' (by decide)
  have HS6 := hid (own_sees' ho' Wk4.len1)
  have HB6 := hid (hst.below)
  clear hrd hst ho hb ho' HAP
  go_wp2_with fail
  obtain ⟨n0, hn0⟩ : ∃ n, n = w6.heap.size := ⟨_, rfl⟩
  have hgn : g6 < n0 := by omega
  have k1 : ∀ w', AllBut n0 w6.drew w' → (convert 23 9 (.slice (some ⟨g6, 0, none⟩) 14 cap6)).run Try.prog w' = .ok (.string (str (Wk4.P1.take 14))) w' := fun w' hh => run_str Try.underlying23 Try.underlying5 Try.underlying9 (hh.sees (by
    have h0 := HS6.out
    have := Sees.take (g := g6) (off := 0) (n := 256) (cap := cap6) (L := Wk4.P1) h0 14 (by rw [Wk4.len1]; omega)
    exact this.drew) (fun k hk => by have h2 : g6 = k := Option.some.inj hk; have h3 : w6.drew.heap.size = w6.heap.size := rfl; exact ⟨by omega, by omega⟩))
  have HN0 := hid hn0
  have hcap : (14 : Int) ≤ (cap6 : Int) := by omega
  clear hn0 g1 g2 g3 g4
  refine wp_region_order (AllBut n0) [] [(0,0),(1,0),(2,0),(3,0),(4,0),(5,0),(6,0),(7,0),(8,0),(9,0),(10,0),(11,1),(12,1),(13,1),(14,0),(15,0),(16,0),(17,0)] _ (by kernel_rfl) rfl AllBut.refl AllBut.trans (by kernel_rfl) (by simp only [pick, List.getElem?_toArray, List.getElem?_cons_zero, List.getElem?_cons_succ]; rfl) (fun c a d v w h => by cases d <;> exact h) ?_
  refine wpK_q (v := ?_) (a' := ?_) (by rfl) (fun w' hR => ?_) ?_ ?_
  rotate_left 2
  · go_simp; with_reducible rfl
  · simp only [Act.put, List.setIfInBounds_toArray, List.set_cons_zero, List.set_cons_succ]; rfl
  refine wpK_q (v := ?_) (a' := ?_) (by rfl) (fun w' hR => ?_) ?_ ?_
  rotate_left 2
  · go_simp; with_reducible rfl
  · simp only [Act.put, List.setIfInBounds_toArray, List.set_cons_zero, List.set_cons_succ]; rfl
  refine wpK_q (v := ?_) (a' := ?_) (by rfl) (fun w' hR => ?_) ?_ ?_
  rotate_left 2
  · go_simp; with_reducible rfl
  · simp only [Act.put, List.setIfInBounds_toArray, List.set_cons_zero, List.set_cons_succ]; rfl
  refine wpK_q (v := ?_) (a' := ?_) (by rfl) (fun w' hR => ?_) ?_ ?_
  rotate_left 2
  · go_simp; with_reducible rfl
  · simp only [Act.put, List.setIfInBounds_toArray, List.set_cons_zero, List.set_cons_succ]; rfl
  refine wpK_q (v := ?_) (a' := ?_) (by rfl) (fun w' hR => ?_) ?_ ?_
  rotate_left 2
  · go_simp; with_reducible rfl
  · simp only [Act.put, List.setIfInBounds_toArray, List.set_cons_zero, List.set_cons_succ]; rfl
  refine wpK_q (v := ?_) (a' := ?_) (by rfl) (fun w' hR => ?_) ?_ ?_
  rotate_left 2
  · go_simp; with_reducible rfl
  · simp only [Act.put, List.setIfInBounds_toArray, List.set_cons_zero, List.set_cons_succ]; rfl
  refine wpK_q (v := ?_) (a' := ?_) (by rfl) (fun w' hR => ?_) ?_ ?_
  rotate_left 2
  · go_simp; with_reducible rfl
  · simp only [Act.put, List.setIfInBounds_toArray, List.set_cons_zero, List.set_cons_succ]; rfl
  refine wpK_q (v := ?_) (a' := ?_) (by rfl) (fun w' hR => ?_) ?_ ?_
  rotate_left 2
  · go_simp; with_reducible rfl
  · simp only [Act.put, List.setIfInBounds_toArray, List.set_cons_zero, List.set_cons_succ]; rfl
  refine wpK_q (v := ?_) (a' := ?_) (by rfl) (fun w' hR => ?_) ?_ ?_
  rotate_left 2
  · go_simp; with_reducible rfl
  · simp only [Act.put, List.setIfInBounds_toArray, List.set_cons_zero, List.set_cons_succ]; rfl
  refine wpK_q (v := ?_) (a' := ?_) (by rfl) (fun w' hR => ?_) ?_ ?_
  rotate_left 2
  · go_simp; with_reducible rfl
  · simp only [Act.put, List.setIfInBounds_toArray, List.set_cons_zero, List.set_cons_succ]; rfl
  refine wpK_q (v := ?_) (a' := ?_) (by rfl) (fun w' hR => ?_) ?_ ?_
  rotate_left 2
  · go_simp; with_reducible rfl
  · simp only [Act.put, List.setIfInBounds_toArray, List.set_cons_zero, List.set_cons_succ]; rfl
  refine wpK_v (v := .slice (some ⟨w6.heap.size, 0, none⟩) 2 2) (w' := w6.drew.alloc (.cells #[.int .u8 104, .int .u8 105] 5)) (by rfl) (by go_simp) (fun _ => ⟨Mod.alloc _⟩) (by simp only [Act.put, List.setIfInBounds_toArray, List.set_cons_zero, List.set_cons_succ]; rfl) ?_
  refine wpK_v (v := .slice (some ⟨w6.heap.size, 0, none⟩) 2 2) (w' := w6.drew.alloc (.cells #[.int .u8 104, .int .u8 105] 5 (2, 3))) (by rfl) (by have hh := val_of (k23 w6.drew #[.int .u8 104, .int .u8 105] 2 2); exact hh) (fun _ => ⟨?_⟩) (by simp only [Act.put, List.setIfInBounds_toArray, List.set_cons_zero, List.set_cons_succ]; rfl) ?_
  · refine ⟨rfl, rfl, rfl, by simp, fun k hk ho => ?_⟩
    have h1 : w6.drew.heap.size = n0 := HN0.out.symm
    have h2 : (w6.drew.alloc (.cells #[.int .u8 104, .int .u8 105] 5)).heap.size = n0 + 1 := by simp [HN0.out]
    rw [Below.heap_alloc _ _ _ (by omega), Below.heap_alloc _ _ _ (by omega)]
  have hS := Sees.lit w6.drew Wk4.hi2 (2, 3) (by decide)
  have hb7 : Below w6.heap.size w6 (w6.drew.alloc (.cells #[.int .u8 104, .int .u8 105] 5 (2, 3))) := Ext.trans _ _ _ (Ext.drew w6) ((Below.refl _ _).alloc (Nat.le_refl _) _)
  have HS7 : Hid (Sees (w6.drew.alloc (.cells #[.int .u8 104, .int .u8 105] 5 (2, 3))) (.slice (some ⟨w6.heap.size, 0, none⟩) 2 2) Wk4.hi2) := hid hS
  have HB7 := hid hb7
  have hz7 : (w6.drew.alloc (.cells #[.int .u8 104, .int .u8 105] 5 (2, 3))).heap.size = n0 + 1 := by simp [HN0.out]
  generalize w6.drew.alloc (.cells #[.int .u8 104, .int .u8 105] 5 (2, 3)) = w7 at *
  clear hS hb7
  refine wpK_call Try.func95 (by kernel_rfl) rfl rfl (by rfl) #[B 1, I 0, .slice (some ⟨w6.heap.size, 0, none⟩) 2 2] (by simp only [List.map_toArray, List.map_cons, List.map_nil]; rfl) ?_
  refine (rframe_of w7 1 0 (by omega) _ Wk4.hi2 HS7.out (by decide)).mono ?_
  rintro e w8 ⟨v8, rfl, ho8, hb8⟩
  refine ⟨_, rfl, fun _ => ⟨Mod.of_below _ hb8⟩, ?_⟩
  have hs8 := own_sees ho8
  have hl8 := fun k hk => own_lt ho8 k hk
  rw [← Wk4.frame1] at hs8
  have k2 : ∀ w', AllBut n0 w8 w' → (convert 23 9 v8).run Try.prog w' = .ok (.string (str (Wk4.P1.take 14))) w' := fun w' hh => run_str Try.underlying23 Try.underlying5 Try.underlying9 (hh.sees hs8 (fun k hk => by have := hl8 k hk; exact ⟨this.2, by omega⟩))
  have HB8 := hid hb8
  clear ho8 hb8 hs8 hl8 k1 hz7
  refine wpK_q (v := ?_) (a' := ?_) (by rfl) (fun w' hR => ?_) ?_ ?_
  rotate_left 2
  · go_simp; with_reducible rfl
  · simp only [Act.put, List.setIfInBounds_toArray, List.set_cons_zero, List.set_cons_succ]; rfl
  refine wpK_q (v := ?_) (a' := ?_) (by rfl) (fun w' hR => ?_) ?_ ?_
  rotate_left 2
  · go_simp; with_reducible rfl
  · simp only [Act.put, List.setIfInBounds_toArray, List.set_cons_zero, List.set_cons_succ]; rfl
  refine wpK_q (v := ?_) (a' := ?_) (by rfl) (fun w' hR => ?_) ?_ ?_
  rotate_left 2
  · go_simp; with_reducible rfl
  · simp only [Act.put, List.setIfInBounds_toArray, List.set_cons_zero, List.set_cons_succ]; rfl
  refine wpK_q (v := ?_) (a' := ?_) (by rfl) (fun w' hR => ?_) ?_ ?_
  rotate_left 2
  · go_simp; with_reducible rfl
  · simp only [Act.put, List.setIfInBounds_toArray, List.set_cons_zero, List.set_cons_succ]; rfl
  refine wpK_done ?_
  clear k2
  go_wp2
  go_ret
  exact ⟨rfl, HB6.out.trans ((Ext.trans _ _ _ HB7.out HB8.out).mono HB6.out.size)⟩
end Go.Proofs.Ytoaeapnkefjpaaa
