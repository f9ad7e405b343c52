/-
  Part 4 of what TapeDoes leans on: contracts of the functions it reaches, and plain lemmas. Conditions: those that each lemma names.
-/
import Derived.Laws.CopyRow
import Derived.Laws.BitsAllLaws
import Derived.Deep.DeepMust
import Derived.Lib.AppendStr
import Derived.Deep.CutBlock
import Derived.Test.YtoaeapnkefjpaaaTDM3
import Derived.Test.YtoaeapnkefjpaaaTDM1
namespace Go.Proofs.Ytoaeapnkefjpaaa
open Go.RowKit
set_option linter.unusedVariables false
set_option linter.unusedSimpArgs false
namespace TS
/-- A drum whose power is on and stays on. -/
structure Live (D : DS) : Prop where
  ok : D.Ok
  on : D.off = false
  un : D.armed = 0
theorem stretch_get {D : DS} (h : D.Ok) {lo n : Nat} (hn : lo + n ≤ D.safe.length) {j : Nat} (hj : j < n * 256) : (stretch D lo n)[j]? = (DS.look D.safe D.waits (lo + j / 256))[j % 256]? := by
  have := rows_get (stretch_page h hn) (k := j / 256) (x := j / 256) (by rw [List.getElem?_range (by omega)]) (j := j % 256) (by omega)
  rw [← this]
  unfold stretch
  congr 1
  omega
theorem wr_live : ∀ (pages : List (List UInt8)) (D : DS) (a : Nat), Live D → (∀ p ∈ pages, p.length = 256) → a + pages.length ≤ D.safe.length →
    (wr D a pages).1 = 0 ∧ Live (wr D a pages).2 ∧ (wr D a pages).2.safe = D.safe ∧ ∀ k, DS.look (wr D a pages).2.safe (wr D a pages).2.waits k = if a ≤ k ∧ k < a + pages.length then pages.getD (k - a) [] else DS.look D.safe D.waits k
  | [], D, a, h, _, _ => ⟨rfl, h, rfl, fun k => by rw [if_neg (by simp)]; rfl⟩
  | p :: ps, D, a, h, hp, ha => by
    rw [List.length_cons] at ha
    have hw := DS.write_ok h.on h.un (a := a) (by omega) (hp p (by simp))
    have hok := h.ok.write (a : Int) p
    rw [wr, hw]
    simp only [if_true]
    rw [hw] at hok
    obtain ⟨h1, h2, h3, h4⟩ := wr_live ps _ (a + 1) ⟨hok, h.on, h.un⟩ (fun q hq => hp q (by simp [hq])) (by simp only; omega)
    refine ⟨h1, h2, h3, fun k => ?_⟩
    rw [h4 k]
    simp only
    rw [DS.look_snoc, List.length_cons]
    by_cases e : a = k
    · subst e
      rw [if_neg (by omega), if_pos rfl, if_pos (by omega), Nat.sub_self]
      rfl
    · rw [if_neg e]
      by_cases e2 : a + 1 ≤ k ∧ k < a + 1 + ps.length
      · rw [if_pos e2, if_pos (by omega)]
        have : k - a = (k - (a + 1)) + 1 := by omega
        rw [this, List.getD_cons_succ]
      · rw [if_neg e2, if_neg (by omega)]
theorem flush_live {D : DS} (h : Live D) : D.Flush.1 = 0 ∧ Live D.Flush.2 ∧ D.Flush.2.safe.length = D.safe.length ∧ ∀ k, k < D.safe.length → DS.look D.Flush.2.safe D.Flush.2.waits k = DS.look D.safe D.waits k := by
  have hf := DS.flush_ok h.on h.un
  have hok := h.ok.Flush
  rw [hf] at hok ⊢
  exact ⟨rfl, ⟨hok, h.on, h.un⟩, DS.flush_len _ _, fun k hk => DS.look_flush _ _ k hk⟩
theorem write_live {D : DS} (h : Live D) {a : Nat} (ha : a < D.safe.length) {l : List UInt8} (hl : l.length = 256) : (D.write a l).1 = 0 ∧ Live (D.write a l).2 ∧ (D.write a l).2.safe = D.safe ∧ ∀ k, DS.look (D.write a l).2.safe (D.write a l).2.waits k = if a = k then l else DS.look D.safe D.waits k := by
  have hw := DS.write_ok h.on h.un ha hl
  have hok := h.ok.write (a : Int) l
  rw [hw] at hok ⊢
  exact ⟨rfl, ⟨hok, h.on, h.un⟩, rfl, fun k => DS.look_snoc _ _ _ _ _⟩
set_option maxRecDepth 100000 in
/-- Where a piece of the stretch is laid anew. -/
theorem stretch_over {D D' : DS} (h : D.Ok) (h' : D'.Ok) {lo n q K : Nat} (hn : lo + n ≤ D.safe.length) (hn' : lo + n ≤ D'.safe.length) (hq : q + K ≤ n) {X : List UInt8} (hX : X.length = K * 256)
    (hin : ∀ i, i < K → DS.look D'.safe D'.waits (lo + (q + i)) = (X.drop (i * 256)).take 256) (hout : ∀ i, i < n → i < q ∨ q + K ≤ i → DS.look D'.safe D'.waits (lo + i) = DS.look D.safe D.waits (lo + i)) :
    stretch D' lo n = (stretch D lo n).take (q * 256) ++ X ++ (stretch D lo n).drop ((q + K) * 256) := by
  have l1 := stretch_len h hn
  have l2 := stretch_len h' hn'
  have hm : (q + K) * 256 ≤ n * 256 := Nat.mul_le_mul_right _ hq
  have hd : (q + K) * 256 = q * 256 + K * 256 := Nat.add_mul _ _ _
  apply List.ext_getElem?
  intro j
  by_cases hj : j < n * 256
  · rw [stretch_get h' hn' hj]
    have hlen1 : ((stretch D lo n).take (q * 256)).length = q * 256 := by rw [List.length_take, l1]; omega
    by_cases h1 : j < q * 256
    · rw [List.append_assoc, List.getElem?_append_left (by omega), List.getElem?_take, if_pos h1, stretch_get h hn hj, hout (j / 256) (by omega) (.inl (by omega))]
    · by_cases h2 : j < (q + K) * 256
      · rw [List.append_assoc, List.getElem?_append_right (by omega), hlen1, List.getElem?_append_left (by omega)]
        have := hin (j / 256 - q) (by omega)
        rw [show lo + (q + (j / 256 - q)) = lo + j / 256 from by omega] at this
        have e : (j / 256 - q) * 256 + j % 256 = j - q * 256 := by omega
        rw [this, List.getElem?_take, if_pos (Nat.mod_lt _ (by decide)), List.getElem?_drop, e]
      · rw [List.getElem?_append_right (by rw [List.length_append]; omega), List.length_append, hlen1, hX, List.getElem?_drop, hout (j / 256) (by omega) (.inr (by omega)), ← stretch_get h hn hj]
        have e : (q + K) * 256 + (j - (q * 256 + K * 256)) = j := by omega
        rw [e]
  · rw [List.getElem?_eq_none (by omega), List.getElem?_eq_none]
    simp only [List.length_append, List.length_take, List.length_drop, l1, hX]
    omega
/-- What stands behind a record: nothing, or a nought first. -/
def Stop (rest : List UInt8) : Prop := rest = [] ∨ rest.head? = some 0
set_option maxRecDepth 100000 in
set_option maxHeartbeats 800000 in
theorem doIt_live {D : DS} {T : TS} {r : List UInt8} (h : Live D) (hT : T.Ok D.safe.length) (hs : T.pos + 12 + r.length ≤ T.size) :
    (doIt D T r).1 = 0 ∧ (doIt D T r).2.2 = { T with pos := T.pos + 12 + r.length, count := T.count + 1 } ∧ Live (doIt D T r).2.1 ∧ (doIt D T r).2.1.safe.length = D.safe.length ∧
    ∃ rest, stretch (doIt D T r).2.1 T.lo (T.hi - T.lo) = (stretch D T.lo (T.hi - T.lo)).take T.pos ++ (1 :: (framed T.count r ++ r)) ++ rest ∧ Stop rest := by
  obtain ⟨t1, t2, t3, t4, -⟩ := hT
  obtain ⟨n, hn⟩ : ∃ n, n = T.hi - T.lo := ⟨_, rfl⟩
  have hsz : T.size = n * 256 := by rw [hn]; rfl
  obtain ⟨S, hS⟩ : ∃ S, S = stretch D T.lo n := ⟨_, rfl⟩
  have hSl : S.length = n * 256 := by rw [hS]; exact stretch_len h.ok (by omega)
  obtain ⟨q, hq⟩ : ∃ q, q = T.pos / 256 := ⟨_, rfl⟩
  obtain ⟨j, hj⟩ : ∃ j, j = T.pos % 256 := ⟨_, rfl⟩
  have hpos : T.pos = q * 256 + j := by omega
  have hj2 : j < 256 := by omega
  obtain ⟨P, hP⟩ : ∃ P, P = padded D T T.pos (body T r) := ⟨_, rfl⟩
  obtain ⟨tail, htail⟩ : ∃ tail, tail = (if T.pos + (12 + r.length) < T.size then [(0 : UInt8)] else []) := ⟨_, rfl⟩
  obtain ⟨Y, hY⟩ : ∃ Y, Y = framed T.count r ++ r := ⟨_, rfl⟩
  have hYl : Y.length = 11 + r.length := by rw [hY, List.length_append, framed_len]
  have hbody : body T r = 0 :: Y ++ tail := by unfold body; rw [hY, htail]
  obtain ⟨ah, hah⟩ : ∃ ah, ah = (S.drop (q * 256)).take j := ⟨_, rfl⟩
  have hahl : ah.length = j := by rw [hah, List.length_take, List.length_drop, hSl]; omega
  obtain ⟨z, hz⟩ : ∃ z, z = (256 - (ah ++ (0 :: Y ++ tail)).length % 256) % 256 := ⟨_, rfl⟩
  have hPe : P = ah ++ (0 :: Y ++ tail) ++ List.replicate z 0 := by
    rw [hP]
    unfold padded
    simp only []
    rw [← hn, ← hS, ← hq, ← hj, ← hah, hbody, ← hz]
  have htl : tail.length ≤ 1 ∧ (T.pos + (12 + r.length) < T.size → tail = [0]) ∧ (¬ T.pos + (12 + r.length) < T.size → tail = []) := by
    rw [htail]
    split
    · exact ⟨by simp, fun _ => rfl, fun h => absurd (by assumption) h⟩
    · exact ⟨by simp, fun h => absurd h (by assumption), fun _ => rfl⟩
  have hal : (ah ++ (0 :: Y ++ tail)).length = j + (12 + r.length) + tail.length := by
    rw [List.length_append, List.length_append, List.length_cons, hahl, hYl]; omega
  have hPl : P.length = j + (12 + r.length) + tail.length + z := by rw [hPe, List.length_append, hal, List.length_replicate]
  obtain ⟨K, hK⟩ : ∃ K, P.length = K * 256 := ⟨P.length / 256, by rw [hPl]; rw [hal] at hz; omega⟩
  have htl1 := htl.1
  have hroom : q * 256 + P.length ≤ n * 256 := by
    have h1 : T.pos + (12 + r.length) + tail.length ≤ n * 256 := by
      by_cases hr : T.pos + (12 + r.length) < T.size
      · rw [htl.2.1 hr]; simp only [List.length_cons, List.length_nil]; omega
      · rw [htl.2.2 hr]; simp only [List.length_nil]; omega
    rw [hPl]; rw [hal] at hz; omega
  have hqK : q + K ≤ n := by omega
  have hKpos : 0 < K := by omega
  have hpg : ∀ p ∈ pagesOf P K, p.length = 256 := by
    intro p hp
    unfold pagesOf at hp
    rw [List.mem_map] at hp
    obtain ⟨i, hi, rfl⟩ := hp
    rw [List.mem_range] at hi
    have := (page_of P K i hK hi).2
    rwa [Nat.mul_comm i 256] at this
  have hpl : (pagesOf P K).length = K := by unfold pagesOf; simp
  have hget : ∀ i, i < K → (pagesOf P K).getD i [] = (P.drop (i * 256)).take 256 := fun i hi => by
    rw [List.getD_eq_getElem?_getD, (page_of P K i hK hi).1]; rfl
  -- laid
  have hlay : layR D T T.pos (body T r) = wr D (T.lo + q) (pagesOf P K) := by
    unfold layR laid
    rw [if_neg (by simp [h.on]), ← hP, hK, Nat.mul_div_cancel _ (by decide), ← hq]
  obtain ⟨a1, a2, a3, a4⟩ := wr_live (pagesOf P K) D (T.lo + q) h hpg (by rw [hpl]; omega)
  rw [hpl] at a4
  rw [doIt_eq, hlay]
  generalize wr D (T.lo + q) (pagesOf P K) = X1 at *
  obtain ⟨e1, D1⟩ := X1
  simp only at a1 a2 a3 a4 ⊢
  subst a1
  obtain ⟨f1, f2, f3, f4⟩ := flush_live a2
  rw [if_neg (by simp)]
  generalize D1.Flush = X2 at *
  obtain ⟨e2, D2⟩ := X2
  simp only at f1 f2 f3 f4 ⊢
  subst f1
  rw [if_neg (by simp), ← hq]
  have hs2 : D2.safe.length = D.safe.length := by rw [f3, a3]
  have hmk : marked D2 T = (P.take 256).set j 1 := by
    unfold marked
    rw [← hq, ← hj, f4 _ (by rw [a3]; omega), a4, if_pos (by omega), Nat.sub_self, hget 0 hKpos]
    simp
  have hml : (marked D2 T).length = 256 := by rw [hmk, List.length_set, List.length_take]; omega
  obtain ⟨g1, g2, g3, g4⟩ := write_live f2 (a := T.lo + q) (by rw [hs2]; omega) hml
  generalize D2.write (T.lo + q : Nat) (marked D2 T) = X3 at *
  obtain ⟨e3, D3⟩ := X3
  simp only at g1 g2 g3 g4 ⊢
  subst g1
  rw [if_neg (by simp)]
  obtain ⟨k1, k2, k3, k4⟩ := flush_live g2
  generalize D3.Flush = X4 at *
  obtain ⟨e4, D4⟩ := X4
  simp only at k1 k2 k3 k4 ⊢
  subst k1
  rw [if_neg (by simp)]
  have hs4 : D4.safe.length = D.safe.length := by rw [k3, g3, hs2]
  refine ⟨rfl, rfl, k2, hs4, ?_⟩
  -- what each page reads
  have hlook : ∀ i, i < n → DS.look D4.safe D4.waits (T.lo + i) = if i = q then (P.take 256).set j 1 else if q ≤ i ∧ i < q + K then (P.drop ((i - q) * 256)).take 256 else DS.look D.safe D.waits (T.lo + i) := fun i hi => by
    rw [k4 _ (by rw [g3, hs2]; omega), g4]
    by_cases e : i = q
    · rw [if_pos e, if_pos (by omega), hmk]
    · rw [if_neg e, if_neg (by omega), f4 _ (by rw [a3]; omega), a4]
      by_cases e2 : q ≤ i ∧ i < q + K
      · rw [if_pos e2, if_pos (by omega), show T.lo + i - (T.lo + q) = i - q from by omega, hget _ (by omega)]
      · rw [if_neg e2, if_neg (by omega)]
  have hov := stretch_over (D := D) (D' := D4) (lo := T.lo) (n := n) (q := q) (K := K) h.ok k2.ok (by omega) (by rw [hs4]; omega) hqK (X := P.set j 1) (by rw [List.length_set]; exact hK)
    (fun i hi => by
      rw [hlook _ (by omega)]
      by_cases e : i = 0
      · subst e
        rw [if_pos (by omega), Nat.zero_mul, List.drop_zero, List.take_set]
      · rw [if_neg (by omega), if_pos (by omega), show q + i - q = i from by omega, List.drop_set_of_lt (by omega)])
    (fun i hi ho => by rw [hlook _ hi, if_neg (by omega), if_neg (by omega)])
  rw [← hS] at hov
  have hPs : P.set j 1 = ah ++ (1 :: Y ++ tail) ++ List.replicate z 0 := by
    rw [hPe, List.append_assoc, List.set_append_right _ _ (by omega), hahl, Nat.sub_self]
    simp
  have hcat : S.take (q * 256) ++ ah = S.take T.pos := by rw [hah, hpos, List.take_add]
  rw [← hn, ← hS, hov, hPs, ← hY]
  refine ⟨tail ++ List.replicate z 0 ++ S.drop ((q + K) * 256), ?_, ?_⟩
  · rw [← hcat]; simp
  · by_cases hr : T.pos + (12 + r.length) < T.size
    · rw [htl.2.1 hr]; exact .inr rfl
    · left
      have h0 := htl.2.2 hr
      rw [hal, h0] at hz
      rw [h0] at hPl
      rw [h0]
      simp only [List.length_nil, Nat.add_zero] at hPl hz
      have hz0 : z = 0 := by omega
      subst hz0
      rw [List.drop_of_length_le (by rw [hSl]; omega)]
      rfl
/-- Records one behind the other, as they are laid. -/
def encs : Nat → List (List UInt8) → List UInt8
  | _, [] => []
  | c, r :: rs => (1 :: (framed c r ++ r)) ++ encs (c + 1) rs
theorem encs_snoc : ∀ (rs : List (List UInt8)) (c : Nat) (r : List UInt8), encs c (rs ++ [r]) = encs c rs ++ (1 :: (framed (c + rs.length) r ++ r))
  | [], c, r => by simp [encs]
  | x :: rs, c, r => by
    rw [List.cons_append, encs, encs_snoc rs (c + 1) r, encs, List.append_assoc, List.length_cons, show c + 1 + rs.length = c + (rs.length + 1) from by omega]
theorem num_size3 {n : Nat} (hn : n < 16777216) : (Sum.num (size3 n)).toNat = n := by
  unfold size3
  simp only [Sum.num, Sum.nst, List.foldl_cons, List.foldl_nil, UInt8.toNat_ofNat']
  omega
theorem found_enc {A rest r : List UInt8} {c : Nat} (hr : r.length ≤ 65536) : found (A ++ (1 :: (framed c r ++ r)) ++ rest) A.length c = .yes r := by
  obtain ⟨S, hS⟩ : ∃ S, S = A ++ (1 :: (framed c r ++ r)) ++ rest := ⟨_, rfl⟩
  rw [← hS]
  have hl : S.length = A.length + 12 + r.length + rest.length := by
    rw [hS]; simp only [List.length_append, List.length_cons, framed_len]; omega
  have hd : S.drop (A.length + 1) = framed c r ++ (r ++ rest) := by
    rw [hS, List.append_assoc, ← List.drop_drop, List.drop_left]
    simp
  have h1 : S.getD A.length 0 = 1 := by
    rw [hS, List.append_assoc, List.getD_eq_getElem?_getD, List.getElem?_append_right (Nat.le_refl _), Nat.sub_self]
    rfl
  have h11 : (S.drop (A.length + 1)).take 11 = framed c r := by
    rw [hd]
    exact List.take_left' (framed_len c r)
  have h3 : (S.drop (A.length + 1)).take 3 = size3 r.length := by
    rw [hd, List.take_append_of_le_length (by rw [framed_len]; omega)]
    unfold framed
    exact List.take_left' (size3_len _)
  have hla : lenAt S A.length = r.length := by
    unfold lenAt
    rw [h3, num_size3 (by omega)]
  have h12 : (S.drop (A.length + 12)).take r.length = r := by
    have : S.drop (A.length + 12) = r ++ rest := by
      rw [show A.length + 12 = A.length + 1 + 11 from rfl, ← List.drop_drop, hd]
      exact List.drop_left' (framed_len c r)
    rw [this]
    exact List.take_left' rfl
  unfold found
  rw [if_neg (by omega), if_neg (by rw [h1]; decide), hla, if_pos ⟨h1, hr, by omega⟩, h12, h11, if_pos rfl]
theorem found_stop {A rest : List UInt8} {c : Nat} (h : Stop rest) : found (A ++ rest) A.length c = .no := by
  unfold found
  by_cases hl : (A ++ rest).length < A.length + 12
  · rw [if_pos hl]
  · rw [if_neg hl, if_pos]
    rcases h with rfl | h
    · rw [List.append_nil] at hl; omega
    · rw [List.getD_eq_getElem?_getD, List.getElem?_append_right (Nat.le_refl _), Nat.sub_self, ← List.head?_eq_getElem?, h]
      rfl
theorem opened_enc : ∀ (recs : List (List UInt8)) (A rest : List UInt8) (c fuel : Nat) (acc : List (List UInt8)), Stop rest → (∀ r ∈ recs, r.length ≤ 65536) → recs.length + 1 ≤ fuel →
    opened (A ++ encs c recs ++ rest) fuel A.length c acc = (0, acc ++ recs, (A ++ encs c recs).length, c + recs.length)
  | [], A, rest, c, fuel, acc, h, _, hf => by
    obtain ⟨k, rfl⟩ : ∃ k, fuel = k + 1 := ⟨fuel - 1, by simp only [List.length_nil] at hf; omega⟩
    simp only [encs, List.append_nil]
    rw [opened, found_stop h]
    rfl
  | r :: rs, A, rest, c, fuel, acc, h, hr, hf => by
    obtain ⟨k, rfl⟩ : ∃ k, fuel = k + 1 := ⟨fuel - 1, by rw [List.length_cons] at hf; omega⟩
    have e1 : A ++ encs c (r :: rs) ++ rest = A ++ (1 :: (framed c r ++ r)) ++ (encs (c + 1) rs ++ rest) := by rw [encs]; simp
    have e2 : A ++ encs c (r :: rs) ++ rest = (A ++ (1 :: (framed c r ++ r))) ++ encs (c + 1) rs ++ rest := by rw [encs]; simp
    have e3 : A.length + 12 + r.length = (A ++ (1 :: (framed c r ++ r))).length := by simp only [List.length_append, List.length_cons, framed_len]; omega
    rw [opened, e1, found_enc (hr r (by simp)), ← e1]
    simp only
    rw [e3, e2, opened_enc rs _ rest (c + 1) k (acc ++ [r]) h (fun x hx => hr x (by simp [hx])) (by rw [List.length_cons] at hf; omega)]
    rw [encs, List.length_cons]
    refine Prod.ext rfl (Prod.ext ?_ (Prod.ext ?_ ?_))
    · simp
    · simp only [List.append_assoc]
    · simp only; omega
end TS
end Go.Proofs.Ytoaeapnkefjpaaa

namespace Go.Proofs.Ytoaeapnkefjpaaa
open Go.RowKit
set_option linter.unusedVariables false
set_option linter.unusedSimpArgs false

theorem DS.op_on {D : DS} (h : D.op.off = false) : D.op.safe = D.safe ∧ D.op.waits = D.waits ∧ D.off = false := by
  have hoff : ∀ (E : DS) (k : Int), (E.Off k).off = true := fun E k => by
    unfold DS.Off
    cases e : E.off with
    | true => simp [e]
    | false => simp
  unfold DS.op at h ⊢
  split at h
  · rename_i h1
    rw [if_pos h1]
    split at h
    · rw [hoff] at h; cases h
    · rename_i h2
      rw [if_neg h2]
      exact ⟨rfl, rfl, h⟩
  · rename_i h1
    rw [if_neg h1]
    exact ⟨rfl, rfl, h⟩
theorem DS.write_done {D : DS} {a : Int} {l : List UInt8} (h : (D.write a l).1 = 0) : (D.write a l).2.safe = D.safe ∧ (D.write a l).2.waits = D.waits ++ [(a.toNat, l)] ∧ (D.write a l).2.off = false := by
  unfold DS.write at h ⊢
  split at h
  · cases h
  · rename_i h1
    rw [if_neg h1]
    split at h
    · cases h
    · rename_i h2
      rw [if_neg h2]
      simp only [] at h ⊢
      split at h
      · cases h
      · rename_i h3
        rw [if_neg h3]
        have h4 : (DS.op { D with waits := D.waits ++ [(a.toNat, l)] }).off = false := by simpa using h3
        obtain ⟨e1, e2, -⟩ := DS.op_on h4
        exact ⟨e1, e2, h4⟩
theorem DS.Flush_done {D : DS} (h : D.Flush.1 = 0) : D.Flush.2.safe = DS.flush D.safe D.waits ∧ D.Flush.2.waits = [] ∧ D.Flush.2.off = false := by
  unfold DS.Flush at h ⊢
  split at h
  · cases h
  · rename_i h1
    rw [if_neg h1]
    simp only [] at h ⊢
    split at h
    · cases h
    · rename_i h2
      rw [if_neg h2]
      have h3 : D.op.off = false := by simpa using h2
      obtain ⟨e1, e2, -⟩ := DS.op_on h3
      simp only [e1, e2]
      exact ⟨trivial, trivial, h3⟩
theorem DS.look_done {D : DS} {a : Nat} {l : List UInt8} (h : (D.write (a : Int) l).1 = 0) (k : Nat) : DS.look (D.write (a : Int) l).2.safe (D.write (a : Int) l).2.waits k = if a = k then l else DS.look D.safe D.waits k := by
  obtain ⟨e1, e2, -⟩ := DS.write_done h
  rw [e1, e2, Int.toNat_natCast]
  exact DS.look_snoc _ _ _ _ _
theorem DS.look_Flush {D : DS} (h : D.Flush.1 = 0) {k : Nat} (hk : k < D.safe.length) : DS.look D.Flush.2.safe D.Flush.2.waits k = DS.look D.safe D.waits k := by
  obtain ⟨e1, e2, -⟩ := DS.Flush_done h
  rw [e1, e2]
  exact DS.look_flush _ _ _ hk
theorem TS.look_wr_first : ∀ {ps : List (List UInt8)} {D : DS} {a : Nat}, (TS.wr D a ps).1 = 0 → ∀ k, k < a → DS.look (TS.wr D a ps).2.safe (TS.wr D a ps).2.waits k = DS.look D.safe D.waits k
  | [], D, a, h, k, hk => rfl
  | p :: ps, D, a, h, k, hk => by
    rw [TS.wr] at h ⊢
    by_cases e : (D.write (a : Int) p).1 = 0
    · rw [if_pos e] at h ⊢
      rw [TS.look_wr_first h k (by omega), DS.look_done e k, if_neg (by omega)]
    · rw [if_neg e] at h
      exact absurd h e
theorem TS.look_wr {D : DS} {a : Nat} {p : List UInt8} {ps : List (List UInt8)} (h : (TS.wr D a (p :: ps)).1 = 0) : DS.look (TS.wr D a (p :: ps)).2.safe (TS.wr D a (p :: ps)).2.waits a = p := by
  rw [TS.wr] at h ⊢
  by_cases e : (D.write (a : Int) p).1 = 0
  · rw [if_pos e] at h ⊢
    rw [TS.look_wr_first h a (by omega), DS.look_done e a, if_pos rfl]
  · rw [if_neg e] at h
    exact absurd h e
theorem TS.wr_one (D : DS) (a : Nat) (p : List UInt8) : TS.wr D a [p] = D.write (a : Int) p := by
  rw [TS.wr]
  by_cases e : (D.write (a : Int) p).1 = 0
  · rw [if_pos e, TS.wr]
    exact Prod.ext e.symm rfl
  · rw [if_neg e]
/-- The two writes of the document's Append. -/
def TS.ref2 (D : DS) (T : TS) (r : List UInt8) (b : List UInt8) (K : Nat) : Int × DS × TS :=
  let y1 := TS.rwr D (T.lo + T.pos / 256) (TS.pagesOf b K)
  if y1.1 ≠ 0 then (y1.1, y1.2, { T with sick := y1.1 }) else
  let y2 := TS.rwr y1.2 (T.lo + T.pos / 256) (TS.pagesOf ((b.set (T.pos % 256) 1).take 256) 1)
  if y2.1 ≠ 0 then (y2.1, y2.2, { T with sick := y2.1 }) else (0, y2.2, { T with pos := T.pos + 12 + r.length, count := T.count + 1 })
theorem TS.doIt_ref {D : DS} {T : TS} {r : List UInt8} (ho : D.off = false) (hlen : T.lo + T.pos / 256 < D.safe.length) {K : Nat} (hK : (TS.padded D T T.pos (TS.body T r)).length = K * 256) (hK0 : 0 < K) : TS.doIt D T r = TS.ref2 D T r (TS.padded D T T.pos (TS.body T r)) K := by
  obtain ⟨b, hb⟩ : ∃ b, b = TS.padded D T T.pos (TS.body T r) := ⟨_, rfl⟩
  have hlay : TS.layR D T T.pos (TS.body T r) = TS.wr D (T.lo + T.pos / 256) (TS.pagesOf b K) := by
    unfold TS.layR TS.laid
    rw [if_neg (by simp [ho]), ← hb]
    rw [← hb] at hK
    rw [hK, Nat.mul_div_cancel _ (by decide)]
  rw [← hb] at hK ⊢
  rw [TS.doIt_eq, hlay]
  clear hlay hb
  obtain ⟨p, ps, hps⟩ : ∃ p ps, TS.pagesOf b K = p :: ps := by
    obtain ⟨k, rfl⟩ : ∃ k, K = k + 1 := ⟨K - 1, by omega⟩
    unfold TS.pagesOf
    rw [List.range_succ_eq_map, List.map_cons]
    exact ⟨_, _, rfl⟩
  have hp : p = b.take 256 := by
    have := (page_of b K 0 hK hK0).1
    rw [hps] at this
    simpa using this
  unfold TS.ref2 TS.rwr
  rw [hps]
  by_cases e1 : (TS.wr D (T.lo + T.pos / 256) (p :: ps)).1 = 0
  rotate_left
  · simp only [e1, ne_eq, not_false_eq_true, if_true]
  have hlk := TS.look_wr e1
  have hl1 : (TS.wr D (T.lo + T.pos / 256) (p :: ps)).2.safe.length = D.safe.length := TS.wr_len _ _ _
  generalize TS.wr D (T.lo + T.pos / 256) (p :: ps) = X1 at *
  obtain ⟨c1, D1⟩ := X1
  simp only at e1 hlk hl1
  subst e1
  simp only [ne_eq, not_true_eq_false, if_false]
  by_cases e2 : D1.Flush.1 = 0
  rotate_left
  · simp only [e2, ne_eq, not_false_eq_true, if_true]
  have hlf := DS.look_Flush e2 (k := T.lo + T.pos / 256) (by rw [hl1]; exact hlen)
  generalize D1.Flush = X2 at *
  obtain ⟨c2, D2⟩ := X2
  simp only at e2 hlf
  subst e2
  simp only [ne_eq, not_true_eq_false, if_false]
  have hmk : TS.marked D2 T = (b.set (T.pos % 256) 1).take 256 := by
    unfold TS.marked
    rw [hlf, hlk, hp, List.take_set]
  have hpg : TS.pagesOf ((b.set (T.pos % 256) 1).take 256) 1 = [(b.set (T.pos % 256) 1).take 256] := by
    unfold TS.pagesOf
    simp [List.range_succ, List.take_take]
  rw [hmk, hpg, TS.wr_one]
  by_cases e3 : (D2.write (((T.lo + T.pos / 256 : Nat)) : Int) ((b.set (T.pos % 256) 1).take 256)).1 = 0
  · simp only [e3, not_true_eq_false, if_false]
  · simp only [e3, not_false_eq_true, if_true]
set_option maxRecDepth 100000 in
/-- The bytes that the document's Append lays are the program's. -/
theorem TS.padded_ref {D : DS} {T : TS} {r : List UInt8} (h : D.Ok) (hT : T.Ok D.safe.length) (hs : T.pos + 12 + r.length ≤ T.size) {K : Nat}
    (hK : K = (if T.pos + 12 + r.length = T.size then (T.pos + 12 + r.length - 1) / 256 else (T.pos + 12 + r.length) / 256) + 1 - T.pos / 256) :
    0 < K ∧ T.pos / 256 + K ≤ T.hi - T.lo ∧ (TS.padded D T T.pos (TS.body T r)).length = K * 256 ∧
    TS.padded D T T.pos (TS.body T r) = (TS.stretch D (T.lo + T.pos / 256) K).take (T.pos % 256) ++ (0 :: TS.framed T.count r ++ r) ++ List.replicate (K * 256 - (T.pos % 256 + 12 + r.length)) 0 := by
  obtain ⟨t1, t2, t3, t4, -⟩ := hT
  have hsz : T.size = (T.hi - T.lo) * 256 := rfl
  have hKp : 0 < K ∧ T.pos / 256 + K ≤ T.hi - T.lo ∧ T.pos % 256 + 12 + r.length ≤ K * 256 := by
    rw [hK]
    split <;> omega
  have hah : ((TS.stretch D T.lo (T.hi - T.lo)).drop (T.pos / 256 * 256)).take (T.pos % 256) = (TS.stretch D (T.lo + T.pos / 256) K).take (T.pos % 256) := by
    have e1 := TS.stretch_piece h (lo := T.lo) (n := T.hi - T.lo) (by omega) (a := T.pos / 256 * 256) (m := T.pos % 256) (by omega) (by omega)
    have e2 := TS.stretch_piece h (lo := T.lo + T.pos / 256) (n := K) (by omega) (a := 0) (m := T.pos % 256) (by omega) (by omega)
    rw [e1]
    rw [List.drop_zero, Nat.zero_div, Nat.add_zero, Nat.zero_mod, List.drop_zero] at e2
    rw [e2, show T.pos / 256 * 256 / 256 = T.pos / 256 by omega, show T.pos / 256 * 256 % 256 = 0 by omega, List.drop_zero]
  have hahl : ((TS.stretch D (T.lo + T.pos / 256) K).take (T.pos % 256)).length = T.pos % 256 := by
    rw [List.length_take, TS.stretch_len h (by omega)]
    omega
  have hbl := TS.body_len' T r
  obtain ⟨z, hz⟩ : ∃ z, TS.padded D T T.pos (TS.body T r) = (TS.stretch D (T.lo + T.pos / 256) K).take (T.pos % 256) ++ TS.body T r ++ List.replicate z 0 ∧ z = (256 - (T.pos % 256 + (TS.body T r).length) % 256) % 256 := by
    refine ⟨_, ?_, rfl⟩
    unfold TS.padded
    simp only
    rw [hah, List.length_append, hahl]
  obtain ⟨hz1, hz2⟩ := hz
  have hlen : (TS.padded D T T.pos (TS.body T r)).length = K * 256 := by
    rw [hz1, List.length_append, List.length_append, hahl, List.length_replicate, hz2, hK]
    split at hbl <;> split <;> omega
  refine ⟨hKp.1, hKp.2.1, hlen, ?_⟩
  have hbody : ∃ tl : Nat, TS.body T r = (0 :: TS.framed T.count r ++ r) ++ List.replicate tl 0 := by
    unfold TS.body
    by_cases e : T.pos + (12 + r.length) < T.size
    · rw [if_pos e]; exact ⟨1, rfl⟩
    · rw [if_neg e]; exact ⟨0, by simp⟩
  obtain ⟨tl, htl⟩ := hbody
  have hFl : (0 :: TS.framed T.count r ++ r).length = 12 + r.length := by
    rw [List.cons_append, List.length_cons, List.length_append, TS.framed_len]; omega
  rw [hz1, htl] at hlen ⊢
  simp only [List.length_append, List.length_replicate, hahl] at hlen
  rw [List.length_append] at hFl
  rw [show K * 256 - (T.pos % 256 + 12 + r.length) = tl + z by omega, ← List.replicate_append_replicate]
  simp only [List.append_assoc]
end Go.Proofs.Ytoaeapnkefjpaaa

namespace Go.Proofs.Ytoaeapnkefjpaaa
open Go.RowKit
set_option linter.unusedVariables false
set_option linter.unusedSimpArgs false

theorem seg_take {α : Type} (A ys : List α) (j n : Nat) (h1 : j + ys.length ≤ n) (h2 : n ≤ A.length) : (A.take j ++ ys ++ A.drop (j + ys.length)).take n = (A.take n).take j ++ ys ++ (A.take n).drop (j + ys.length) := by
  have e1 : A.drop (j + ys.length) = (A.take n).drop (j + ys.length) ++ A.drop n := by
    conv => lhs; rw [← List.take_append_drop n A]
    rw [List.drop_append_of_le_length (by rw [List.length_take]; omega)]
  have e2 : A.take j = (A.take n).take j := by rw [List.take_take, Nat.min_eq_left (by omega)]
  rw [e1, e2, ← List.append_assoc]
  refine List.take_left' ?_
  simp only [List.length_append, List.length_take, List.length_drop]
  omega
/-- copy into a row of one's own. -/
theorem own_copy {P : Program} {w : World} {base : Nat} {e : TypeId} {n g cap : Nat} {xs ys : List Value} (h : w.ownsRow base e 1 (.slice (some ⟨g, 0, none⟩) n cap) n xs) {j : Nat} (hj : j + ys.length ≤ n) {a : Addr} {sc : Nat} {dT sT ty : TypeId}
    (hu : P.underlying dT = some (.slice e)) (hs : (P.info? e).map (·.size) = some 1) (hsrc : ∀ i v, ys[i]? = some v → w.cell? (a.add i) = some v) (h1 : ∀ v ∈ ys, v.oneCell' = true) :
    ∃ w', (Builtin.copy_ #[dT, sT] ty #[.slice (some ⟨g, j, none⟩) (n - j) (cap - j), .slice (some a) ys.length sc]).run P w = .ok (goInt ys.length) w' ∧
      w'.ownsRow base e 1 (.slice (some ⟨g, 0, none⟩) n cap) n (xs.take j ++ ys ++ xs.drop (j + ys.length)) ∧ Mod (fun k => k = g) w w' := by
  obtain ⟨hl, h2⟩ := h
  rcases h2 with ⟨h0, _⟩ | ⟨g', cap', cur, hv, hb, hg, hnc, hcm, hcs, ht⟩
  · cases h0
  simp only [Value.slice.injEq, Option.some.injEq, Addr.mk.injEq] at hv
  obtain ⟨⟨rfl, _⟩, _, rfl⟩ := hv
  have hcp := run_copy_row (P := P) w dT sT ty e g j (n - j) (cap - j) a ys.length sc cur e ys hu hs hg (by show ys.length = min ys.length (n - j); omega) hsrc (by omega) h1
  refine ⟨_, hcp, ⟨by simp only [List.length_append, List.length_take, List.length_drop]; omega, .inr ⟨g, cap, _, rfl, by simpa using hb, setRow_heap w g cur _ e (0, 0) hg, hnc, hcm, ?_, ?_⟩⟩, Mod.setRow rfl⟩
  · simp only [List.size_toArray, List.length_append, List.length_take, List.length_drop, Array.length_toList]
    omega
  · rw [Nat.mul_one] at ht ⊢
    rw [List.toList_toArray, seg_take _ _ _ _ hj (by rw [Array.length_toList]; omega), ht]
/-- What the document's Append comes to. -/
def RDone (w0 : World) (t p n : Nat) (own0 : Nat → Prop) (X : Int × DS × TS) (e : Ending) (w' : World) : Prop :=
  e = .returned (I X.1) ∧ RTapeIn w' t p n X.2.2 ∧ ∃ own', RefAt w' p own' X.2.1 ∧ (∀ k, own' k → own0 k ∨ w0.heap.size ≤ k) ∧ Mod (fun k => own0 k ∨ k = t) w0 w'
theorem RTapeIn.set {w : World} {t p n : Nat} {T : TS} (h : RTapeIn w t p n T) (i : Nat) (u : Value) (T' : TS) (hok : T'.Ok n)
    (hc : (#[.pointer (some ⟨p, 0, none⟩), I T.lo, I T.hi, I T.pos, I T.count, I T.sick] : Array Value).setIfInBounds i u = #[.pointer (some ⟨p, 0, none⟩), I T'.lo, I T'.hi, I T'.pos, I T'.count, I T'.sick]) : RTapeIn (w.setCell ⟨t, i, none⟩ u) t p n T' :=
  ⟨hok, h.n2, by rw [heap_setCell_same w t i _ _ u h.ht, hc]⟩
set_option maxRecDepth 100000 in
set_option maxHeartbeats 3200000 in
theorem rtappend_small (w : World) (t p : Nat) (own : Nat → Prop) (T : TS) (D : DS) (v : Value) (r : List UInt8) (h : RTapeIn w t p D.safe.length T) (hd : RefAt w p own D) (ht : ¬ own t) (hv : Sees w v r) (hx : 65536 < r.length ∨ T.sick ≠ 0 ∨ T.size < T.pos + 12 + r.length ∨ D.off = true) :
    Calls Try.prog 73 #[.pointer (some ⟨t, 0, none⟩), v] w (RDone w t p D.safe.length own (TS.append D T r)) := by
  obtain ⟨b1, b2, b3, b4, b5, b6, b7⟩ := h.bd
  have same : ∀ (c : Int) (w1 : World), Below w.heap.size w w1 → RDone w t p D.safe.length own (c, D, T) (.returned (I c)) w1 := fun c w1 hb => ⟨rfl, h.below hb, own, hd.below hb, fun k hk => .inl hk, Mod.of_below _ hb⟩
  obtain ⟨av, cv, rfl, hrl⟩ := hv.form0
  have c5 := h.c5
  have c3 := h.c3
  have c2 := h.c2
  have c1 := h.c1
  have c0 := h.c0
  obtain ⟨as0, cs, d0, d3, d4, dfr⟩ := hd.cells
  have hfr := h.fr 5
  obtain ⟨Z, hZ⟩ : ∃ Z, Z = TS.append D T r := ⟨_, rfl⟩
  rw [← hZ]
  have HZ := hid hZ
  have SAME := hid same
  have H := hid h
  have HD := hid hd
  have HT := hid ht
  clear hZ same h hd ht hv dfr
  by_cases h1 : 65536 < r.length
  · have h1'' : decide ((65536 : Int) < (r.length : Int)) = true := decide_eq_true (by omega)
    have hz : Z = (3, D, T) := by rw [HZ.out]; unfold TS.append; rw [if_pos h1]
    clear HZ hx
    go_enter Try.func73, Try.ntmps73
    go_wp2_with fail
    go_ret
    rw [hz]
    exact SAME.out 3 w (Below.refl _ _)
  have h1' : decide ((65536 : Int) < (r.length : Int)) = false := decide_eq_false (by omega)
  by_cases h2 : T.sick = 0
  rotate_left
  · have h2b : (T.sick == 0) = false := by simpa using h2
    have hz : Z = (T.sick, D, T) := by rw [HZ.out]; unfold TS.append; rw [if_neg h1, if_pos h2]
    clear HZ h2 hx
    go_enter Try.func73, Try.ntmps73
    go_wp2_with fail
    go_ret
    rw [hz]
    exact SAME.out T.sick w (Below.refl _ _)
  rw [h2] at c5
  have hw0 : IntKind.i64.wrap ((T.hi : Int) - (T.lo : Int)) = (T.hi : Int) - (T.lo : Int) := IntWalk.i64_in _ (by omega)
  have hw00 : IntKind.i64.wrap (256 * ((T.hi : Int) - (T.lo : Int))) = (T.size : Int) := by rw [← b7]; exact IntWalk.i64_in _ (by omega)
  have hw1 : IntKind.i64.wrap ((T.pos : Int) + 12) = (T.pos : Int) + 12 := IntWalk.i64_in _ (by omega)
  have hw2 : IntKind.i64.wrap ((T.pos : Int) + 12 + (r.length : Int)) = (T.pos : Int) + 12 + (r.length : Int) := IntWalk.i64_in _ (by omega)
  have k1 : ∀ w', Ext w.drew w' → w'.cell? ⟨t, 1, none⟩ = some (I T.lo) := fun w' hh => (Ext.trans _ _ _ (Ext.drew w) hh).cell c1
  have k2 : ∀ w', Ext w.drew w' → w'.cell? ⟨t, 2, none⟩ = some (I T.hi) := fun w' hh => (Ext.trans _ _ _ (Ext.drew w) hh).cell c2
  by_cases h3 : T.size < T.pos + 12 + r.length
  · have h3' : decide ((T.size : Int) < (T.pos : Int) + 12 + (r.length : Int)) = true := decide_eq_true (by omega)
    have hz : Z = (22, D, T) := by rw [HZ.out]; unfold TS.append; rw [if_neg h1, if_neg (by simp [h2]), if_pos h3]
    clear HZ h2 hx b7
    go_enter Try.func73, Try.ntmps73
    go_wp2_with fail
    refine wp_region_order Ext [] [(0,0),(1,0),(2,0),(3,0),(4,0),(5,0),(6,0),(7,0),(8,0),(9,0),(10,0)] _ (by kernel_rfl) rfl Ext.refl Ext.trans (by kernel_rfl) (by simp only [pick, List.getElem?_toArray, List.getElem?_cons_zero, List.getElem?_cons_succ]; rfl) (fun c a d v w h => by cases d <;> exact h) ?_
    refine wpK_q (v := ?_) (a' := ?_) (by rfl) (fun w' hR => ?_) ?_ ?_
    rotate_left 2
    · go_simp; with_reducible rfl
    · simp only [Act.put, List.setIfInBounds_toArray, List.set_cons_zero, List.set_cons_succ]; rfl
    refine wpK_q (v := ?_) (a' := ?_) (by rfl) (fun w' hR => ?_) ?_ ?_
    rotate_left 2
    · go_simp; with_reducible rfl
    · simp only [Act.put, List.setIfInBounds_toArray, List.set_cons_zero, List.set_cons_succ]; rfl
    refine wpK_q (v := ?_) (a' := ?_) (by rfl) (fun w' hR => ?_) ?_ ?_
    rotate_left 2
    · go_simp; with_reducible rfl
    · simp only [Act.put, List.setIfInBounds_toArray, List.set_cons_zero, List.set_cons_succ]; rfl
    refine wpK_q (v := ?_) (a' := ?_) (by rfl) (fun w' hR => ?_) ?_ ?_
    rotate_left 2
    · go_simp; with_reducible rfl
    · simp only [Act.put, List.setIfInBounds_toArray, List.set_cons_zero, List.set_cons_succ]; rfl
    refine wpK_q (v := ?_) (a' := ?_) (by rfl) (fun w' hR => ?_) ?_ ?_
    rotate_left 2
    · go_simp; with_reducible rfl
    · simp only [Act.put, List.setIfInBounds_toArray, List.set_cons_zero, List.set_cons_succ]; rfl
    refine wpK_q (v := ?_) (a' := ?_) (by rfl) (fun w' hR => ?_) ?_ ?_
    rotate_left 2
    · go_simp; with_reducible rfl
    · simp only [Act.put, List.setIfInBounds_toArray, List.set_cons_zero, List.set_cons_succ]; rfl
    refine wpK_q (v := ?_) (a' := ?_) (by rfl) (fun w' hR => ?_) ?_ ?_
    rotate_left 2
    · go_simp; with_reducible rfl
    · simp only [Act.put, List.setIfInBounds_toArray, List.set_cons_zero, List.set_cons_succ]; rfl
    refine wpK_q (v := ?_) (a' := ?_) (by rfl) (fun w' hR => ?_) ?_ ?_
    rotate_left 2
    · go_simp; with_reducible rfl
    · simp only [Act.put, List.setIfInBounds_toArray, List.set_cons_zero, List.set_cons_succ]; rfl
    refine wpK_q (v := ?_) (a' := ?_) (by rfl) (fun w' hR => ?_) ?_ ?_
    rotate_left 2
    · go_simp; with_reducible rfl
    · simp only [Act.put, List.setIfInBounds_toArray, List.set_cons_zero, List.set_cons_succ]; rfl
    refine wpK_q (v := ?_) (a' := ?_) (by rfl) (fun w' hR => ?_) ?_ ?_
    rotate_left 2
    · go_simp; with_reducible rfl
    · simp only [Act.put, List.setIfInBounds_toArray, List.set_cons_zero, List.set_cons_succ]; rfl
    refine wpK_q (v := ?_) (a' := ?_) (by rfl) (fun w' hR => ?_) ?_ ?_
    rotate_left 2
    · go_simp; with_reducible rfl
    · simp only [Act.put, List.setIfInBounds_toArray, List.set_cons_zero, List.set_cons_succ]; rfl
    refine wpK_done ?_
    clear k1 k2
    go_wp2_with fail
    go_ret
    rw [hz]
    exact SAME.out 22 w.drew (Ext.drew w)
  have ho : D.off = true := by
    rcases hx with h | h | h | h
    · exact absurd h h1
    · exact absurd h2 h
    · exact absurd h h3
    · exact h
  have h3' : decide ((T.size : Int) < (T.pos : Int) + 12 + (r.length : Int)) = false := decide_eq_false (by omega)
  have hz : Z = (20, D, { T with sick := 20 }) := by rw [HZ.out]; unfold TS.append; rw [if_neg h1, if_neg (by simp [h2]), if_neg h3]; unfold TS.doIt; rw [if_pos ho]
  rw [ho] at d3
  clear HZ h2 hx b7 ho
  go_enter Try.func73, Try.ntmps73
  go_wp2_with fail
  refine wp_region_order Ext [] [(0,0),(1,0),(2,0),(3,0),(4,0),(5,0),(6,0),(7,0),(8,0),(9,0),(10,0)] _ (by kernel_rfl) rfl Ext.refl Ext.trans (by kernel_rfl) (by simp only [pick, List.getElem?_toArray, List.getElem?_cons_zero, List.getElem?_cons_succ]; rfl) (fun c a d v w h => by cases d <;> exact h) ?_
  refine wpK_q (v := ?_) (a' := ?_) (by rfl) (fun w' hR => ?_) ?_ ?_
  rotate_left 2
  · go_simp; with_reducible rfl
  · simp only [Act.put, List.setIfInBounds_toArray, List.set_cons_zero, List.set_cons_succ]; rfl
  refine wpK_q (v := ?_) (a' := ?_) (by rfl) (fun w' hR => ?_) ?_ ?_
  rotate_left 2
  · go_simp; with_reducible rfl
  · simp only [Act.put, List.setIfInBounds_toArray, List.set_cons_zero, List.set_cons_succ]; rfl
  refine wpK_q (v := ?_) (a' := ?_) (by rfl) (fun w' hR => ?_) ?_ ?_
  rotate_left 2
  · go_simp; with_reducible rfl
  · simp only [Act.put, List.setIfInBounds_toArray, List.set_cons_zero, List.set_cons_succ]; rfl
  refine wpK_q (v := ?_) (a' := ?_) (by rfl) (fun w' hR => ?_) ?_ ?_
  rotate_left 2
  · go_simp; with_reducible rfl
  · simp only [Act.put, List.setIfInBounds_toArray, List.set_cons_zero, List.set_cons_succ]; rfl
  refine wpK_q (v := ?_) (a' := ?_) (by rfl) (fun w' hR => ?_) ?_ ?_
  rotate_left 2
  · go_simp; with_reducible rfl
  · simp only [Act.put, List.setIfInBounds_toArray, List.set_cons_zero, List.set_cons_succ]; rfl
  refine wpK_q (v := ?_) (a' := ?_) (by rfl) (fun w' hR => ?_) ?_ ?_
  rotate_left 2
  · go_simp; with_reducible rfl
  · simp only [Act.put, List.setIfInBounds_toArray, List.set_cons_zero, List.set_cons_succ]; rfl
  refine wpK_q (v := ?_) (a' := ?_) (by rfl) (fun w' hR => ?_) ?_ ?_
  rotate_left 2
  · go_simp; with_reducible rfl
  · simp only [Act.put, List.setIfInBounds_toArray, List.set_cons_zero, List.set_cons_succ]; rfl
  refine wpK_q (v := ?_) (a' := ?_) (by rfl) (fun w' hR => ?_) ?_ ?_
  rotate_left 2
  · go_simp; with_reducible rfl
  · simp only [Act.put, List.setIfInBounds_toArray, List.set_cons_zero, List.set_cons_succ]; rfl
  refine wpK_q (v := ?_) (a' := ?_) (by rfl) (fun w' hR => ?_) ?_ ?_
  rotate_left 2
  · go_simp; with_reducible rfl
  · simp only [Act.put, List.setIfInBounds_toArray, List.set_cons_zero, List.set_cons_succ]; rfl
  refine wpK_q (v := ?_) (a' := ?_) (by rfl) (fun w' hR => ?_) ?_ ?_
  rotate_left 2
  · go_simp; with_reducible rfl
  · simp only [Act.put, List.setIfInBounds_toArray, List.set_cons_zero, List.set_cons_succ]; rfl
  refine wpK_q (v := ?_) (a' := ?_) (by rfl) (fun w' hR => ?_) ?_ ?_
  rotate_left 2
  · go_simp; with_reducible rfl
  · simp only [Act.put, List.setIfInBounds_toArray, List.set_cons_zero, List.set_cons_succ]; rfl
  refine wpK_done ?_
  clear k1 k2
  go_wp2_with fail
  go_ret
  rw [hz]
  have hok := H.out.ok
  have hset := (H.out.below (Ext.drew w)).set 5 (I 20) { T with sick := 20 } ⟨hok.lt, hok.le, hok.pos, hok.count, by show (-9223372036854775808 : Int) ≤ 20 ∧ (20 : Int) ≤ 9223372036854775807; omega⟩ rfl
  have hm : Mod (fun k => k = t) w (w.drew.setCell ⟨t, 5, none⟩ (I 20)) := (Mod.drew w).trans (Mod.set (own := fun k => k = t) (a := ⟨t, 5, none⟩) rfl)
  exact ⟨rfl, hset, own, HD.out.mod hm (fun k hk e => HT.out (e ▸ hk)), fun k hk => .inl hk, hm.mono (fun i _ e => .inr e)⟩
end Go.Proofs.Ytoaeapnkefjpaaa

namespace Go.Proofs.Ytoaeapnkefjpaaa
open Go.RowKit
set_option linter.unusedVariables false
set_option linter.unusedSimpArgs false
theorem TS.rwr_code (D : DS) (a : Nat) (ps : List (List UInt8)) : Code1 (TS.rwr D a ps).1 := by
  unfold TS.rwr
  split
  · exact TS.wr_code _ _ _
  · exact DS.Flush_code _
theorem TS.rwr_len (D : DS) (a : Nat) (ps : List (List UInt8)) : (TS.rwr D a ps).2.safe.length = D.safe.length := by
  unfold TS.rwr
  split
  · exact TS.wr_len _ _ _
  · exact (DS.Flush_len _).trans (TS.wr_len _ _ _)
theorem TS.rwr_waits (D : DS) (a : Nat) (ps : List (List UInt8)) : (TS.rwr D a ps).2.waits.length ≤ D.waits.length + ps.length := by
  unfold TS.rwr
  split
  · exact TS.wr_waits _ _ _
  · exact Nat.le_trans (DS.Flush_waits _) (TS.wr_waits _ _ _)
theorem RDone.fin {w W W' : World} {t p n : Nat} {own : Nat → Prop} {D' : DS} {T' : TS} {c : Int} (hr : Reffed' own p w D' W) (htp : RTapeIn W' t p n T') (hm : Mod (fun k => k = t) W W') (ht : ¬ own t) (htl : t < w.heap.size) : RDone w t p n own (c, D', T') (.returned (I c)) W' := by
  obtain ⟨own', h1, h2, h3⟩ := hr
  refine ⟨rfl, htp, own', h1.mod hm (fun k hk e => ?_), h2, (h3.mono (fun i _ e => .inl e)).trans (hm.mono (fun i _ e => .inr e))⟩
  subst e
  rcases h2 k hk with h | h
  · exact ht h
  · omega
theorem TS.ref2_bad {D D1 : DS} {T : TS} {r b : List UInt8} {K F : Nat} {c : Int} (hF : F = T.pos / 256) (h : (c, D1) = TS.rwr D (T.lo + F) (TS.pagesOf b K)) (hc : c ≠ 0) : TS.ref2 D T r b K = (c, D1, { T with sick := c }) := by
  subst hF
  unfold TS.ref2
  simp only [← h]
  rw [if_pos hc]
theorem TS.ref2_ok {D D1 D2 : DS} {T : TS} {r b : List UInt8} {K F j : Nat} {c : Int} (hF : F = T.pos / 256) (hj : j = T.pos % 256) (h : ((0 : Int), D1) = TS.rwr D (T.lo + F) (TS.pagesOf b K)) (h2 : (c, D2) = TS.rwr D1 (T.lo + F) (TS.pagesOf ((b.set j 1).take 256) 1)) :
    TS.ref2 D T r b K = if c ≠ 0 then (c, D2, { T with sick := c }) else (0, D2, { T with pos := T.pos + 12 + r.length, count := T.count + 1 }) := by
  subst hF
  subst hj
  unfold TS.ref2
  simp only [← h, ← h2, ne_eq, not_true_eq_false, if_false]
set_option maxRecDepth 100000 in
set_option maxHeartbeats 6400000 in
theorem rtappend_on (w : World) (t p : Nat) (own : Nat → Prop) (T : TS) (D : DS) (v : Value) (r : List UInt8) (h : RTapeIn w t p D.safe.length T) (hd : RefAt w p own D) (ht : ¬ own t) (hv : Sees w v r) (h1 : r.length ≤ 65536) (h2 : T.sick = 0) (h3 : T.pos + 12 + r.length ≤ T.size) (ho : D.off = false) (hN : D.waits.length + 20000 ≤ 1000000000) :
    Calls Try.prog 73 #[.pointer (some ⟨t, 0, none⟩), v] w (RDone w t p D.safe.length own (TS.doIt D T r)) := by
  obtain ⟨b1, b2, b3, b4, b5, b6, b7⟩ := h.bd
  obtain ⟨av, cv, rfl, hrl⟩ := hv.form0
  obtain ⟨K, hK⟩ : ∃ K, K = (if T.pos + 12 + r.length = T.size then (T.pos + 12 + r.length - 1) / 256 else (T.pos + 12 + r.length) / 256) + 1 - T.pos / 256 := ⟨_, rfl⟩
  obtain ⟨p1, p2, p3, p4⟩ := TS.padded_ref hd.ok h.ok h3 hK
  have hdo := TS.doIt_ref ho (by omega) p3 p1
  rw [p4] at hdo
  obtain ⟨Z, hZ⟩ : ∃ Z, Z = TS.doIt D T r := ⟨_, rfl⟩
  rw [← hZ] at hdo ⊢
  obtain ⟨F, hF⟩ : ∃ F, F = T.pos / 256 := ⟨_, rfl⟩
  obtain ⟨j, hj⟩ : ∃ j, j = T.pos % 256 := ⟨_, rfl⟩
  obtain ⟨E, hE⟩ : ∃ E, E = T.pos + 12 + r.length := ⟨_, rfl⟩
  obtain ⟨La, hLa⟩ : ∃ La, La = F + K - 1 := ⟨_, rfl⟩
  rw [← hF, ← hj] at hdo
  have q1 : (T.pos : Int) / 256 = (F : Int) := by omega
  have q2 : (T.pos : Int) - 256 * (F : Int) = (j : Int) := by omega
  have q3 : (T.pos : Int) + 12 + (r.length : Int) = (E : Int) := by omega
  have q4 : E = T.size ∨ E ≠ T.size := by omega
  have hjj : j < 256 := by omega
  have hFK : F + K ≤ T.hi - T.lo := by omega
  have hszE : E ≤ T.size := by omega
  have hLaE : (E = T.size → ((E : Int) - 1) / 256 = (La : Int)) ∧ (E ≠ T.size → (E : Int) / 256 = (La : Int)) := by
    constructor
    · intro e
      rw [← hE, if_pos e] at hK
      omega
    · intro e
      rw [← hE, if_neg e] at hK
      omega
  have hbn : ∀ q, q ≤ K → (TS.stretch D (T.lo + F) q).length = q * 256 := fun q hq => TS.stretch_len hd.ok (by omega)
  have c5 := h.c5
  have c3 := h.c3
  have c2 := h.c2
  have c1 := h.c1
  have c0 := h.c0
  rw [h2] at c5
  obtain ⟨as0, cs, d0, d3, d4, dfr⟩ := hd.cells
  rw [ho] at d3
  have h1' : decide ((65536 : Int) < (r.length : Int)) = false := decide_eq_false (by omega)
  have h3' : decide ((T.size : Int) < (E : Int)) = false := decide_eq_false (by omega)
  have hw0 : IntKind.i64.wrap ((T.hi : Int) - (T.lo : Int)) = (T.hi : Int) - (T.lo : Int) := IntWalk.i64_in _ (by omega)
  have hw00 : IntKind.i64.wrap (256 * ((T.hi : Int) - (T.lo : Int))) = (T.size : Int) := by rw [← b7]; exact IntWalk.i64_in _ (by omega)
  have hw1 : IntKind.i64.wrap ((T.pos : Int) + 12) = (T.pos : Int) + 12 := IntWalk.i64_in _ (by omega)
  have hw2 : IntKind.i64.wrap ((T.pos : Int) + 12 + (r.length : Int)) = (E : Int) := by rw [q3]; exact IntWalk.i64_in _ (by omega)
  have k1 : ∀ w', Ext w.drew w' → w'.cell? ⟨t, 1, none⟩ = some (I T.lo) := fun w' hh => (Ext.trans _ _ _ (Ext.drew w) hh).cell c1
  have k2 : ∀ w', Ext w.drew w' → w'.cell? ⟨t, 2, none⟩ = some (I T.hi) := fun w' hh => (Ext.trans _ _ _ (Ext.drew w) hh).cell c2
  have HDO := hid hdo
  have H := hid h
  have HD := hid hd
  have HT := hid ht
  have HV := hid hv
  have HBN := hid hbn
  have HLE := hid hLaE
  have hnum : T.pos < 2000000 ∧ E < 2000000 ∧ F < 5000 ∧ K < 5000 ∧ T.lo < 5000 ∧ T.size < 2000000 ∧ F + K = La + 1 ∧ 0 < K ∧ 256 * F + j = T.pos ∧ j + 12 + r.length ≤ K * 256 ∧ E = 256 * F + j + 12 + r.length := by
    have : j + 12 + r.length ≤ K * 256 := by
      have := congrArg List.length p4
      rw [p3] at this
      simp only [List.length_append, List.length_take, List.length_replicate, List.length_cons, TS.framed_len] at this
      rw [← hF, ← hj, hbn K (Nat.le_refl _)] at this
      omega
    omega
  have HNUM := hid hnum
  have HSK := hid h2
  have HFJ := hid (And.intro hF hj)
  have hw3 : IntKind.i64.wrap (256 * (F : Int)) = 256 * (F : Int) := IntWalk.i64_in _ (by omega)
  have hw5 : IntKind.i64.wrap ((T.pos : Int) - 256 * (F : Int)) = (j : Int) := by rw [q2]; exact IntWalk.i64_in _ (by omega)
  clear hdo h hd ht hv hbn hLaE dfr p3 p4 hZ hF hj hE hLa hK b7 h2 ho q2 q3
  go_enter Try.func73, Try.ntmps73
  go_wp2_with fail
  refine wp_region_order Ext [] [(0,0),(1,0),(2,0),(3,0),(4,0),(5,0),(6,0),(7,0),(8,0),(9,0),(10,0)] _ (by kernel_rfl) rfl Ext.refl Ext.trans (by kernel_rfl) (by simp only [pick, List.getElem?_toArray, List.getElem?_cons_zero, List.getElem?_cons_succ]; rfl) (fun c a d v w h => by cases d <;> exact h) ?_
  refine wpK_q (v := ?_) (a' := ?_) (by rfl) (fun w' hR => ?_) ?_ ?_
  rotate_left 2
  · go_simp; with_reducible rfl
  · simp only [Act.put, List.setIfInBounds_toArray, List.set_cons_zero, List.set_cons_succ]; rfl
  refine wpK_q (v := ?_) (a' := ?_) (by rfl) (fun w' hR => ?_) ?_ ?_
  rotate_left 2
  · go_simp; with_reducible rfl
  · simp only [Act.put, List.setIfInBounds_toArray, List.set_cons_zero, List.set_cons_succ]; rfl
  refine wpK_q (v := ?_) (a' := ?_) (by rfl) (fun w' hR => ?_) ?_ ?_
  rotate_left 2
  · go_simp; with_reducible rfl
  · simp only [Act.put, List.setIfInBounds_toArray, List.set_cons_zero, List.set_cons_succ]; rfl
  refine wpK_q (v := ?_) (a' := ?_) (by rfl) (fun w' hR => ?_) ?_ ?_
  rotate_left 2
  · go_simp; with_reducible rfl
  · simp only [Act.put, List.setIfInBounds_toArray, List.set_cons_zero, List.set_cons_succ]; rfl
  refine wpK_q (v := ?_) (a' := ?_) (by rfl) (fun w' hR => ?_) ?_ ?_
  rotate_left 2
  · go_simp; with_reducible rfl
  · simp only [Act.put, List.setIfInBounds_toArray, List.set_cons_zero, List.set_cons_succ]; rfl
  refine wpK_q (v := ?_) (a' := ?_) (by rfl) (fun w' hR => ?_) ?_ ?_
  rotate_left 2
  · go_simp; with_reducible rfl
  · simp only [Act.put, List.setIfInBounds_toArray, List.set_cons_zero, List.set_cons_succ]; rfl
  refine wpK_q (v := ?_) (a' := ?_) (by rfl) (fun w' hR => ?_) ?_ ?_
  rotate_left 2
  · go_simp; with_reducible rfl
  · simp only [Act.put, List.setIfInBounds_toArray, List.set_cons_zero, List.set_cons_succ]; rfl
  refine wpK_q (v := ?_) (a' := ?_) (by rfl) (fun w' hR => ?_) ?_ ?_
  rotate_left 2
  · go_simp; with_reducible rfl
  · simp only [Act.put, List.setIfInBounds_toArray, List.set_cons_zero, List.set_cons_succ]; rfl
  refine wpK_q (v := ?_) (a' := ?_) (by rfl) (fun w' hR => ?_) ?_ ?_
  rotate_left 2
  · go_simp; with_reducible rfl
  · simp only [Act.put, List.setIfInBounds_toArray, List.set_cons_zero, List.set_cons_succ]; rfl
  refine wpK_q (v := ?_) (a' := ?_) (by rfl) (fun w' hR => ?_) ?_ ?_
  rotate_left 2
  · go_simp; with_reducible rfl
  · simp only [Act.put, List.setIfInBounds_toArray, List.set_cons_zero, List.set_cons_succ]; rfl
  refine wpK_q (v := ?_) (a' := ?_) (by rfl) (fun w' hR => ?_) ?_ ?_
  rotate_left 2
  · go_simp; with_reducible rfl
  · simp only [Act.put, List.setIfInBounds_toArray, List.set_cons_zero, List.set_cons_succ]; rfl
  refine wpK_done ?_
  clear k1 k2
  have HB0 : Hid (Below w.heap.size w w.drew) := hid (Ext.drew w)
  have H0 : Hid (RTapeIn w.drew t p D.safe.length T) := hid (H.out.below (Ext.drew w))
  have HD0 : Hid (RefAt w.drew p own D) := hid (HD.out.below (Ext.drew w))
  have hcell : w.drew.cell? ⟨t, 3, none⟩ = some (I T.pos) ∧ w.drew.cell? ⟨t, 0, none⟩ = some (.pointer (some ⟨p, 0, none⟩)) ∧ w.drew.cell? ⟨p, 3, none⟩ = some (.bool (!false)) := ⟨c3, c0, d3⟩
  obtain ⟨c3', c0', d3'⟩ := hcell
  clear c0 c1 c2 c3 c5 d0 d3 d4
  generalize w.drew = wd at *
  have hcase : (((E : Int) == (T.size : Int)) = true ∧ ((E : Int) - 1) / 256 = (La : Int)) ∨ (((E : Int) == (T.size : Int)) = false ∧ (E : Int) / 256 = (La : Int)) := by
    rcases q4 with e | e
    · exact .inl ⟨by rw [e]; exact beq_self_eq_true _, HLE.out.1 e⟩
    · exact .inr ⟨by rw [beq_eq_false_iff_ne]; omega, HLE.out.2 e⟩
  clear q4
  have hw6 : IntKind.i64.wrap ((E : Int) - 1) = (E : Int) - 1 := IntWalk.i64_in _ (by omega)
  have hw7 : IntKind.i64.wrap ((E : Int) - 256 * (F : Int)) = ((j + 12 + r.length : Nat) : Int) := by rw [show ((E : Int) - 256 * (F : Int)) = ((j + 12 + r.length : Nat) : Int) by omega]; exact IntWalk.i64_in _ (by omega)
  obtain ⟨e0, he0⟩ : ∃ e0, e0 = j + 12 + r.length := ⟨_, rfl⟩
  rw [← he0] at hw7
  have he0' : e0 ≤ j + 12 + r.length ∧ j + 12 + r.length ≤ e0 := by omega
  have HE0 := hid he0
  clear he0
  rcases hcase with ⟨e2, e3⟩ | ⟨e2, e3⟩
  all_goals
    go_wp2_with fail
    go_loopw [9, 10] (fun b i wr => ∃ q k : Nat, q ≤ K ∧ k = F + q ∧ i = I k ∧ Hid (wr.ownsRow wd.heap.size 5 1 b (q * 256) ((TS.stretch D (T.lo + F) q).map B)) ∧ Hid (Below wd.heap.size wd wr)) (fun _ i _ => La + 1 - (intOf i).toNat)
    case atStart => exact ⟨0, F, by omega, rfl, rfl, hid (by rw [TS.stretch_zero]; exact World.ownsRow_nil _ _ _ _), hid (Below.refl _ _)⟩
    case round =>
      obtain ⟨q, k, hq, hk, rfl, HO, HB⟩ := hrel
      have hk1 : F + q ≤ k ∧ k ≤ F + q := by omega
      have HK := hid hk
      clear hk
      obtain ⟨ao, co, rfl⟩ := own_form HO.out
      by_cases hlt : q < K
      · have f1 : decide ((k : Int) ≤ (La : Int)) = true := decide_eq_true (by omega)
        have hw8 : IntKind.i64.wrap ((T.lo : Int) + (k : Int)) = (T.lo : Int) + (k : Int) := IntWalk.i64_in _ (by omega)
        have hlk := rlook_any wr.drew p own D (T.lo + k) (HD0.out.below (HB.out.trans ((Ext.drew wr).mono HB.out.size))) (by omega)
        rw [show ((T.lo + k : Nat) : Int) = (T.lo : Int) + (k : Int) by omega] at hlk
        have HLK := hid hlk
        have hll : (DS.look D.safe D.waits (T.lo + k)).length = 256 := DS.look_len HD0.out.ok.page HD0.out.ok.wait (by omega)
        have hsn := TS.stretch_snoc D (T.lo + F) q
        rw [show T.lo + F + q = T.lo + k by omega] at hsn
        have HSN := hid hsn
        generalize DS.look D.safe D.waits (T.lo + k) = pg at *
        have HLL := hid hll
        have k0 : ∀ w', Ext wr.drew w' → w'.cell? ⟨t, 0, none⟩ = some (.pointer (some ⟨p, 0, none⟩)) := fun w' hh => (Ext.trans _ _ _ (Ext.drew wr) hh).cell (H0.out.below HB.out).c0
        have k1 : ∀ w', Ext wr.drew w' → w'.cell? ⟨t, 1, none⟩ = some (I T.lo) := fun w' hh => (Ext.trans _ _ _ (Ext.drew wr) hh).cell (H0.out.below HB.out).c1
        clear hlk hll hsn
        go_wp2_with fail
        refine wp_region_order Ext [12] [(0,0),(1,0),(2,0),(3,0),(4,0),(5,0),(6,0),(7,0),(8,0),(9,0),(10,0),(11,1),(12,2),(13,0)] _ (by kernel_rfl) rfl Ext.refl Ext.trans (by kernel_rfl) (by simp only [pick, List.getElem?_toArray, List.getElem?_cons_zero, List.getElem?_cons_succ]; rfl) (fun c a d v w h => by cases d <;> exact h) ?_
        refine wpK_q (v := ?_) (a' := ?_) (by rfl) (fun w' hR => ?_) ?_ ?_
        rotate_left 2
        · go_simp; with_reducible rfl
        · simp only [Act.put, List.setIfInBounds_toArray, List.set_cons_zero, List.set_cons_succ]; rfl
        refine wpK_q (v := ?_) (a' := ?_) (by rfl) (fun w' hR => ?_) ?_ ?_
        rotate_left 2
        · go_simp; with_reducible rfl
        · simp only [Act.put, List.setIfInBounds_toArray, List.set_cons_zero, List.set_cons_succ]; rfl
        refine wpK_q (v := ?_) (a' := ?_) (by rfl) (fun w' hR => ?_) ?_ ?_
        rotate_left 2
        · go_simp; with_reducible rfl
        · simp only [Act.put, List.setIfInBounds_toArray, List.set_cons_zero, List.set_cons_succ]; rfl
        refine wpK_q (v := ?_) (a' := ?_) (by rfl) (fun w' hR => ?_) ?_ ?_
        rotate_left 2
        · go_simp; with_reducible rfl
        · simp only [Act.put, List.setIfInBounds_toArray, List.set_cons_zero, List.set_cons_succ]; rfl
        refine wpK_q (v := ?_) (a' := ?_) (by rfl) (fun w' hR => ?_) ?_ ?_
        rotate_left 2
        · go_simp; with_reducible rfl
        · simp only [Act.put, List.setIfInBounds_toArray, List.set_cons_zero, List.set_cons_succ]; rfl
        refine wpK_q (v := ?_) (a' := ?_) (by rfl) (fun w' hR => ?_) ?_ ?_
        rotate_left 2
        · go_simp; with_reducible rfl
        · simp only [Act.put, List.setIfInBounds_toArray, List.set_cons_zero, List.set_cons_succ]; rfl
        refine wpK_q (v := ?_) (a' := ?_) (by rfl) (fun w' hR => ?_) ?_ ?_
        rotate_left 2
        · go_simp; with_reducible rfl
        · simp only [Act.put, List.setIfInBounds_toArray, List.set_cons_zero, List.set_cons_succ]; rfl
        refine wpK_q (v := ?_) (a' := ?_) (by rfl) (fun w' hR => ?_) ?_ ?_
        rotate_left 2
        · go_simp; with_reducible rfl
        · simp only [Act.put, List.setIfInBounds_toArray, List.set_cons_zero, List.set_cons_succ]; rfl
        refine wpK_q (v := ?_) (a' := ?_) (by rfl) (fun w' hR => ?_) ?_ ?_
        rotate_left 2
        · go_simp; with_reducible rfl
        · simp only [Act.put, List.setIfInBounds_toArray, List.set_cons_zero, List.set_cons_succ]; rfl
        refine wpK_q (v := ?_) (a' := ?_) (by rfl) (fun w' hR => ?_) ?_ ?_
        rotate_left 2
        · go_simp; with_reducible rfl
        · simp only [Act.put, List.setIfInBounds_toArray, List.set_cons_zero, List.set_cons_succ]; rfl
        refine wpK_q (v := ?_) (a' := ?_) (by rfl) (fun w' hR => ?_) ?_ ?_
        rotate_left 2
        · go_simp; with_reducible rfl
        · simp only [Act.put, List.setIfInBounds_toArray, List.set_cons_zero, List.set_cons_succ]; rfl
        refine wpK_call Try.func84 (by kernel_rfl) rfl rfl (by rfl) #[.pointer (some ⟨p, 0, none⟩), .int .i64 ((T.lo : Int) + (k : Int))] (by simp only [List.map_toArray, List.map_cons, List.map_nil]; rfl) ?_
        refine HLK.out.mono ?_
        rintro e w5 ⟨rfl, v5, rfl, hs5, -⟩
        refine ⟨_, rfl, fun _ => Ext.refl _, ?_⟩
        have hsrc : Src wr.drew 1 v5 256 (pg.map B) := by have := hs5.src; rw [HLL.out] at this; exact this
        obtain ⟨v8, w8, hr8, hown, hgrow, hat⟩ := run_app (P := Try.prog) wr.drew wd.heap.size 23 23 5 _ 1 1 Try.underlying23 info5 rfl (by decide) _ (q * 256) _ (own_mod (w' := wr.drew) HO.out (fun _ _ => rfl)) v5 256 (pg.map B) hsrc (by unfold maxLen; omega) (by omega) HB.out.size
        refine wpK_v (by rfl) (exec_append rfl _ (by simp only [List.map_toArray, List.map_cons, List.map_nil]; rfl) hr8) (fun h => by cases h) (by simp only [Act.put, List.setIfInBounds_toArray, List.set_cons_zero, List.set_cons_succ]; rfl) ?_
        refine wpK_q (v := ?_) (a' := ?_) (by rfl) (fun w' hR => ?_) ?_ ?_
        rotate_left 2
        · go_simp; with_reducible rfl
        · simp only [Act.put, List.setIfInBounds_toArray, List.set_cons_zero, List.set_cons_succ]; rfl
        refine wpK_done ?_
        replace hown : w8.ownsRow wd.heap.size 5 1 v8 ((q + 1) * 256) ((TS.stretch D (T.lo + F) (q + 1)).map B) := own_len hown (by omega) (by rw [HSN.out, List.map_append])
        have hbw : Below wd.heap.size wd wr.drew := HB.out.trans ((Ext.drew wr).mono HB.out.size)
        have HO8 := hid hown
        have HB8 := hid (hbw.grown hgrow HB.out.size (fun i hi => (own_lt HO.out i hi).1))
        obtain ⟨av', cv', rfl⟩ := own_form hown
        clear hown hgrow hat HLK HSN hs5 hsrc hr8 hbw k0 k1
        go_wp2_with fail
        go_roundw
        case rel => exact ⟨q + 1, k + 1, by omega, by omega, by go_num, HO8, HB8⟩
        case measure => simp [intOf]; omega
      · have f1 : decide ((k : Int) ≤ (La : Int)) = false := decide_eq_false (by omega)
        have hqK : q = K := by omega
        have HQK := hid hqK
        clear hqK
        rw [HQK.out] at HO
        have hO := HO.out
        obtain ⟨g, co', hvv, hc1, hc2, hc3, hc4⟩ := own_slice hO (by omega)
        simp only [Value.slice.injEq] at hvv
        obtain ⟨rfl, hqq, rfl⟩ := hvv
        obtain ⟨n, hn⟩ : ∃ n, n = q * 256 := ⟨_, rfl⟩
        rw [← hn]
        have hnK : n = K * 256 := by rw [hn, HQK.out]
        rw [← hnK] at hO hc1
        have HO1 := hid hO
        have hnb : n ≤ 2000000 ∧ 0 < n ∧ j + 12 + r.length ≤ n ∧ e0 ≤ n ∧ j ≤ n := by omega
        have hcj : ¬ (co = j) := by omega
        have HNK := hid hnK
        clear hO HO hqq hn hnK
        unfold maxLen at hc2
        have k0 : ∀ w', Ext wr.drew w' → w'.cell? ⟨t, 3, none⟩ = some (I T.pos) := fun w' hh => (Ext.trans _ _ _ (Ext.drew wr) hh).cell (H0.out.below HB.out).c3
        have k1 : ∀ w', Ext wr.drew w' → w'.cell? ⟨t, 4, none⟩ = some (I T.count) := fun w' hh => (Ext.trans _ _ _ (Ext.drew wr) hh).cell (H0.out.below HB.out).c4
        have e8 : ∀ w', (Instr.sliceAt 23 (.slice (some ⟨g, 0, none⟩) n co) (some (.int .i64 (j : Int))) none none).run Try.prog w' = .ok (.slice (some ⟨g, j, none⟩) (n - j) (co - j)) w' := fun w' => by
          have := run_sl_from (some ⟨g, 0, none⟩) n co j (by omega) w'
          rw [this]
          unfold sl
          rw [if_neg (by omega)]
          simp [add_off]
        obtain ⟨Fr, hFr⟩ : ∃ Fr, Fr = 0 :: TS.framed T.count r ++ r := ⟨_, rfl⟩
        have hFl : Fr.length = 12 + r.length := by rw [hFr, List.cons_append, List.length_cons, List.length_append, TS.framed_len]; omega
        have hfr : Calls Try.prog 95 #[.int .u8 0, I T.count, .slice av r.length cv] wr.drew (Fresh wr.drew Fr) := by
          rw [hFr]
          exact rframe_of wr.drew 0 T.count (by omega) _ r (HV.out.below (HB0.out.trans ((HB.out.trans ((Ext.drew wr).mono HB.out.size)).mono HB0.out.size))) (by omega)
        have HFR := hid hfr
        have HFL := hid (And.intro hFr hFl)
        clear hfr hFr hFl
        go_upto_region 21 with (fail)
        refine wp_region_order Ext [15] [(0,0),(1,0),(2,0),(3,0),(4,0),(5,0),(6,0),(7,0),(8,0),(9,0),(10,0),(11,0),(12,0),(13,0),(14,1),(15,2)] _ (by kernel_rfl) rfl Ext.refl Ext.trans (by kernel_rfl) (by simp only [pick, List.getElem?_toArray, List.getElem?_cons_zero, List.getElem?_cons_succ]; rfl) (fun c a d v w h => by cases d <;> exact h) ?_
        refine wpK_q (v := ?_) (a' := ?_) (by rfl) (fun w' hR => ?_) ?_ ?_
        rotate_left 2
        · go_simp; with_reducible rfl
        · simp only [Act.put, List.setIfInBounds_toArray, List.set_cons_zero, List.set_cons_succ]; rfl
        refine wpK_q (v := ?_) (a' := ?_) (by rfl) (fun w' hR => ?_) ?_ ?_
        rotate_left 2
        · go_simp; with_reducible rfl
        · simp only [Act.put, List.setIfInBounds_toArray, List.set_cons_zero, List.set_cons_succ]; rfl
        refine wpK_q (v := ?_) (a' := ?_) (by rfl) (fun w' hR => ?_) ?_ ?_
        rotate_left 2
        · go_simp; with_reducible rfl
        · simp only [Act.put, List.setIfInBounds_toArray, List.set_cons_zero, List.set_cons_succ]; rfl
        refine wpK_q (v := ?_) (a' := ?_) (by rfl) (fun w' hR => ?_) ?_ ?_
        rotate_left 2
        · go_simp; with_reducible rfl
        · simp only [Act.put, List.setIfInBounds_toArray, List.set_cons_zero, List.set_cons_succ]; rfl
        refine wpK_q (v := ?_) (a' := ?_) (by rfl) (fun w' hR => ?_) ?_ ?_
        rotate_left 2
        · go_simp; with_reducible rfl
        · simp only [Act.put, List.setIfInBounds_toArray, List.set_cons_zero, List.set_cons_succ]; rfl
        refine wpK_q (v := ?_) (a' := ?_) (by rfl) (fun w' hR => ?_) ?_ ?_
        rotate_left 2
        · go_simp; with_reducible rfl
        · simp only [Act.put, List.setIfInBounds_toArray, List.set_cons_zero, List.set_cons_succ]; rfl
        refine wpK_q (v := ?_) (a' := ?_) (by rfl) (fun w' hR => ?_) ?_ ?_
        rotate_left 2
        · go_simp; with_reducible rfl
        · simp only [Act.put, List.setIfInBounds_toArray, List.set_cons_zero, List.set_cons_succ]; rfl
        refine wpK_q (v := ?_) (a' := ?_) (by rfl) (fun w' hR => ?_) ?_ ?_
        rotate_left 2
        · go_simp; with_reducible rfl
        · simp only [Act.put, List.setIfInBounds_toArray, List.set_cons_zero, List.set_cons_succ]; rfl
        refine wpK_q (v := ?_) (a' := ?_) (by rfl) (fun w' hR => ?_) ?_ ?_
        rotate_left 2
        · go_simp; with_reducible rfl
        · simp only [Act.put, List.setIfInBounds_toArray, List.set_cons_zero, List.set_cons_succ]; rfl
        refine wpK_q (v := ?_) (a' := ?_) (by rfl) (fun w' hR => ?_) ?_ ?_
        rotate_left 2
        · go_simp; with_reducible rfl
        · simp only [Act.put, List.setIfInBounds_toArray, List.set_cons_zero, List.set_cons_succ]; rfl
        refine wpK_q (v := ?_) (a' := ?_) (by rfl) (fun w' hR => ?_) ?_ ?_
        rotate_left 2
        · go_simp; with_reducible rfl
        · simp only [Act.put, List.setIfInBounds_toArray, List.set_cons_zero, List.set_cons_succ]; rfl
        refine wpK_q (v := ?_) (a' := ?_) (by rfl) (fun w' hR => ?_) ?_ ?_
        rotate_left 2
        · go_simp; with_reducible rfl
        · simp only [Act.put, List.setIfInBounds_toArray, List.set_cons_zero, List.set_cons_succ]; rfl
        refine wpK_q (v := ?_) (a' := ?_) (by rfl) (fun w' hR => ?_) ?_ ?_
        rotate_left 2
        · go_simp; with_reducible rfl
        · simp only [Act.put, List.setIfInBounds_toArray, List.set_cons_zero, List.set_cons_succ]; rfl
        refine wpK_q (v := ?_) (a' := ?_) (by rfl) (fun w' hR => ?_) ?_ ?_
        rotate_left 2
        · go_simp; with_reducible rfl
        · simp only [Act.put, List.setIfInBounds_toArray, List.set_cons_zero, List.set_cons_succ]; rfl
        refine wpK_call Try.func95 (by kernel_rfl) rfl rfl (by rfl) #[.int .u8 0, .int .i64 (T.count : Int), .slice av r.length cv] (by simp only [List.map_toArray, List.map_cons, List.map_nil]; rfl) ?_
        refine HFR.out.mono ?_
        rintro e w6 ⟨v6, rfl, ho6, hb6⟩
        refine ⟨_, rfl, fun _ => hb6, ?_⟩
        rw [HFL.out.2] at ho6
        obtain ⟨g6, cap6, rfl, -, -, hg6, -⟩ := own_slice ho6 (by omega)
        have hO6 := own_below HO1.out (Ext.trans _ _ _ (Ext.drew wr) hb6)
        obtain ⟨w7, hcp, hO7, hM7⟩ := own_copy (P := Try.prog) (ys := Fr.map B) hO6 (j := j) (by rw [List.length_map, HFL.out.2]; omega) (a := ⟨g6, 0, none⟩) (sc := cap6) (dT := 23) (sT := 23) (ty := 3) Try.underlying23 z5 (fun i u hu => by rw [add_off, Nat.zero_add]; exact own_cell ho6 hu) (fun u hu => by obtain ⟨c, _, rfl⟩ := List.mem_map.1 hu; rfl)
        rw [List.length_map, HFL.out.2] at hcp hO7
        refine wpK_v (by rfl) (exec_copy rfl _ (by simp only [List.map_toArray, List.map_cons, List.map_nil]; rfl) hcp) (fun h => by cases h) (by simp only [Act.put, List.setIfInBounds_toArray, List.set_cons_zero, List.set_cons_succ]; rfl) ?_
        refine wpK_done ?_
        have HB6 : Hid (Below wd.heap.size wd w7 ∧ wd.heap.size ≤ g ∧ g < w7.heap.size) := hid ⟨(HB.out.trans ((Ext.trans _ _ _ (Ext.drew wr) hb6).mono HB.out.size)).trans (hM7.below (Nat.le_trans HB.out.size (Ext.trans _ _ _ (Ext.drew wr) hb6).size) (fun i hi e => by omega)), hc3, (own_lt hO7 g rfl).2⟩
        obtain ⟨Z1, hZ1⟩ : ∃ Z1, Z1 = (TS.stretch D (T.lo + F) K).take j ++ Fr ++ (TS.stretch D (T.lo + F) K).drop (j + (12 + r.length)) := ⟨_, rfl⟩
        have hO7' : w7.ownsRow wd.heap.size 5 1 (.slice (some ⟨g, 0, none⟩) n co) n (Z1.map B) := own_len hO7 rfl (by rw [hZ1]; simp only [List.map_append, List.map_take, List.map_drop])
        have hZ1e : Z1.take e0 = (TS.stretch D (T.lo + F) K).take j ++ Fr := by
          have hbl := HBN.out K (Nat.le_refl _)
          rw [hZ1]
          refine List.take_left' ?_
          rw [List.length_append, List.length_take, hbl, HFL.out.2]
          omega
        have HO7 := hid hO7'
        have HZ1 := hid hZ1e
        clear k0 k1 e8 hb6 ho6 hO6 hcp hO7 hM7 hO7' hZ1 hZ1e HFR HO1 HB hc3 hc4 hg6
        have hz1l : Z1.length = n := by
          have := HO7.out.1
          simpa using this
        go_wp2_with fail
        go_loopw [11] (fun i wx => ∃ (m : Nat) (Zm : List UInt8), e0 ≤ m ∧ m ≤ n ∧ i = I m ∧ Zm.length = n ∧ Hid (wx.ownsRow wd.heap.size 5 1 (.slice (some ⟨g, 0, none⟩) n co) n (Zm.map B)) ∧ Hid (Zm.take m = Z1.take e0 ++ List.replicate (m - e0) 0) ∧ Hid (Mod (fun k => k = g) w7 wx)) (fun i _ => n - (intOf i).toNat)
        case atStart => exact ⟨e0, Z1, by omega, by omega, by first | rfl | (show Value.int .i64 _ = Value.int .i64 _; congr 1; omega), hz1l, HO7, hid (by rw [Nat.sub_self]; simp), hid (Mod.refl _ _)⟩
        case round =>
          clear HO7
          obtain ⟨m, Zm, hm1, hm2, rfl, hzl, HOm, HZm, HMm⟩ := hrel
          by_cases hmn : m < n
          · have f1 : decide ((m : Int) < (n : Int)) = true := decide_eq_true (by omega)
            have hcell := own_cell HOm.out (i := m) (u := B (Zm[m]'(by omega))) (by rw [List.getElem?_map, List.getElem?_eq_getElem (by omega)]; rfl)
            have hfz := own_frozen HOm.out m
            generalize (Zm[m]'(by omega)) = cz at hcell
            go_wp2_with fail
            go_roundw
            case rel =>
              refine ⟨m + 1, Zm.set m 0, by omega, by omega, by go_num, by rw [List.length_set]; exact hzl, hid ?_, hid ?_, hid (HMm.out.trans (Mod.set (own := fun k => k = g) (a := ⟨g, m, none⟩) rfl))⟩
              · have := own_set HOm.out hmn (B 0)
                rwa [← List.map_set] at this
              · rw [take_snoc (x := 0) (by rw [List.getElem?_set_self (by omega)]), List.take_set_of_le (Nat.le_refl _), HZm.out, List.append_assoc, show m + 1 - e0 = (m - e0) + 1 by omega, List.replicate_succ']
            case measure => simp [intOf]; omega
          · have f1 : decide ((m : Int) < (n : Int)) = false := decide_eq_false (by omega)
            have hme : m = n := by omega
            have hbb : Zm = (TS.stretch D (T.lo + F) K).take j ++ (0 :: TS.framed T.count r ++ r) ++ List.replicate (K * 256 - (j + 12 + r.length)) 0 := by
              have h9 := HZm.out
              rw [hme, List.take_of_length_le (by omega), HZ1.out, HFL.out.1] at h9
              rw [h9, ← HNK.out, HE0.out]
            have hdz := HDO.out
            rw [← hbb] at hdz
            have HDZ := hid hdz
            have hbw : Below wd.heap.size wd wr := HB6.out.1.trans (HMm.out.below HB6.out.1.size (fun i hi e => by have := HB6.out.2.1; omega))
            have hbw0 : Below w.heap.size w wr := HB0.out.trans (hbw.mono HB0.out.size)
            have hog : ∀ q, (Value.slice (some ⟨g, 0, none⟩) n co).ownBlock = some q → ¬ own q := fun q hq ho => by
              have e : g = q := Option.some.inj hq
              have := HD0.out.lt q ho
              have := HB6.out.2.1
              omega
            have hwr := rtwrite_any wr t p own T D (.slice (some ⟨g, 0, none⟩) n co) Zm K F (H0.out.below hbw) (HD0.out.below hbw) HT.out (own_sees' HOm.out hzl) (by rw [hzl]; exact HNK.out) (by omega) (by omega) hog (by omega)
            obtain ⟨Y1, hY1⟩ : ∃ Y1, Y1 = TS.rwr D (T.lo + F) (TS.pagesOf Zm K) := ⟨_, rfl⟩
            have hc1 := TS.rwr_code D (T.lo + F) (TS.pagesOf Zm K)
            have hs1 := TS.rwr_len D (T.lo + F) (TS.pagesOf Zm K)
            have hw1' := TS.rwr_waits D (T.lo + F) (TS.pagesOf Zm K)
            have hpl : (TS.pagesOf Zm K).length = K := by unfold TS.pagesOf; simp
            rw [← hY1] at hwr hc1 hs1 hw1'
            rw [hpl] at hw1'
            have HY1 := hid hY1
            obtain ⟨cc, D1⟩ := Y1
            simp only at hwr hc1 hs1 hw1'
            have HWR := hid hwr
            have HBW := hid (And.intro hbw (And.intro hbw0 hog))
            have HC1 := hid (And.intro hc1 hs1)
            clear hme hbb hdz hbw hbw0 hog hwr hY1 hc1 hs1 hpl hm1 HZm HZ1 hz1l
            go_upto_region 27 with (go_at_call 101; go_must (refine HWR.out.mono ?_); rintro e w8 ⟨rfl, hre⟩; have HRE := hid hre; clear hre)
            have HR8 := hid (HRE.out.below HBW.out.2.1)
            obtain ⟨own1, x1, x2, x3⟩ := HRE.out
            have ht8 := (H0.out.below HBW.out.1).mod x3 HT.out
            have HT8 := hid ht8
            have htl : t < w.heap.size := H.out.lt
            by_cases hcz : cc = 0
            rotate_left
            · have f2 : (cc == 0) = false := by simpa using hcz
              have c5 := ht8.c5
              have f5 := ht8.fr 5
              have hZ : Z = (cc, D1, { T with sick := cc }) := by rw [HDZ.out]; exact TS.ref2_bad HFJ.out.1 HY1.out hcz
              have HZ := hid hZ
              clear hZ ht8
              go_wp2_with fail
              go_ret
              rw [HZ.out]
              have hok := HT8.out.ok
              exact RDone.fin HR8.out (HT8.out.set 5 (I cc) { T with sick := cc } ⟨hok.lt, hok.le, hok.pos, hok.count, HC1.out.1.bd⟩ rfl) (Mod.set (own := fun k => k = t) (a := ⟨t, 5, none⟩) rfl) HT.out htl
            · subst hcz
              have c3 := ht8.c3
              have hn256 : 256 ≤ n := by have := HNK.out; omega
              have hgl : g < wr.heap.size := (own_lt HOm.out g rfl).2
              have hgo : ¬ own g := HBW.out.2.2 g rfl
              have hgo1 : ¬ own1 g := fun h => (x2 g h).elim hgo (fun h => by omega)
              have hto1 : ¬ own1 t := fun h => (x2 t h).elim HT.out (fun h => by have := HBW.out.2.1.size; omega)
              have hgt : g ≠ t := fun e => by have := HB6.out.2.1; have := HB0.out.size; omega
              have hO8 := own_mod (w' := w8) HOm.out (fun q hq => by
                have e : g = q := Option.some.inj hq
                subst e
                exact x3.block g hgl hgo)
              have hcell := own_cell hO8 (i := j) (u := B (Zm[j]'(by omega))) (by rw [List.getElem?_map, List.getElem?_eq_getElem (by omega)]; rfl)
              have hfz := own_frozen hO8 j
              generalize (Zm[j]'(by omega)) = cz at hcell
              have hO9 := own_set hO8 (show j < n by omega) (B 1)
              rw [← List.map_set] at hO9
              have hm9 : Mod (fun k => k = g) w8 (w8.setCell ⟨g, j, none⟩ (.int .u8 1)) := Mod.set (own := fun k => k = g) (a := ⟨g, j, none⟩) rfl
              have hsees : Sees (w8.setCell ⟨g, j, none⟩ (.int .u8 1)) (.slice (some ⟨g, 0, none⟩) 256 co) ((Zm.set j 1).take 256) := (own_sees' hO9 (by rw [List.length_set]; exact hzl)).take 256 (by rw [List.length_set, hzl]; omega)
              have ht9 := HT8.out.mod hm9 (fun e => hgt e.symm)
              rw [← HC1.out.2] at ht9
              have hwr2 := rtwrite_any (w8.setCell ⟨g, j, none⟩ (.int .u8 1)) t p own1 T D1 (.slice (some ⟨g, 0, none⟩) 256 co) ((Zm.set j 1).take 256) 1 F ht9 (x1.mod hm9 (fun k hk e => hgo1 (e ▸ hk))) hto1 hsees (by rw [List.length_take, List.length_set, hzl]; omega) (by omega) (by omega) (fun q hq => by have e : g = q := Option.some.inj hq; subst e; exact hgo1) (by omega)
              obtain ⟨Y2, hY2⟩ : ∃ Y2, Y2 = TS.rwr D1 (T.lo + F) (TS.pagesOf ((Zm.set j 1).take 256) 1) := ⟨_, rfl⟩
              have hc2' := TS.rwr_code D1 (T.lo + F) (TS.pagesOf ((Zm.set j 1).take 256) 1)
              rw [← hY2] at hwr2 hc2'
              obtain ⟨c2, D2⟩ := Y2
              simp only at hwr2 hc2'
              have hZ : Z = if c2 ≠ 0 then (c2, D2, { T with sick := c2 }) else (0, D2, { T with pos := T.pos + 12 + r.length, count := T.count + 1 }) := by rw [HDZ.out]; exact TS.ref2_ok HFJ.out.1 HFJ.out.2 HY1.out hY2
              have HZ := hid hZ
              have HWR2 := hid hwr2
              have HC2 := hid hc2'
              have HR9 := hid (fun (w' : World) (hre : Reffed' own1 p (w8.setCell ⟨g, j, none⟩ (.int .u8 1)) D2 w') => Reffed'.trans (own := own) (w := w) (fun k hk => (x2 k hk).imp id (fun h => Nat.le_trans HBW.out.2.1.size h)) (((Mod.of_below own HBW.out.2.1).trans x3).then hm9 (fun i hi e => by have := HB6.out.2.1; have := HB0.out.size; omega)) hre)
              have HT9 := hid (fun (w' : World) (hre : Reffed' own1 p (w8.setCell ⟨g, j, none⟩ (.int .u8 1)) D2 w') => (HT8.out.mod hm9 (fun e => hgt e.symm)).mod hre.choose_spec.2.2 hto1)
              have hc256 : (256 : Int) ≤ (co : Int) := by omega
              clear hgl hgo hgo1 hto1 hgt hO8 hO9 hm9 hsees ht9 hwr2 hY2 hc2' hZ x1 x2 x3 ht8
              go_upto_region 30 with (go_at_call 101; go_must (refine HWR2.out.mono ?_); rintro e w10 ⟨rfl, hre⟩; have HRE2 := hid hre; clear hre)
              have HR10 := hid (HR9.out w10 HRE2.out)
              have ht10 := HT9.out w10 HRE2.out
              have HT10 := hid ht10
              have c5 := ht10.c5
              have c4 := ht10.c4
              have c3'' := ht10.c3
              have f3 := ht10.fr 3
              have f4 := ht10.fr 4
              have f5 := ht10.fr 5
              have hok := ht10.ok
              have HOK := hid hok
              clear hok hcell hfz c3 HR9 HT9 HRE2 HWR2 ht10
              by_cases hcz : c2 = 0
              rotate_left
              · have f2 : (c2 == 0) = false := by simpa using hcz
                have HCZ := hid hcz
                clear hcz
                go_wp2_with fail
                go_ret
                rw [HZ.out, if_pos HCZ.out]
                exact RDone.fin HR10.out (HT10.out.set 5 (I c2) { T with sick := c2 } ⟨HOK.out.lt, HOK.out.le, HOK.out.pos, HOK.out.count, HC2.out.bd⟩ rfl) (Mod.set (own := fun k => k = t) (a := ⟨t, 5, none⟩) rfl) HT.out htl
              · subst hcz
                have hw9 : IntKind.i64.wrap ((T.count : Int) + 1) = (T.count : Int) + 1 := IntWalk.i64_in _ (by omega)
                go_wp2_with fail
                go_ret
                rw [HZ.out, if_neg (by simp)]
                have hnm := HNUM.out
                have hv3 : (T.pos : Int) + 12 + (r.length : Int) = ((T.pos + 12 + r.length : Nat) : Int) := by omega
                have hv4 : (T.count : Int) + 1 = ((T.count + 1 : Nat) : Int) := by omega
                have s1 := HT10.out.set 5 (I 0) { T with sick := 0 } ⟨HOK.out.lt, HOK.out.le, HOK.out.pos, HOK.out.count, by show (-9223372036854775808 : Int) ≤ 0 ∧ (0 : Int) ≤ 9223372036854775807; omega⟩ rfl
                have s2 := s1.set 3 (I ((T.pos : Int) + 12 + (r.length : Int))) { T with sick := 0, pos := T.pos + 12 + r.length } ⟨HOK.out.lt, HOK.out.le, by show T.pos + 12 + r.length ≤ T.size; exact h3, by show T.count ≤ T.pos + 12 + r.length; have := HOK.out.count; omega, by show (-9223372036854775808 : Int) ≤ 0 ∧ (0 : Int) ≤ 9223372036854775807; omega⟩ (by rw [hv3]; rfl)
                have s3 := s2.set 4 (I ((T.count : Int) + 1)) { T with sick := 0, pos := T.pos + 12 + r.length, count := T.count + 1 } ⟨HOK.out.lt, HOK.out.le, by show T.pos + 12 + r.length ≤ T.size; exact h3, by show T.count + 1 ≤ T.pos + 12 + r.length; have := HOK.out.count; omega, by show (-9223372036854775808 : Int) ≤ 0 ∧ (0 : Int) ≤ 9223372036854775807; omega⟩ (by rw [hv4]; rfl)
                have e : ({ T with pos := T.pos + 12 + r.length, count := T.count + 1 } : TS) = { T with sick := 0, pos := T.pos + 12 + r.length, count := T.count + 1 } := by rw [← HSK.out]
                rw [e]
                refine RDone.fin HR10.out s3 ?_ HT.out htl
                exact ((Mod.set (own := fun k => k = t) (a := ⟨t, 5, none⟩) rfl).trans (Mod.set (own := fun k => k = t) (a := ⟨t, 3, none⟩) rfl)).trans (Mod.set (own := fun k => k = t) (a := ⟨t, 4, none⟩) rfl)
theorem rtappend_any (w : World) (t p : Nat) (own : Nat → Prop) (T : TS) (D : DS) (v : Value) (r : List UInt8) (h : RTapeIn w t p D.safe.length T) (hd : RefAt w p own D) (ht : ¬ own t) (hv : Sees w v r) (hN : D.waits.length ≤ 800000000) :
    Calls Try.prog 73 #[.pointer (some ⟨t, 0, none⟩), v] w (RDone w t p D.safe.length own (TS.append D T r)) := by
  by_cases hx : 65536 < r.length ∨ T.sick ≠ 0 ∨ T.size < T.pos + 12 + r.length ∨ D.off = true
  · exact rtappend_small w t p own T D v r h hd ht hv hx
  · simp only [not_or, Nat.not_lt, ne_eq, Classical.not_not] at hx
    obtain ⟨h1, h2, h3, h4⟩ := hx
    have e : TS.append D T r = TS.doIt D T r := by
      unfold TS.append
      rw [if_neg (by omega), if_neg (by simp [h2]), if_neg (by omega)]
    rw [e]
    exact rtappend_on w t p own T D v r h hd ht hv h1 h2 h3 (by simpa using h4) (by omega)
end Go.Proofs.Ytoaeapnkefjpaaa

namespace Go.Proofs.Ytoaeapnkefjpaaa
open Go.RowKit
set_option linter.unusedVariables false
set_option linter.unusedSimpArgs false
section
variable {P : Program} {ops : Array Oper} {Q : Exit → Act → World → Prop} {md : Region.Mode} {R : World → World → Prop} {ds : List Nat}

/-- What is listed behind an order. -/
def listedBy : List (Nat × Nat) → Array Bool → Array Bool
  | [], l => l
  | (i, _) :: rest, l => listedBy rest (l.setIfInBounds i true)
/-- Does a row of reads fit? -/
def readsB (md : Region.Mode) (ops : Array Oper) (ds : List Nat) : List (Nat × Nat) → Array Bool → Bool
  | [], _ => true
  | (i, 0) :: rest, l => Region.free md ops l i && (Region.ready md ops l).contains i && shutB md ops l && (ds.all fun d => l.getD d true || waitsB md ops i ops.size d) && readsB md ops ds rest (l.setIfInBounds i true)
  | (_, _ + 1) :: _, _ => false
/-- The exit behind the reads. -/
def thenQ (Q : Exit → Act → World → Prop) (C : Act → World → Prop) : Exit → Act → World → Prop
  | .normal, a, w => C a w
  | e, a, w => Q e a w
theorem thenQ_normal {C : Act → World → Prop} {a : Act} {w : World} (h : C a w) : thenQ Q C .normal a w := h
theorem wpC_of_reads (hrefl : ∀ w, R w w) (htr : ∀ w w' w'', R w w' → R w' w'' → R w w'') (hsel : Region.noSelect ops = true)
    (hQ : ∀ c a d v w, Q (.panic c) (Act.put a d v) w → Q (.panic c) a w) (C : Act → World → Prop) (n : Nat) :
    ∀ (π : List (Nat × Nat)) (l : Array Bool) (a : Act) (w : World), readsB md ops ds π l = true → (∀ a w, C a w → wpC P md ops Q R ds n (listedBy π l) a w) → wpK P ops (thenQ Q C) R (pick ops π) a w → wpC P md ops Q R ds (π.length + n) l a w
  | [], l, a, w, hf, hC, h => by
    rw [List.length_nil, Nat.zero_add]
    exact hC a w h
  | (i, 0) :: rest, l, a, w, hf, hC, h => by
    simp only [readsB, Bool.and_eq_true] at hf
    obtain ⟨⟨⟨⟨h1, h2⟩, h3⟩, h4⟩, h5⟩ := hf
    have hr : i ∈ Region.ready md ops l := by simpa using h2
    obtain ⟨_, oi, hoi, _⟩ := mem_ready.1 hr
    simp only [pick, hoi] at h
    obtain ⟨v, hy, hk⟩ := h
    rw [List.length_cons, show rest.length + 1 + n = (rest.length + n) + 1 by omega]
    exact wpC_first hrefl htr hoi (Region.noSelect_spec hsel) (fun c a w => hQ c a oi.dst v w) ops.size _ l a w (Region.free_spec hoi h1) (shutB_spec h3)
      (fun d hm hun => by have := List.all_eq_true.1 h4 d hm; rw [hun] at this; simpa using this) hr hy (wpC_of_reads hrefl htr hsel hQ C n rest _ _ _ h5 hC hk)
  | (_, _ + 1) :: _, l, a, w, hf, hC, h => by simp [readsB] at hf
/-- A step with an effect, whatever else is ready. -/
theorem wpOp_of_wpK (hrefl : ∀ w, R w w) (htr : ∀ w w' w'', R w w' → R w' w'' → R w w'') (hsel : Region.noSelect ops = true)
    (hQ : ∀ c a d v w, Q (.panic c) (Act.put a d v) w → Q (.panic c) a w) {i k : Nat} {rest : List (Nat × Nat)} {l : Array Bool} {a : Act} {w : World} {oi : Oper} (hoi : ops[i]? = some oi)
    (hk0 : (if k = 0 then !ds.contains i else ds.contains i) = true) (hf : fitsB md ops ds rest (l.setIfInBounds i true) = true) (h : wpK P ops Q R ((oi, k + 1) :: pick ops rest) a w) :
    wpOp P ops Q i (fun a' w' => (i ∉ ds → R w w') ∧ wpC P md ops Q R ds rest.length (l.setIfInBounds i true) a' w') a w := by
  unfold wpOp
  simp only [hoi]
  unfold wpK at h
  by_cases hw : Region.wanted oi (yielded ops a.tmps) = true
  · rw [if_pos hw] at h ⊢
    refine .inl (Oper.wp_mono (fun a' w' hh => ⟨fun hnd => hh.1 ?_, wpC_of_wpK hrefl htr hsel hQ rest _ _ _ hf hh.2⟩) h)
    by_cases hk : k = 0
    · exact hk
    · rw [if_neg hk] at hk0
      exact absurd (by simpa using hk0) hnd
  · rw [if_neg hw] at h ⊢
    exact ⟨fun _ => hrefl w, wpC_of_wpK hrefl htr hsel hQ rest _ _ _ hf h⟩
/-- Reads first; then i and j are ready; both orders fit. -/
def forkB (md : Region.Mode) (ops : Array Oper) (ds : List Nat) (π : List (Nat × Nat)) (i j : Nat × Nat) (ri rj : List (Nat × Nat)) : Bool :=
  readsB md ops ds π (Array.replicate ops.size false) && (Region.ready md ops (listedBy π (Array.replicate ops.size false)) == [i.1, j.1]) && (if i.2 = 0 then !ds.contains i.1 else ds.contains i.1) && (if j.2 = 0 then !ds.contains j.1 else ds.contains j.1) &&
    fitsB md ops ds ri ((listedBy π (Array.replicate ops.size false)).setIfInBounds i.1 true) && fitsB md ops ds rj ((listedBy π (Array.replicate ops.size false)).setIfInBounds j.1 true) && ri.length == rj.length && (π.length + (ri.length + 1) == ops.size)
theorem wp_region_fork {id : Nat} {a : Act} {w : World} (R : World → World → Prop) (ds : List Nat) (π : List (Nat × Nat)) (i j : Nat × Nat) (ri rj : List (Nat × Nat)) (l : List (Oper × Nat)) (li lj : List (Oper × Nat)) (oi oj : Oper) (hm : P.follows .mixedOrders = true) (hrefl : ∀ w, R w w) (htr : ∀ w w' w'', R w w' → R w' w'' → R w w'')
    (hc : (Region.noSelect ops && forkB .any ops ds π i j ri rj) = true) (hl : pick ops π = l) (hoi : ops[i.1]? = some oi) (hoj : ops[j.1]? = some oj) (hli : pick ops ri = li) (hlj : pick ops rj = lj)
    (hQ : ∀ c a d v w, Q (.panic c) (Act.put a d v) w → Q (.panic c) a w)
    (h : wpK P ops (thenQ Q fun a' w' => wpK P ops Q R ((oi, i.2 + 1) :: li) a' w' ∧ wpK P ops Q R ((oj, j.2 + 1) :: lj) a' w') R l a w.drew) : (Code.region id ops true).wp P Q a w := by
  subst hl hli hlj
  rw [Bool.and_eq_true] at hc
  obtain ⟨hsel, hf⟩ := hc
  unfold forkB at hf
  simp only [Bool.and_eq_true, beq_iff_eq] at hf
  obtain ⟨⟨⟨⟨⟨⟨⟨f1, f2⟩, f3⟩, f4⟩, f5⟩, f6⟩, f7⟩, f8⟩ := hf
  refine wp_region_any hm (wpAny_of_wpC (R := R) (ds := ds) _ _ _ _ ?_)
  refine (fun e8 => ?_) (wpC_of_reads (md := .any) (ops := ops) (Q := Q) (R := R) (ds := ds) hrefl htr hsel hQ _ (ri.length + 1) π _ a _ f1 (fun a' w' hh => ?_) h)
  · rw [f8] at e8
    exact e8
  · obtain ⟨g1, g2⟩ := hh
    refine ⟨fun h0 => (by rw [f2] at h0; cases h0), fun q hq => ?_⟩
    rw [f2] at hq
    have hq2 : q = i.1 ∨ q = j.1 := by simpa using hq
    clear hq
    cases hq2 with
    | inl e =>
      rw [e]
      exact wpOp_of_wpK hrefl htr hsel hQ hoi f3 f5 g1
    | inr e =>
      rw [e, f7]
      exact wpOp_of_wpK hrefl htr hsel hQ hoj f4 f6 g2
end
end Go.Proofs.Ytoaeapnkefjpaaa

namespace Go.Proofs.Ytoaeapnkefjpaaa
open Go.RowKit
set_option linter.unusedVariables false
set_option linter.unusedSimpArgs false

abbrev Cl := Int × Int × Int × List UInt8
/-- A script of calls, as it is seen. -/
def IsScr (w : World) (a1 : Option Addr) (L : List Cl) : Prop := 0 < L.length → ∃ g off, a1 = some ⟨g, off, none⟩ ∧ ∀ i x, L[i]? = some x →
  w.cell? ⟨g, off + i * 4, none⟩ = some (I x.1) ∧ w.cell? ⟨g, off + i * 4 + 1, none⟩ = some (I x.2.1) ∧ w.cell? ⟨g, off + i * 4 + 2, none⟩ = some (I x.2.2.1) ∧ ∃ u, w.cell? ⟨g, off + i * 4 + 3, none⟩ = some u ∧ Sees w u x.2.2.2
theorem cell_on {w w' : World} (hb : Below w.heap.size w w') {p : Addr} {v : Value} (h : w.cell? p = some v) : w'.cell? p = some v := (World.cell?_of_block (w := w) (a := p) (hb.block p.block (block_lt_of_cell h))).trans h
theorem IsScr.below {w w' : World} {a1 : Option Addr} {L : List Cl} (h : IsScr w a1 L) (hb : Below w.heap.size w w') : IsScr w' a1 L := by
  intro h0
  obtain ⟨g, off, rfl, hc⟩ := h h0
  refine ⟨g, off, rfl, fun i x hx => ?_⟩
  obtain ⟨e0, e1, e2, u, e3, hs⟩ := hc i x hx
  exact ⟨cell_on hb e0, cell_on hb e1, cell_on hb e2, u, cell_on hb e3, hs.below hb⟩
/-- What of the script is in bounds. -/
structure ScrOk (L : List Cl) : Prop where
  n : ∀ x ∈ L, -9223372036854775808 ≤ x.2.1 ∧ x.2.1 ≤ 9223372036854775807
  k : ∀ x ∈ L, -9223372036854775808 ≤ x.2.2.1 ∧ x.2.2.1 ≤ 9223372036854775807
  b : ∀ x ∈ L, x.2.2.2.length ≤ 140737488355328
  l : L.length ≤ 9223372036854775807
set_option maxRecDepth 100000 in
set_option maxHeartbeats 1600000 in
theorem tlong_any (w : World) (pg lo hi sp : Int) (fv : Value) (first : List UInt8) (hf : Sees w fv first) (hfl : first.length ≤ 140737488355328) (a1 : Option Addr) (cap : Nat) (L : List Cl) (hs : IsScr w a1 L) (hok : ScrOk L) :
    Calls Try.prog 69 #[.agg #[I pg, I lo, I hi, fv, I sp], .slice a1 L.length cap] w fun e w' => ∃ b, e = .returned (.bool b) ∧ (b = false → pg ≤ 100 ∧ L.length ≤ 60 ∧ first.length ≤ 32768 ∧ ∀ x ∈ L, x.2.2.2.length ≤ 32768) ∧ Below w.heap.size w w' := by
  obtain ⟨af, cf, rfl, hff⟩ := hf.form0
  have hb0 : Below w.heap.size w (w.alloc (.cells #[I pg, I lo, I hi, .slice af first.length cf, I sp] 94)) := (Below.refl _ _).alloc (Nat.le_refl _) _
  have hp0 : (w.alloc (.cells #[I pg, I lo, I hi, .slice af first.length cf, I sp] 94)).heap[w.heap.size]? = some (.cells #[I pg, I lo, I hi, .slice af first.length cf, I sp] 94 (0, 0)) := heap_alloc_new _ _
  have HS := hid (hs.below hb0)
  have HP := hid hp0
  have HB0 := hid hb0
  have HOK := hid hok
  have hll := hok.l
  clear hb0 hp0 hs hok hf
  go_enter Try.func69, Try.ntmps69
  go_wp2
  have HZ := hid (show (w.alloc (.cells #[I pg, I lo, I hi, .slice af first.length cf, I sp] 94)).heap.size = w.heap.size + 1 by simp)
  generalize w.alloc (.cells #[I pg, I lo, I hi, .slice af first.length cf, I sp] 94) = wa at *
  go_loopw [5, 13] (fun n i wr => ∃ (k m : Nat), k ≤ L.length ∧ n = I m ∧ i = I k ∧ m ≤ 281474976710656 ∧ (0 < k → m ≤ 32768) ∧ Hid (first.length ≤ m ∧ ∀ j x, j < k → L[j]? = some x → x.2.2.2.length ≤ m) ∧ Hid (Below wa.heap.size wa wr)) (fun _ i _ => L.length - (intOf i).toNat)
  case atStart => exact ⟨0, first.length, by omega, rfl, rfl, by omega, by omega, hid ⟨Nat.le_refl _, fun j x hj => by omega⟩, hid (Below.refl _ _)⟩
  case round =>
    obtain ⟨k, m, hk, rfl, rfl, hm1, hm2, HM, HB⟩ := hrel
    by_cases hlt : k < L.length
    · have f1 : decide ((k : Int) < (L.length : Int)) = true := decide_eq_true (by omega)
      obtain ⟨x, hx⟩ : ∃ x, L[k]? = some x := ⟨_, List.getElem?_eq_getElem hlt⟩
      obtain ⟨g, off, rfl, hc⟩ := (HS.out.below HB.out) (by omega)
      obtain ⟨e0, e1, e2, u, e3, hu⟩ := hc k x hx
      have hxb := HOK.out.b x (List.mem_of_getElem? hx)
      obtain ⟨xk, xn, xj, xb⟩ := x
      simp only at e0 e1 e2 hu hxb
      obtain ⟨au, cu, rfl, hul⟩ := hu.form0
      have HX := hid hx
      have hba : Below wr.heap.size wr (wr.alloc (.cells #[I xk, I xn, I xj, .slice au xb.length cu] 101)) := (Below.refl _ _).alloc (Nat.le_refl _) _
      have HBA := hid (HB.out.trans (hba.mono HB.out.size))
      clear hc hu hx hba
      have hw1 : IntKind.i64.wrap ((m : Int) + (xb.length : Int)) = (m : Int) + (xb.length : Int) := IntWalk.i64_in _ (by omega)
      by_cases h6 : 32768 < m + xb.length
      · have f2 : decide ((32768 : Int) < (m : Int) + (xb.length : Int)) = true := decide_eq_true (by omega)
        go_wp2
        go_ret
        exact ⟨true, rfl, fun h => (by cases h), HB0.out.trans (HBA.out.mono HB0.out.size)⟩
      · have f2 : decide ((32768 : Int) < (m : Int) + (xb.length : Int)) = false := decide_eq_false (by omega)
        go_wp2
        go_roundw
        case rel =>
          refine ⟨k + 1, m + xb.length, by omega, by go_num, by go_num, by omega, by omega, hid ⟨by have := HM.out.1; omega, fun j y hj hy => ?_⟩, HBA⟩
          by_cases e : j = k
          · subst e
            rw [HX.out] at hy
            obtain rfl := Option.some.inj hy
            show xb.length ≤ m + xb.length
            omega
          · have := HM.out.2 j y (by omega) hy
            omega
        case measure => simp [intOf]; omega
    · have hke : k = L.length := by omega
      have hpw : wr.heap[w.heap.size]? = some (.cells #[I pg, I lo, I hi, .slice af first.length cf, I sp] 94 (0, 0)) := (HB.out.block _ (by rw [HZ.out]; omega)).trans HP.out
      have hc0 : wr.cell? ⟨w.heap.size, 0, none⟩ = some (I pg) := by rw [cell_of_row _ _ _ _ _ _ hpw]; rfl
      have HBR := hid (HB0.out.trans (HB.out.mono HB0.out.size))
      clear hpw
      have hcases : decide (pg > 100) = true ∨ (decide (pg > 100) = false ∧ decide ((L.length : Int) > 60) = true) ∨ (decide (pg > 100) = false ∧ decide ((L.length : Int) > 60) = false ∧ decide ((m : Int) > 32768) = true) ∨ (pg ≤ 100 ∧ L.length ≤ 60 ∧ m ≤ 32768) := by
        simp only [decide_eq_true_eq, decide_eq_false_iff_not]; omega
      have hres : ∀ e w', e = Ending.returned (.bool true) → Below w.heap.size w w' → (∃ b, e = .returned (.bool b) ∧ (b = false → pg ≤ 100 ∧ L.length ≤ 60 ∧ first.length ≤ 32768 ∧ ∀ x ∈ L, x.2.2.2.length ≤ 32768) ∧ Below w.heap.size w w') := fun e w' h1 h2 => ⟨true, h1, fun h => (by cases h), h2⟩
      have HRES := hid hres
      have HKE := hid hke
      clear hres hke
      rcases hcases with c | ⟨c, d⟩ | ⟨c, d, f⟩ | ⟨c, d, f⟩
      · go_wp2
        go_ret
        exact HRES.out _ _ rfl HBR.out
      · go_wp2
        go_ret
        exact HRES.out _ _ rfl HBR.out
      · go_wp2
        go_ret
        exact HRES.out _ _ rfl HBR.out
      · have c' : decide (pg > 100) = false := decide_eq_false (by omega)
        have d' : decide ((L.length : Int) > 60) = false := decide_eq_false (by omega)
        have f' : decide ((m : Int) > 32768) = false := decide_eq_false (by omega)
        go_wp2
        go_ret
        refine ⟨false, rfl, fun _ => ⟨c, d, by have := HM.out.1; omega, fun x hx => ?_⟩, HBR.out⟩
        obtain ⟨j, hj⟩ := List.getElem?_of_mem hx
        have := HM.out.2 j x (by rw [HKE.out]; exact (List.getElem?_eq_some_iff.1 hj).1) hj
        omega
set_option maxRecDepth 100000 in
set_option maxHeartbeats 1600000 in
theorem tsame_any (w w0 : World) (p pm : Nat) (od om : Nat → Prop) (D : DS) (h : Both w0 od p om pm D D w) : Calls Try.prog 72 #[.pointer (some ⟨p, 0, none⟩), .pointer (some ⟨pm, 0, none⟩)] w fun e w' => e = .returned (.bool true) ∧ Below w.heap.size w w' := by
  have H := hid h
  obtain ⟨as0, cs, cc0, cc3, cc4, cfr⟩ := h.m.cells
  clear h cfr
  have hn := H.out.m.ok.n2
  have hz := below_drewN w
  have HZ := hid hz
  clear hz
  cases ho : D.off with
  | true =>
    rw [ho] at cc3
    have hdn := fun n => down_any (w.drewN n) p od D (H.out.drewN n).d
    rw [ho] at hdn
    have HDN := hid hdn
    clear hdn ho
    go_enter Try.func72, Try.ntmps72
    go_wp2_with fail
    go_quiet ((first | (go_at_call 59; exact quiet_mine (ops_any _ _ _ _ (H.out.drewN _).d)) | (go_at_call 61; exact quiet_mine (HDN.out _)) | (go_at_call 60; exact quiet_mine (pages_any _ _ _ _ (H.out.drewN _).d))))
    go_wp2_with (go_at_call 61; refine (HDN.out nq).mono ?_; rintro e w1 ⟨rfl, rfl⟩)
    go_ret
    exact ⟨rfl, HZ.out nq⟩
  | false =>
    rw [ho] at cc3
    have hdn := fun n => down_any (w.drewN n) p od D (H.out.drewN n).d
    rw [ho] at hdn
    have HDN := hid hdn
    have HO := hid ho
    clear hdn ho
    go_enter Try.func72, Try.ntmps72
    go_wp2_with fail
    go_quiet ((first | (go_at_call 59; exact quiet_mine (ops_any _ _ _ _ (H.out.drewN _).d)) | (go_at_call 61; exact quiet_mine (HDN.out _)) | (go_at_call 60; exact quiet_mine (pages_any _ _ _ _ (H.out.drewN _).d))))
    have H1 := hid (H.out.drewN nq)
    have HB1 := hid (HZ.out nq)
    have HDN1 := hid (HDN.out nq)
    have cc0' : (w.drewN nq).cell? ⟨pm, 0, none⟩ = some (.slice as0 D.safe.length cs) := cc0
    clear cc0 cc3 cc4 H HDN HZ
    generalize w.drewN nq = w1 at *
    go_wp2_with (go_at_call 61; refine HDN1.out.mono ?_; rintro e w2 ⟨rfl, rfl⟩)
    clear HDN1 cc0'
    go_loopw [41] (fun i wr => ∃ k : Nat, k ≤ D.safe.length ∧ i = I k ∧ Hid (Below w1.heap.size w1 wr)) (fun i _ => D.safe.length - (intOf i).toNat)
    case atStart => exact ⟨0, by omega, rfl, hid (Below.refl _ _)⟩
    case round =>
      obtain ⟨k, hk, rfl, HB⟩ := hrel
      by_cases hlt : k < D.safe.length
      · have f1 : decide ((k : Int) < (D.safe.length : Int)) = true := decide_eq_true (by omega)
        have hrd := read_any wr p od D (k : Int) (H1.out.on HB.out).d (by omega)
        rw [DS.read_ok HO.out hlt] at hrd
        have hll : (DS.look D.safe D.waits k).length = 256 := DS.look_len H1.out.m.ok.page H1.out.m.ok.wait hlt
        have hlk := fun (w' : World) (hb : Below wr.heap.size wr w') => rlook_any w' pm om D k ((H1.out.on HB.out).on hb).m hlt
        generalize DS.look D.safe D.waits k = q at *
        unfold Fresh2 at hrd
        simp only [hll] at hrd
        have HRD := hid hrd
        have HLK := hid hlk
        have HLL := hid hll
        clear hrd hlk hll
        go_upto_region 9 with (go_at_call 58; refine HRD.out.mono ?_; rintro e w2 ⟨v2, rfl, ho2, hb2⟩; obtain ⟨a2, c2, rfl⟩ := own_form ho2; have HS2 := hid (own_sees' ho2 HLL.out); have HB2 := hid hb2; clear ho2 hb2)
        have k2 : ∀ w', Ext w2.drew w' → (convert 23 9 (.slice a2 256 c2)).run Try.prog w' = .ok (.string (str q)) w' := fun w' hh => run_str Try.underlying23 Try.underlying5 Try.underlying9 (HS2.out.below (Ext.trans _ _ _ (Ext.drew w2) hh))
        have hlk2 := HLK.out w2.drew (HB2.out.trans ((Ext.drew w2).mono HB2.out.size))
        refine wp_region_order Ext [] [(0,0),(1,0),(2,0),(3,0),(4,0),(5,0),(6,0),(7,1),(8,0),(9,0),(10,0)] _ (by kernel_rfl) rfl Ext.refl Ext.trans (by kernel_rfl) (by simp only [pick, List.getElem?_toArray, List.getElem?_cons_zero, List.getElem?_cons_succ]; rfl) (fun c a d v w h => by cases d <;> exact h) ?_
        refine wpK_q (v := ?_) (a' := ?_) (by rfl) (fun w' hR => ?_) ?_ ?_
        rotate_left 2
        · go_simp; with_reducible rfl
        · simp only [Act.put, List.setIfInBounds_toArray, List.set_cons_zero, List.set_cons_succ]; rfl
        refine wpK_q (v := ?_) (a' := ?_) (by rfl) (fun w' hR => ?_) ?_ ?_
        rotate_left 2
        · go_simp; with_reducible rfl
        · simp only [Act.put, List.setIfInBounds_toArray, List.set_cons_zero, List.set_cons_succ]; rfl
        refine wpK_q (v := ?_) (a' := ?_) (by rfl) (fun w' hR => ?_) ?_ ?_
        rotate_left 2
        · go_simp; with_reducible rfl
        · simp only [Act.put, List.setIfInBounds_toArray, List.set_cons_zero, List.set_cons_succ]; rfl
        refine wpK_q (v := ?_) (a' := ?_) (by rfl) (fun w' hR => ?_) ?_ ?_
        rotate_left 2
        · go_simp; with_reducible rfl
        · simp only [Act.put, List.setIfInBounds_toArray, List.set_cons_zero, List.set_cons_succ]; rfl
        refine wpK_q (v := ?_) (a' := ?_) (by rfl) (fun w' hR => ?_) ?_ ?_
        rotate_left 2
        · go_simp; with_reducible rfl
        · simp only [Act.put, List.setIfInBounds_toArray, List.set_cons_zero, List.set_cons_succ]; rfl
        refine wpK_q (v := ?_) (a' := ?_) (by rfl) (fun w' hR => ?_) ?_ ?_
        rotate_left 2
        · go_simp; with_reducible rfl
        · simp only [Act.put, List.setIfInBounds_toArray, List.set_cons_zero, List.set_cons_succ]; rfl
        refine wpK_q (v := ?_) (a' := ?_) (by rfl) (fun w' hR => ?_) ?_ ?_
        rotate_left 2
        · go_simp; with_reducible rfl
        · simp only [Act.put, List.setIfInBounds_toArray, List.set_cons_zero, List.set_cons_succ]; rfl
        refine wpK_call Try.func84 (by kernel_rfl) rfl rfl (by rfl) #[.pointer (some ⟨pm, 0, none⟩), .int .i64 (k : Int)] (by simp only [List.map_toArray, List.map_cons, List.map_nil]; rfl) ?_
        refine hlk2.mono ?_
        rintro e w3 ⟨rfl, v3, rfl, hs3, -⟩
        refine ⟨_, rfl, fun _ => Ext.refl _, ?_⟩
        have k3 : ∀ w', Ext w2.drew w' → (convert 23 9 v3).run Try.prog w' = .ok (.string (str q)) w' := fun w' hh => run_str Try.underlying23 Try.underlying5 Try.underlying9 (hs3.below hh)
        have hse : ((str q).toList == (str q).toList) = true := beq_self_eq_true _
        refine wpK_q (v := ?_) (a' := ?_) (by rfl) (fun w' hR => ?_) ?_ ?_
        rotate_left 2
        · go_simp; with_reducible rfl
        · simp only [Act.put, List.setIfInBounds_toArray, List.set_cons_zero, List.set_cons_succ]; rfl
        refine wpK_q (v := ?_) (a' := ?_) (by rfl) (fun w' hR => ?_) ?_ ?_
        rotate_left 2
        · go_simp; with_reducible rfl
        · simp only [Act.put, List.setIfInBounds_toArray, List.set_cons_zero, List.set_cons_succ]; rfl
        refine wpK_q (v := ?_) (a' := ?_) (by rfl) (fun w' hR => ?_) ?_ ?_
        rotate_left 2
        · go_simp; with_reducible rfl
        · simp only [Act.put, List.setIfInBounds_toArray, List.set_cons_zero, List.set_cons_succ]; rfl
        refine wpK_done ?_
        have HBX := hid (HB.out.trans ((HB2.out.trans ((Ext.drew w2).mono HB2.out.size)).mono HB.out.size))
        clear k2 k3 hlk2 hs3
        go_wp2_with fail
        go_roundw
        case rel => exact ⟨k + 1, by omega, by go_num, HBX⟩
        case measure => simp [intOf]; omega
      · have f1 : decide ((k : Int) < (D.safe.length : Int)) = false := decide_eq_false (by omega)
        go_wp2_with fail
        go_ret
        exact ⟨rfl, HB1.out.trans (HB.out.mono HB1.out.size)⟩
end Go.Proofs.Ytoaeapnkefjpaaa

namespace Go.Proofs.Ytoaeapnkefjpaaa
open Go.RowKit
set_option linter.unusedVariables false
set_option linter.unusedSimpArgs false
namespace TS
/-- The drum's stretch holds these records, and nothing behind. -/
structure On (D : DS) (lo hi : Nat) (recs : List (List UInt8)) : Prop where
  live : Live D
  lt : lo < hi
  le : hi ≤ D.safe.length
  bytes : ∃ rest, stretch D lo (hi - lo) = encs 0 recs ++ rest ∧ Stop rest
  small : ∀ r ∈ recs, r.length ≤ 65536
/-- And the tape knows it. -/
structure Holds (D : DS) (T : TS) (recs : List (List UInt8)) : Prop where
  on : On D T.lo T.hi recs
  ok : T.Ok D.safe.length
  sick : T.sick = 0
  count : T.count = recs.length
  pos : T.pos = (encs 0 recs).length
theorem encs_count : ∀ (recs : List (List UInt8)) (c : Nat), recs.length ≤ (encs c recs).length
  | [], _ => Nat.le_refl _
  | r :: rs, c => by
    have := encs_count rs (c + 1)
    rw [encs, List.length_append, List.length_cons, List.length_cons]
    omega
theorem On.opn {D : DS} {lo hi : Nat} {recs : List (List UInt8)} (h : On D lo hi recs) : opn D lo hi = (0, recs, (encs 0 recs).length, recs.length) := by
  obtain ⟨rest, hb, hs⟩ := h.bytes
  have hl := stretch_len h.live.ok (lo := lo) (n := hi - lo) (by have := h.le; have := h.lt; omega)
  unfold TS.opn
  have h1 : ¬ ((lo : Int) < 0 ∨ (D.safe.length : Int) < (hi : Int) ∨ (hi : Int) ≤ (lo : Int)) := by have := h.le; have := h.lt; omega
  rw [if_neg h1, if_neg (by simp [h.live.on])]
  simp only [Int.toNat_natCast]
  rw [hb]
  have hc := encs_count recs 0
  have := opened_enc recs [] rest 0 ((hi - lo) * 256 + 1) [] hs h.small (by rw [hb, List.length_append] at hl; omega)
  simpa using this
theorem On.holds {D : DS} {lo hi : Nat} {recs : List (List UInt8)} (h : On D lo hi recs) : Holds D ⟨lo, hi, (encs 0 recs).length, recs.length, 0⟩ recs := by
  obtain ⟨rest, hb, hs⟩ := h.bytes
  have hl := stretch_len h.live.ok (lo := lo) (n := hi - lo) (by have := h.le; have := h.lt; omega)
  rw [hb, List.length_append] at hl
  have hc := encs_count recs 0
  exact ⟨h, ⟨h.lt, h.le, by show (encs 0 recs).length ≤ (hi - lo) * 256; omega, hc, by show (-9223372036854775808 : Int) ≤ 0 ∧ (0 : Int) ≤ 9223372036854775807; omega⟩, rfl, rfl, rfl⟩
theorem Holds.append {D : DS} {T : TS} {recs : List (List UInt8)} (h : Holds D T recs) {r : List UInt8} (hr : r.length ≤ 65536) (hs : T.pos + 12 + r.length ≤ T.size) :
    (TS.append D T r).1 = 0 ∧ Holds (TS.append D T r).2.1 (TS.append D T r).2.2 (recs ++ [r]) ∧ (TS.append D T r).2.2.lo = T.lo ∧ (TS.append D T r).2.2.hi = T.hi ∧ (TS.append D T r).2.2.pos = T.pos + 12 + r.length := by
  have e : TS.append D T r = doIt D T r := by
    unfold TS.append
    rw [if_neg (by omega), if_neg (by simp [h.sick]), if_neg (by omega)]
  obtain ⟨h1, h2, h3, h4, rest, h5, h6⟩ := doIt_live h.on.live h.ok hs
  rw [e, h2]
  obtain ⟨rest0, hb, -⟩ := h.on.bytes
  have henc : encs 0 (recs ++ [r]) = encs 0 recs ++ (1 :: (framed recs.length r ++ r)) := by rw [encs_snoc, Nat.zero_add]
  have hp : T.pos + 12 + r.length = (encs 0 (recs ++ [r])).length := by
    rw [henc, List.length_append, ← h.pos, List.length_cons, List.length_append, framed_len]; omega
  refine ⟨h1, ⟨⟨h3, h.on.lt, by rw [h4]; exact h.on.le, ⟨rest, ?_, h6⟩, fun x hx => ?_⟩, ⟨h.ok.lt, by rw [h4]; exact h.ok.le, hs, by have := h.ok.count; show T.count + 1 ≤ T.pos + 12 + r.length; omega, h.ok.sick⟩, h.sick, ?_, hp⟩, rfl, rfl, rfl⟩
  · show stretch (doIt D T r).2.1 T.lo (T.hi - T.lo) = _
    rw [h5, hb, h.pos, List.take_left' rfl, henc, h.count]
  · rcases List.mem_append.1 hx with hx | hx
    · exact h.on.small x hx
    · rw [List.mem_singleton.1 hx]; exact hr
  · show T.count + 1 = _
    rw [List.length_append, h.count]; rfl
theorem Holds.full {D : DS} {T : TS} {recs : List (List UInt8)} (h : Holds D T recs) {r : List UInt8} (hr : r.length ≤ 65536) (hs : T.size < T.pos + 12 + r.length) : TS.append D T r = (22, D, T) := by
  unfold TS.append
  rw [if_neg (by omega), if_neg (by simp [h.sick]), if_pos hs]
/-- A stretch that begins with a nought holds nothing. -/
theorem On.start {D : DS} {lo hi : Nat} (h : Live D) (h1 : lo < hi) (h2 : hi ≤ D.safe.length) (h3 : (DS.look D.safe D.waits lo).head? = some 0) : On D lo hi [] := by
  refine ⟨h, h1, h2, ⟨stretch D lo (hi - lo), rfl, .inr ?_⟩, fun r hr => by simp at hr⟩
  rw [List.head?_eq_getElem?, stretch_get h.ok (by omega) (by omega), Nat.zero_div, Nat.zero_mod, Nat.add_zero, ← List.head?_eq_getElem?]
  exact h3
theorem On.new {n lo hi : Nat} (hn : 1 ≤ n) (hn2 : n ≤ 4096) (h1 : lo < hi) (h2 : hi ≤ n) : On (DS.new n) lo hi [] := by
  have hok : (DS.new n).Ok := by
    have := DS.Ok.new (n : Int)
    have e : DS.clamp (n : Int) = n := by unfold DS.clamp; omega
    rwa [e] at this
  refine On.start ⟨hok, rfl, rfl⟩ h1 (by show hi ≤ (List.replicate n page0).length; rw [List.length_replicate]; exact h2) ?_
  rw [DS.look_new n lo (by omega)]
  rfl
/-- Cleared. -/
theorem On.clear {D : DS} {lo hi : Nat} (h : Live D) (h1 : lo < hi) (h2 : hi ≤ D.safe.length) : (D.write lo page0).1 = 0 ∧ On (D.write lo page0).2 lo hi [] := by
  obtain ⟨a1, a2, a3, a4⟩ := write_live h (a := lo) (by omega) page0_len
  refine ⟨a1, On.start a2 h1 (by rw [a3]; exact h2) ?_⟩
  rw [a4, if_pos rfl]
  rfl
end TS
end Go.Proofs.Ytoaeapnkefjpaaa

namespace Go.Proofs.Ytoaeapnkefjpaaa
open Go.RowKit
set_option linter.unusedVariables false
set_option linter.unusedSimpArgs false
namespace Sum
theorem num_digs8 (s : Int) (h0 : 0 ≤ s) (h1 : s < 18446744073709551616) : ∀ j, j ≤ 8 → num (digs s j) = s / 256 ^ (8 - j) := by
  intro j
  induction j with
  | zero =>
    intro _
    have e : (256 : Int) ^ (8 - 0) = 18446744073709551616 := by decide
    rw [e]
    show (0 : Int) = _
    omega
  | succ j ih =>
    intro hj
    rw [digs_succ, num_snoc, ih (by omega)]
    unfold nst
    rw [dig_val, show 8 - j = (7 - j) + 1 from by omega, show 8 - (j + 1) = 7 - j from by omega, Int.pow_succ, ← Int.ediv_ediv_of_nonneg (by exact Int.le_of_lt (Int.pow_pos (by decide)))]
    omega
theorem num_of_be8 (s : Int) (h0 : 0 ≤ s) (h1 : s < 18446744073709551616) : num (be8 s) = s := by
  have := num_digs8 s h0 h1 8 (by omega)
  simpa [be8] using this
theorem add_tells (s : Int) (l : List UInt8) (i : Nat) (hi : i < l.length) (y : UInt8) (hy : y ≠ l[i]) : be8 (add s (l.set i y)) ≠ be8 (add s l) := by
  intro h
  have r1 := add_range s (l.set i y)
  have r2 := add_range s l
  have h2 : add s (l.set i y) = add s l := by
    rw [← num_of_be8 _ r1.1 (by omega), h, num_of_be8 _ r2.1 (by omega)]
  have e1 : l.set i y = l.take i ++ y :: l.drop (i + 1) := by rw [List.set_eq_take_append_cons_drop, if_pos hi]
  have e2 : l.take i ++ l[i] :: l.drop (i + 1) = l := by rw [List.getElem_cons_drop, List.take_append_drop]
  have b := lo_range s
  have n2 := tellsR (lo s) (l.take i) (l.drop (i + 1)) y l[i] hy
  rw [← e1, e2, ← lo_add, ← lo_add, h2] at n2
  exact n2 rfl
end Sum
namespace TS
/-- The records ahead are found, whatever stands behind. -/
theorem opened_skip : ∀ (recs : List (List UInt8)) (A rest : List UInt8) (c fuel : Nat) (acc : List (List UInt8)), (∀ r ∈ recs, r.length ≤ 65536) → recs.length ≤ fuel →
    opened (A ++ encs c recs ++ rest) fuel A.length c acc = opened (A ++ encs c recs ++ rest) (fuel - recs.length) (A ++ encs c recs).length (c + recs.length) (acc ++ recs)
  | [], A, rest, c, fuel, acc, _, hf => by simp [encs]
  | r :: rs, A, rest, c, fuel, acc, hr, hf => by
    obtain ⟨k, rfl⟩ : ∃ k, fuel = k + 1 := ⟨fuel - 1, by rw [List.length_cons] at hf; omega⟩
    have e1 : A ++ encs c (r :: rs) ++ rest = A ++ (1 :: (framed c r ++ r)) ++ (encs (c + 1) rs ++ rest) := by rw [encs]; simp
    have e2 : A ++ encs c (r :: rs) ++ rest = (A ++ (1 :: (framed c r ++ r))) ++ encs (c + 1) rs ++ rest := by rw [encs]; simp
    have e3 : A.length + 12 + r.length = (A ++ (1 :: (framed c r ++ r))).length := by simp only [List.length_append, List.length_cons, framed_len]; omega
    have hfd := found_enc (A := A) (rest := encs (c + 1) rs ++ rest) (c := c) (hr r (by simp))
    have h1 : opened (A ++ encs c (r :: rs) ++ rest) (k + 1) A.length c acc = opened (A ++ encs c (r :: rs) ++ rest) k (A.length + 12 + r.length) (c + 1) (acc ++ [r]) := by
      rw [opened, e1, hfd]
    rw [h1, e2, e3, opened_skip rs _ rest (c + 1) k (acc ++ [r]) (fun x hx => hr x (by simp [hx])) (by rw [List.length_cons] at hf; omega)]
    have e4 : A ++ (1 :: (framed c r ++ r)) ++ encs (c + 1) rs = A ++ encs c (r :: rs) := by rw [encs]; simp
    rw [e4, List.length_cons, show c + 1 + rs.length = c + (rs.length + 1) from by omega, show k + 1 - (rs.length + 1) = k - rs.length from by omega]
    simp
/-- A record with one byte changed is no record. -/
theorem found_changed {A rest r : List UInt8} {c j : Nat} {y : UInt8} (hr : r.length ≤ 65536) (hj : j = 0 ∨ 4 ≤ j) (hj2 : j < 12 + r.length) (hy : y ≠ (1 :: (framed c r ++ r)).getD j 0) :
    found (A ++ (1 :: (framed c r ++ r)).set j y ++ rest) A.length c = .no ∨ (∃ e, (e = 11 ∨ e = 12) ∧ found (A ++ (1 :: (framed c r ++ r)).set j y ++ rest) A.length c = .bad e) := by
  have hfl := framed_len c r
  rcases hj with rfl | hj
  · have hS : A ++ (1 :: (framed c r ++ r)).set 0 y ++ rest = A ++ (y :: (framed c r ++ r) ++ rest) := by simp
    rw [hS]
    generalize hT : framed c r ++ r ++ rest = T
    have hl : (A ++ (y :: (framed c r ++ r) ++ rest)).length = A.length + 12 + r.length + rest.length := by
      simp only [List.length_append, List.length_cons, hfl]; omega
    have h1 : (A ++ (y :: (framed c r ++ r) ++ rest)).getD A.length 0 = y := by
      rw [List.getD_eq_getElem?_getD, List.getElem?_append_right (Nat.le_refl _), Nat.sub_self]
      rfl
    have hy1 : y ≠ 1 := by simpa using hy
    unfold found
    rw [if_neg (by omega), h1]
    by_cases h0 : y = 0
    · exact .inl (by rw [if_pos h0])
    · refine .inr ⟨11, .inl rfl, ?_⟩
      rw [if_neg h0, if_neg (fun h => hy1 h.1)]
  · obtain ⟨k, rfl⟩ : ∃ k, j = k + 1 := ⟨j - 1, by omega⟩
    rw [List.set_cons_succ]
    have hy' : y ≠ (framed c r ++ r).getD k 0 := by simpa using hy
    -- what stands there: F ahead, R behind
    obtain ⟨F, R, hFR, hFl, hRl, hF3, hne⟩ : ∃ F R, (framed c r ++ r).set k y = F ++ R ∧ F.length = 11 ∧ R.length = r.length ∧ F.take 3 = size3 r.length ∧ framed c R ≠ F := by
      by_cases hk : k < 11
      · refine ⟨(framed c r).set k y, r, by rw [List.set_append_left _ _ (by omega)], by rw [List.length_set]; exact hfl, rfl, ?_, ?_⟩
        · rw [List.take_set, List.set_eq_of_length_le (by rw [List.length_take]; omega)]
          unfold framed
          exact List.take_left' (size3_len _)
        · intro e
          have e1 : ((framed c r).set k y)[k]? = some y := by rw [List.getElem?_set_self (by omega)]
          rw [← e] at e1
          rw [List.getD_eq_getElem?_getD, List.getElem?_append_left (by omega), e1] at hy'
          exact hy' rfl
      · have hkr : k - 11 < r.length := by omega
        refine ⟨framed c r, r.set (k - 11) y, by rw [List.set_append_right _ _ (by omega), hfl], hfl, by simp, ?_, ?_⟩
        · unfold framed
          exact List.take_left' (size3_len _)
        · intro e
          unfold framed at e
          rw [List.length_set] at e
          have e1 := List.append_cancel_left e
          refine Sum.add_tells _ r (k - 11) hkr y ?_ e1
          rw [List.getD_eq_getElem?_getD, List.getElem?_append_right (by omega), hfl, List.getElem?_eq_getElem hkr] at hy'
          simpa using hy'
    rw [hFR]
    obtain ⟨S, hS⟩ : ∃ S, S = A ++ (1 :: (F ++ R)) ++ rest := ⟨_, rfl⟩
    rw [← hS]
    have hl : S.length = A.length + 12 + r.length + rest.length := by
      rw [hS]; simp only [List.length_append, List.length_cons, hFl, hRl]; omega
    have hd : S.drop (A.length + 1) = F ++ (R ++ rest) := by
      rw [hS, List.append_assoc, ← List.drop_drop, List.drop_left]
      simp
    have h1 : S.getD A.length 0 = 1 := by
      rw [hS, List.append_assoc, List.getD_eq_getElem?_getD, List.getElem?_append_right (Nat.le_refl _), Nat.sub_self]
      rfl
    have h11 : (S.drop (A.length + 1)).take 11 = F := by
      rw [hd]
      exact List.take_left' hFl
    have h3 : (S.drop (A.length + 1)).take 3 = size3 r.length := by
      rw [hd, List.take_append_of_le_length (by omega)]
      exact hF3
    have hla : lenAt S A.length = r.length := by
      unfold lenAt
      rw [h3, num_size3 (by omega)]
    have h12 : (S.drop (A.length + 12)).take r.length = R := by
      have : S.drop (A.length + 12) = R ++ rest := by
        rw [show A.length + 12 = A.length + 1 + 11 from rfl, ← List.drop_drop, hd]
        exact List.drop_left' hFl
      rw [this]
      exact List.take_left' hRl
    refine .inr ⟨12, .inr rfl, ?_⟩
    unfold found
    rw [if_neg (by omega), if_neg (by rw [h1]; decide), hla, if_pos ⟨h1, hr, by omega⟩, h12, h11, if_neg hne]
theorem stretch_set {D D' : DS} (h : D.Ok) (h' : D'.Ok) {lo n a : Nat} (hn : lo + n ≤ D.safe.length) (hn' : lo + n ≤ D'.safe.length) (ha : a < n * 256) {y : UInt8}
    (hlook : ∀ k, DS.look D'.safe D'.waits k = if lo + a / 256 = k then (DS.look D.safe D.waits (lo + a / 256)).set (a % 256) y else DS.look D.safe D.waits k) : stretch D' lo n = (stretch D lo n).set a y := by
  have l1 := stretch_len h hn
  have l2 := stretch_len h' hn'
  apply List.ext_getElem?
  intro j
  by_cases hj : j < n * 256
  · rw [stretch_get h' hn' hj, hlook, List.getElem?_set]
    by_cases e : a / 256 = j / 256
    · rw [if_pos (by omega), List.getElem?_set]
      by_cases e2 : a % 256 = j % 256
      · have e3 : a = j := by omega
        subst e3
        have := DS.look_len h.page h.wait (k := lo + a / 256) (by omega)
        rw [if_pos rfl, if_pos (by omega), if_pos rfl, if_pos (by omega)]
      · rw [if_neg e2, if_neg (by omega), stretch_get h hn hj, e]
    · rw [if_neg (by omega), if_neg (by intro e2; exact e (by rw [e2])), stretch_get h hn hj]
  · rw [List.getElem?_eq_none (by omega), List.getElem?_eq_none (by rw [List.length_set]; omega)]
theorem encs_split (recs : List (List UInt8)) (i : Nat) (r : List UInt8) (hr : recs[i]? = some r) : encs 0 recs = encs 0 (recs.take i) ++ ((1 :: (framed i r ++ r)) ++ encs (i + 1) (recs.drop (i + 1))) := by
  have key : ∀ (l : List (List UInt8)) (c i : Nat) (r : List UInt8), l[i]? = some r → encs c l = encs c (l.take i) ++ ((1 :: (framed (c + i) r ++ r)) ++ encs (c + i + 1) (l.drop (i + 1))) := by
    intro l
    induction l with
    | nil => intro c i r h; simp at h
    | cons x l ih =>
      intro c i r h
      cases i with
      | zero =>
        simp only [List.getElem?_cons_zero, Option.some.injEq] at h
        subst h
        simp [encs]
      | succ i =>
        rw [List.take_succ_cons, encs, encs, List.drop_succ_cons, ih (c + 1) i r (by simpa using h), List.append_assoc, show c + 1 + i = c + (i + 1) from by omega]
  have := key recs 0 i r hr
  simpa using this
/-- The law. -/
theorem On.tells {D : DS} {lo hi : Nat} {recs : List (List UInt8)} (h : On D lo hi recs) {i a : Nat} {r : List UInt8} (hr : recs[i]? = some r) (h1 : (encs 0 (recs.take i)).length ≤ a) (h2 : a < (encs 0 (recs.take i)).length + 12 + r.length)
    (h3 : a - (encs 0 (recs.take i)).length = 0 ∨ 4 ≤ a - (encs 0 (recs.take i)).length) {y : UInt8} (hy : y ≠ (DS.look D.safe D.waits (lo + a / 256)).getD (a % 256) 0) {D' : DS} (hl' : Live D') (hs' : D'.safe = D.safe)
    (hlook : ∀ k, DS.look D'.safe D'.waits k = if lo + a / 256 = k then (DS.look D.safe D.waits (lo + a / 256)).set (a % 256) y else DS.look D.safe D.waits k) :
    ((TS.opn D' lo hi).1 = 0 ∧ (TS.opn D' lo hi).2.1 = recs.take i) ∨ ((TS.opn D' lo hi).1 = 11 ∨ (TS.opn D' lo hi).1 = 12) := by
  obtain ⟨rest, hb, -⟩ := h.bytes
  have hlt := h.lt
  have hle := h.le
  have hl := stretch_len h.live.ok (lo := lo) (n := hi - lo) (by omega)
  have hsp := encs_split recs i r hr
  obtain ⟨A, hA⟩ : ∃ A, A = encs 0 (recs.take i) := ⟨_, rfl⟩
  rw [← hA] at hsp h1 h2 h3
  obtain ⟨tail, ht⟩ : ∃ tail, tail = encs (i + 1) (recs.drop (i + 1)) ++ rest := ⟨_, rfl⟩
  have hS : stretch D lo (hi - lo) = A ++ (1 :: (framed i r ++ r)) ++ tail := by rw [hb, hsp, ht]; simp
  have hXl : (1 :: (framed i r ++ r)).length = 12 + r.length := by rw [List.length_cons, List.length_append, framed_len]; omega
  have hal : a < (hi - lo) * 256 := by rw [← hl, hS, List.length_append, List.length_append, hXl]; omega
  have hst := stretch_set h.live.ok hl'.ok (lo := lo) (n := hi - lo) (a := a) (by omega) (by rw [hs']; omega) hal hlook
  have hyg : y ≠ (1 :: (framed i r ++ r)).getD (a - A.length) 0 := by
    have e := stretch_get h.live.ok (lo := lo) (n := hi - lo) (by omega) hal
    rw [hS, List.append_assoc, List.getElem?_append_right h1, List.getElem?_append_left (by omega)] at e
    rw [List.getD_eq_getElem?_getD] at hy ⊢
    rw [e]
    exact hy
  rw [hS, List.append_assoc, List.set_append_right _ _ h1, List.set_append_left _ _ (by omega), ← List.append_assoc] at hst
  have hi' : i < recs.length := (List.getElem?_eq_some_iff.1 hr).1
  have hil : (recs.take i).length = i := by rw [List.length_take]; omega
  have hcnt := encs_count (recs.take i) 0
  rw [hil, ← hA] at hcnt
  have hsk := opened_skip (recs.take i) [] (((1 :: (framed i r ++ r)).set (a - A.length) y) ++ tail) 0 ((hi - lo) * 256 + 1) [] (fun x hx => h.small x (List.mem_of_mem_take hx)) (by rw [hil]; omega)
  rw [← hA, hil] at hsk
  simp only [List.nil_append, List.length_nil, Nat.zero_add] at hsk
  unfold TS.opn
  have g1 : ¬ ((lo : Int) < 0 ∨ (D'.safe.length : Int) < (hi : Int) ∨ (hi : Int) ≤ (lo : Int)) := by rw [hs']; omega
  rw [if_neg g1, if_neg (by simp [hl'.on])]
  simp only [Int.toNat_natCast]
  rw [hst, List.append_assoc, hsk, ← List.append_assoc]
  obtain ⟨f, hf⟩ : ∃ f, (hi - lo) * 256 + 1 - i = f + 1 := ⟨(hi - lo) * 256 - i, by omega⟩
  rw [hf, opened]
  rcases found_changed (A := A) (rest := tail) (c := i) (h.small r (List.mem_of_getElem? hr)) h3 (by omega) hyg with e | ⟨e, he, e2⟩
  · rw [e]; exact .inl ⟨rfl, rfl⟩
  · rw [e2]; exact .inr he
end TS
end Go.Proofs.Ytoaeapnkefjpaaa

namespace Go.Proofs.Ytoaeapnkefjpaaa
open Go.RowKit
set_option linter.unusedVariables false
set_option linter.unusedSimpArgs false
/-- All but block b stays. -/
structure AllBut (b : Nat) (w w' : World) : Prop where
  m : Mod (fun k => k = b) w w'
theorem AllBut.refl {b : Nat} (w : World) : AllBut b w w := ⟨Mod.refl _ _⟩
theorem AllBut.trans {b : Nat} (w w' w'' : World) (h : AllBut b w w') (k : AllBut b w' w'') : AllBut b w w'' := ⟨h.m.trans k.m⟩
theorem AllBut.sees {b : Nat} {w w' : World} (h : AllBut b w w') {v : Value} {l : List UInt8} (hv : Sees w v l) (hb : ∀ k, v.ownBlock = some k → k < w.heap.size ∧ k ≠ b) : Sees w' v l := hv.keep (fun k hk => h.m.block k (hb k hk).1 (hb k hk).2)
set_option maxRecDepth 100000 in
set_option maxHeartbeats 1600000 in
theorem wakes4_any (w : World) : Calls Try.prog 64 #[] w fun e w' => e = .returned (.bool true) ∧ Below w.heap.size w w' := by
  have k23 := fun (w : World) (C : Array Value) (n c : Nat) => Lib.run_convert_bytes_const (P := Try.prog) w 23 5 C n c Try.underlying23 Try.underlying5
  go_enter Try.func64, Try.ntmps64
  go_wp2_with (go_at_call 36; refine (st_new _ 3 (by omega)).mono ?_; rintro e w1 ⟨p, own, rfl, h⟩; have H := hid (show St w own p Wk4.D0 w1 from h); clear h)
  have hop := tst_open H.out 1 3 (by omega) (by omega)
  rw [Wk4.opn0] at hop
  refine hop.mono ?_
  rintro e w2 (⟨h1, -⟩ | ⟨-, t, v, rfl, ht, hlt, hrc, hb⟩)
  · exact absurd rfl h1
  obtain ⟨ao, co, rfl⟩ := hrc.form
  have HT := hid (show TSt w own p t Wk4.T0 Wk4.D0 w2 from ht)
  clear ht hrc hb hop H hlt
  rw [show (((0 : Int), ([] : List (List UInt8)), (0 : Nat), (0 : Nat)).snd.fst.length) = 0 from rfl]
  have hS := Sees.lit w2 Wk4.hi2 (2, 3) (by decide)
  have hcells : (Wk4.hi2.map B).toArray = #[Value.int .u8 104, Value.int .u8 105] := rfl
  rw [hcells] at hS
  have hb : Below w2.heap.size w2 (w2.alloc (.cells #[.int .u8 104, .int .u8 105] 5 (2, 3))) := (Below.refl _ _).alloc (Nat.le_refl _) _
  have hap := tst_append (HT.out.on hb) (v := .slice (some ⟨w2.heap.size, 0, none⟩) 2 2) (r := Wk4.hi2) hS (by decide)
  have hap2 : Calls Try.prog 66 #[.pointer (some ⟨t, 0, none⟩), .slice (some ⟨w2.heap.size, 0, none⟩) 2 2] (w2.alloc (.cells #[.int .u8 104, .int .u8 105] 5 (2, 3))) fun e w' => e = .returned (I 0) ∧ ∃ own', TSt w own' p t Wk4.T1 Wk4.D1 w' := hap.mono fun e w' hx => by
    obtain ⟨h1, own', h2, -⟩ := hx
    exact ⟨by rw [h1]; show Ending.returned (I Wk4.X1.1) = _; rw [Wk4.x1], own', h2⟩
  have HAP := hid hap2
  clear hS hcells hb hap hap2
  go_wp2_with (go_at_call 66; refine HAP.out.mono ?_; rintro e w4 ⟨rfl, own', ht⟩; have HT2 := hid ht; clear ht)
  have hops := ops_any w4 p own' Wk4.D1 HT2.out.drum.at'
  rw [Wk4.ops1] at hops
  refine hops.mono ?_
  rintro e w5 ⟨rfl, rfl⟩
  clear hops
  go_wp2_with fail
  have hrd := st_read HT2.out.drum 1 (by omega)
  rw [Wk4.rd1] at hrd
  refine hrd.mono ?_
  rintro e w6 ⟨v6, rfl, hst, ho, hb⟩
  have ho' : w6.ownsRow w4.heap.size 5 1 v6 256 (Wk4.P1.map B) := own_len ho Wk4.len1 rfl
  obtain ⟨g6, cap6, rfl, g1, g2, g3, g4⟩ := own_slice ho' (by decide)
  have HS6 := hid (own_sees' ho' Wk4.len1)
  have HB6 := hid (hst.below)
  clear hrd hst ho hb ho' HAP
  go_wp2_with fail
  obtain ⟨n0, hn0⟩ : ∃ n, n = w6.heap.size := ⟨_, rfl⟩
  have hgn : g6 < n0 := by omega
  have k1 : ∀ w', AllBut n0 w6.drew w' → (convert 23 9 (.slice (some ⟨g6, 0, none⟩) 14 cap6)).run Try.prog w' = .ok (.string (str (Wk4.P1.take 14))) w' := fun w' hh => run_str Try.underlying23 Try.underlying5 Try.underlying9 (hh.sees (by
    have h0 := HS6.out
    have := Sees.take (g := g6) (off := 0) (n := 256) (cap := cap6) (L := Wk4.P1) h0 14 (by rw [Wk4.len1]; omega)
    exact this.drew) (fun k hk => by have h2 : g6 = k := Option.some.inj hk; have h3 : w6.drew.heap.size = w6.heap.size := rfl; exact ⟨by omega, by omega⟩))
  have HN0 := hid hn0
  have hcap : (14 : Int) ≤ (cap6 : Int) := by omega
  clear hn0 g1 g2 g3 g4
  refine wp_region_order (AllBut n0) [] [(0,0),(1,0),(2,0),(3,0),(4,0),(5,0),(6,0),(7,0),(8,0),(9,0),(10,0),(11,1),(12,1),(13,1),(14,0),(15,0),(16,0),(17,0)] _ (by kernel_rfl) rfl AllBut.refl AllBut.trans (by kernel_rfl) (by simp only [pick, List.getElem?_toArray, List.getElem?_cons_zero, List.getElem?_cons_succ]; rfl) (fun c a d v w h => by cases d <;> exact h) ?_
  refine wpK_q (v := ?_) (a' := ?_) (by rfl) (fun w' hR => ?_) ?_ ?_
  rotate_left 2
  · go_simp; with_reducible rfl
  · simp only [Act.put, List.setIfInBounds_toArray, List.set_cons_zero, List.set_cons_succ]; rfl
  refine wpK_q (v := ?_) (a' := ?_) (by rfl) (fun w' hR => ?_) ?_ ?_
  rotate_left 2
  · go_simp; with_reducible rfl
  · simp only [Act.put, List.setIfInBounds_toArray, List.set_cons_zero, List.set_cons_succ]; rfl
  refine wpK_q (v := ?_) (a' := ?_) (by rfl) (fun w' hR => ?_) ?_ ?_
  rotate_left 2
  · go_simp; with_reducible rfl
  · simp only [Act.put, List.setIfInBounds_toArray, List.set_cons_zero, List.set_cons_succ]; rfl
  refine wpK_q (v := ?_) (a' := ?_) (by rfl) (fun w' hR => ?_) ?_ ?_
  rotate_left 2
  · go_simp; with_reducible rfl
  · simp only [Act.put, List.setIfInBounds_toArray, List.set_cons_zero, List.set_cons_succ]; rfl
  refine wpK_q (v := ?_) (a' := ?_) (by rfl) (fun w' hR => ?_) ?_ ?_
  rotate_left 2
  · go_simp; with_reducible rfl
  · simp only [Act.put, List.setIfInBounds_toArray, List.set_cons_zero, List.set_cons_succ]; rfl
  refine wpK_q (v := ?_) (a' := ?_) (by rfl) (fun w' hR => ?_) ?_ ?_
  rotate_left 2
  · go_simp; with_reducible rfl
  · simp only [Act.put, List.setIfInBounds_toArray, List.set_cons_zero, List.set_cons_succ]; rfl
  refine wpK_q (v := ?_) (a' := ?_) (by rfl) (fun w' hR => ?_) ?_ ?_
  rotate_left 2
  · go_simp; with_reducible rfl
  · simp only [Act.put, List.setIfInBounds_toArray, List.set_cons_zero, List.set_cons_succ]; rfl
  refine wpK_q (v := ?_) (a' := ?_) (by rfl) (fun w' hR => ?_) ?_ ?_
  rotate_left 2
  · go_simp; with_reducible rfl
  · simp only [Act.put, List.setIfInBounds_toArray, List.set_cons_zero, List.set_cons_succ]; rfl
  refine wpK_q (v := ?_) (a' := ?_) (by rfl) (fun w' hR => ?_) ?_ ?_
  rotate_left 2
  · go_simp; with_reducible rfl
  · simp only [Act.put, List.setIfInBounds_toArray, List.set_cons_zero, List.set_cons_succ]; rfl
  refine wpK_q (v := ?_) (a' := ?_) (by rfl) (fun w' hR => ?_) ?_ ?_
  rotate_left 2
  · go_simp; with_reducible rfl
  · simp only [Act.put, List.setIfInBounds_toArray, List.set_cons_zero, List.set_cons_succ]; rfl
  refine wpK_q (v := ?_) (a' := ?_) (by rfl) (fun w' hR => ?_) ?_ ?_
  rotate_left 2
  · go_simp; with_reducible rfl
  · simp only [Act.put, List.setIfInBounds_toArray, List.set_cons_zero, List.set_cons_succ]; rfl
  refine wpK_v (v := .slice (some ⟨w6.heap.size, 0, none⟩) 2 2) (w' := w6.drew.alloc (.cells #[.int .u8 104, .int .u8 105] 5)) (by rfl) (by go_simp) (fun _ => ⟨Mod.alloc _⟩) (by simp only [Act.put, List.setIfInBounds_toArray, List.set_cons_zero, List.set_cons_succ]; rfl) ?_
  refine wpK_v (v := .slice (some ⟨w6.heap.size, 0, none⟩) 2 2) (w' := w6.drew.alloc (.cells #[.int .u8 104, .int .u8 105] 5 (2, 3))) (by rfl) (by have hh := val_of (k23 w6.drew #[.int .u8 104, .int .u8 105] 2 2); exact hh) (fun _ => ⟨?_⟩) (by simp only [Act.put, List.setIfInBounds_toArray, List.set_cons_zero, List.set_cons_succ]; rfl) ?_
  · refine ⟨rfl, rfl, rfl, by simp, fun k hk ho => ?_⟩
    have h1 : w6.drew.heap.size = n0 := HN0.out.symm
    have h2 : (w6.drew.alloc (.cells #[.int .u8 104, .int .u8 105] 5)).heap.size = n0 + 1 := by simp [HN0.out]
    rw [Below.heap_alloc _ _ _ (by omega), Below.heap_alloc _ _ _ (by omega)]
  have hS := Sees.lit w6.drew Wk4.hi2 (2, 3) (by decide)
  have hb7 : Below w6.heap.size w6 (w6.drew.alloc (.cells #[.int .u8 104, .int .u8 105] 5 (2, 3))) := Ext.trans _ _ _ (Ext.drew w6) ((Below.refl _ _).alloc (Nat.le_refl _) _)
  have HS7 : Hid (Sees (w6.drew.alloc (.cells #[.int .u8 104, .int .u8 105] 5 (2, 3))) (.slice (some ⟨w6.heap.size, 0, none⟩) 2 2) Wk4.hi2) := hid hS
  have HB7 := hid hb7
  have hz7 : (w6.drew.alloc (.cells #[.int .u8 104, .int .u8 105] 5 (2, 3))).heap.size = n0 + 1 := by simp [HN0.out]
  generalize w6.drew.alloc (.cells #[.int .u8 104, .int .u8 105] 5 (2, 3)) = w7 at *
  clear hS hb7
  refine wpK_call Try.func95 (by kernel_rfl) rfl rfl (by rfl) #[B 1, I 0, .slice (some ⟨w6.heap.size, 0, none⟩) 2 2] (by simp only [List.map_toArray, List.map_cons, List.map_nil]; rfl) ?_
  refine (rframe_of w7 1 0 (by omega) _ Wk4.hi2 HS7.out (by decide)).mono ?_
  rintro e w8 ⟨v8, rfl, ho8, hb8⟩
  refine ⟨_, rfl, fun _ => ⟨Mod.of_below _ hb8⟩, ?_⟩
  have hs8 := own_sees ho8
  have hl8 := fun k hk => own_lt ho8 k hk
  rw [← Wk4.frame1] at hs8
  have k2 : ∀ w', AllBut n0 w8 w' → (convert 23 9 v8).run Try.prog w' = .ok (.string (str (Wk4.P1.take 14))) w' := fun w' hh => run_str Try.underlying23 Try.underlying5 Try.underlying9 (hh.sees hs8 (fun k hk => by have := hl8 k hk; exact ⟨this.2, by omega⟩))
  have HB8 := hid hb8
  clear ho8 hb8 hs8 hl8 k1 hz7
  refine wpK_q (v := ?_) (a' := ?_) (by rfl) (fun w' hR => ?_) ?_ ?_
  rotate_left 2
  · go_simp; with_reducible rfl
  · simp only [Act.put, List.setIfInBounds_toArray, List.set_cons_zero, List.set_cons_succ]; rfl
  refine wpK_q (v := ?_) (a' := ?_) (by rfl) (fun w' hR => ?_) ?_ ?_
  rotate_left 2
  · go_simp; with_reducible rfl
  · simp only [Act.put, List.setIfInBounds_toArray, List.set_cons_zero, List.set_cons_succ]; rfl
  refine wpK_q (v := ?_) (a' := ?_) (by rfl) (fun w' hR => ?_) ?_ ?_
  rotate_left 2
  · go_simp; with_reducible rfl
  · simp only [Act.put, List.setIfInBounds_toArray, List.set_cons_zero, List.set_cons_succ]; rfl
  refine wpK_q (v := ?_) (a' := ?_) (by rfl) (fun w' hR => ?_) ?_ ?_
  rotate_left 2
  · go_simp; with_reducible rfl
  · simp only [Act.put, List.setIfInBounds_toArray, List.set_cons_zero, List.set_cons_succ]; rfl
  refine wpK_done ?_
  clear k2
  go_wp2
  go_ret
  exact ⟨rfl, HB6.out.trans ((Ext.trans _ _ _ HB7.out HB8.out).mono HB6.out.size)⟩
end Go.Proofs.Ytoaeapnkefjpaaa

namespace Go.Proofs.Ytoaeapnkefjpaaa
open Go.RowKit
set_option linter.unusedVariables false
set_option linter.unusedSimpArgs false

theorem tst_open_on {w0 w : World} {own : Nat → Prop} {p : Nat} {D : DS} {lo hi : Nat} {recs : List (List UInt8)} (h : St w0 own p D w) (ho : TS.On D lo hi recs) :
    Calls Try.prog 65 #[.pointer (some ⟨p, 0, none⟩), I lo, I hi] w fun e w' => ∃ t v, e = .returned (.tuple #[.pointer (some ⟨t, 0, none⟩), v, I 0]) ∧
      TSt w0 own p t ⟨lo, hi, (TS.encs 0 recs).length, recs.length, 0⟩ D w' ∧ w.heap.size ≤ t ∧ Recs w' (t + 1) v recs ∧ Below w.heap.size w w' := by
  have hn := h.at'.ok.n2
  have := tst_open h lo hi (by have := ho.lt; have := ho.le; omega) (by have := ho.lt; have := ho.le; omega)
  rw [ho.opn] at this
  refine this.mono fun e w' hx => ?_
  rcases hx with ⟨h1, -⟩ | ⟨-, t, v, h1, h2, h3, h4, h5⟩
  · exact absurd rfl h1
  · exact ⟨t, v, h1, h2, h3, h4, h5⟩
theorem tst_append_on {w0 w : World} {own : Nat → Prop} {p t : Nat} {T : TS} {D : DS} {recs : List (List UInt8)} (h : TSt w0 own p t T D w) (hh : TS.Holds D T recs) {v : Value} {r : List UInt8} (hv : Sees w v r) (hr : r.length ≤ 65536) (hs : T.pos + 12 + r.length ≤ T.size) (hN : D.waits.length ≤ 800000000) :
    Calls Try.prog 66 #[.pointer (some ⟨t, 0, none⟩), v] w fun e w' => e = .returned (I 0) ∧ ∃ own' T' D', TSt w0 own' p t T' D' w' ∧ TS.Holds D' T' (recs ++ [r]) ∧ T'.lo = T.lo ∧ T'.hi = T.hi ∧ T'.pos = T.pos + 12 + r.length ∧ D'.waits.length ≤ D.waits.length + 400 ∧ D'.safe.length = D.safe.length := by
  obtain ⟨h1, h2, h3, h4, h5⟩ := hh.append hr hs
  refine (tst_append h hv hN).mono fun e w' hx => ?_
  obtain ⟨k1, own', k2, -⟩ := hx
  rw [h1] at k1
  exact ⟨k1, own', _, _, k2, h2, h3, h4, h5, TS.append_waits D T r, TS.append_len D T r⟩
/-- Between two rounds of TapeClears. -/
def ClOut (w : World) (p k : Nat) (wr : World) : Prop := ∃ own D recs, St w own p D wr ∧ TS.On D 0 80 recs ∧ (k = 0 → recs = []) ∧ D.waits.length ≤ 20000 * k
/-- Between two records. -/
def ClIn (w : World) (p t k : Nat) (L : List (List UInt8)) (i : Nat) (wr : World) : Prop := ∃ own T D, TSt w own p t T D wr ∧ TS.Holds D T (L.take i) ∧ T.lo = 0 ∧ T.hi = 80 ∧ T.pos ≤ 612 * i ∧ D.waits.length ≤ 20000 * k + 1 + 400 * i
set_option maxRecDepth 100000 in
set_option maxHeartbeats 3200000 in
theorem clears_walk (w : World) (a0 : Option Addr) (cap0 : Nat) (L0 : List (List UInt8)) (h0 : Shows w (.slice a0 L0.length cap0) L0) (a1 : Option Addr) (cap1 : Nat) (L1 : List (List UInt8)) (h1 : Shows w (.slice a1 L1.length cap1) L1) :
    Calls Try.prog 18 #[.slice a0 L0.length cap0, .slice a1 L1.length cap1] w fun e w' => e = .returned (.bool true) ∧ Below w.heap.size w w' := by
  have H0 := hid h0
  have H1 := hid h1
  obtain ⟨_, _, _, m0⟩ := h0.len
  obtain ⟨_, _, _, m1⟩ := h1.len
  unfold maxLen at m0 m1
  clear h0 h1
  have hcases : 30 < L0.length ∨ (L0.length ≤ 30 ∧ 30 < L1.length) ∨ (L0.length ≤ 30 ∧ L1.length ≤ 30) := by omega
  rcases hcases with c | ⟨c, d⟩ | ⟨c, d⟩
  · have e0 : decide ((30 : Int) < (L0.length : Int)) = true := decide_eq_true (by omega)
    go_enter Try.func18, Try.ntmps18
    go_wp2_with (go_at_call 64; refine (wakes4_any _).mono ?_; rintro e w1 ⟨rfl, hb⟩; have HB := hid hb; clear hb)
    go_ret
    exact ⟨rfl, HB.out⟩
  · have e0 : decide ((30 : Int) < (L0.length : Int)) = false := decide_eq_false (by omega)
    have e1 : decide ((30 : Int) < (L1.length : Int)) = true := decide_eq_true (by omega)
    go_enter Try.func18, Try.ntmps18
    go_wp2_with (go_at_call 64; refine (wakes4_any _).mono ?_; rintro e w1 ⟨rfl, hb⟩; have HB := hid hb; clear hb)
    go_ret
    exact ⟨rfl, HB.out⟩
  · have e0 : decide ((30 : Int) < (L0.length : Int)) = false := decide_eq_false (by omega)
    have e1 : decide ((30 : Int) < (L1.length : Int)) = false := decide_eq_false (by omega)
    go_enter Try.func18, Try.ntmps18
    go_wp2_with (first | (go_at_call 64; refine (wakes4_any _).mono ?_; rintro e w1 ⟨rfl, hb⟩; have HB := hid hb; clear hb) | (go_at_call 36; refine (st_new _ 80 (by omega)).mono ?_; rintro e w2 ⟨p, own, rfl, h⟩; have HS := hid (show St w own p (DS.new 80) w2 from h.back HB.out); clear h HB))
    clear e0 e1
    go_loopw [6] (fun i wr => ∃ k : Nat, k ≤ 2 ∧ i = I k ∧ Hid (ClOut w p k wr)) (fun i _ => 2 - (intOf i).toNat)
    case atStart => exact ⟨0, by omega, rfl, hid ⟨own, _, _, HS.out, TS.On.new (by omega) (by omega) (by omega) (by omega), fun _ => rfl, by decide⟩⟩
    case round =>
      clear HS
      obtain ⟨k, hk, rfl, HK⟩ := hrel
      have hk3 : k = 0 ∨ k = 1 ∨ k = 2 := by omega
      rcases hk3 with rfl | rfl | rfl
      rotate_left 2
      · go_wp2
        go_ret
        obtain ⟨ow, D, rc, h1, -⟩ := HK.out
        exact ⟨rfl, h1.below⟩
      -- ROUNDS
      · skip
        obtain ⟨ow, D, rc, hst, hon, hrc, hwt⟩ := HK.out
        obtain rfl := hrc rfl
        have hop := tst_open_on (lo := 0) (hi := 80) hst hon
        have hop' : Calls Try.prog 65 #[.pointer (some ⟨p, 0, none⟩), I 0, I 80] wr _ := hop
        have HOP := hid hop'
        have HON := hid hon
        have HWT : Hid (D.waits.length ≤ 20000 * 0 + 1) := hid (by omega)
        clear hop hop' hst hon hrc hwt
        go_wp2_with fail
        refine HOP.out.mono ?_
        rintro e w3 ⟨t, v, rfl, ht, hlt, hrc, hb⟩
        obtain ⟨ao, co, rfl⟩ := hrc.form
        have HIN : Hid (ClIn w p t 0 L0 0 w3) := hid ⟨ow, _, D, ht, by simpa using HON.out.holds, rfl, rfl, by simp [TS.encs], by have := HWT.out; omega⟩
        clear HOP HON HWT ht hlt hrc hb HK
        rw [List.length_nil]
        go_wp2
        go_loopw [54] (fun i wr => ∃ n : Nat, n ≤ L0.length ∧ i = I n ∧ Hid (ClIn w p t 0 L0 n wr)) (fun i _ => L0.length - (intOf i).toNat)
        case atStart => exact ⟨0, by omega, rfl, HIN⟩
        case round =>
          clear HIN
          obtain ⟨n, hn, rfl, HIN⟩ := hrel
          by_cases hlt : n < L0.length
          · obtain ⟨r, hr⟩ : ∃ r, L0[n]? = some r := ⟨_, List.getElem?_eq_getElem hlt⟩
            obtain ⟨g, off, u, hga, hc, hs⟩ := H0.out.at hr
            obtain ⟨oi, T, Di, hti, hho, hlo, hhi, hps, hwt⟩ := HIN.out
            have hbw := hti.drum.below
            have hc' := (World.cell?_of_block (w := w) (a := ⟨g, off + n, none⟩) (hbw.block g (cell_lt hc))).trans hc
            have hs' := hs.below hbw
            obtain ⟨au, cu, rfl, hul⟩ := hs'.form0
            have HBW := hid hbw
            by_cases h6 : 600 < r.length
            · have h6' : decide ((600 : Int) < (r.length : Int)) = true := decide_eq_true (by omega)
              subst hga
              clear hti hho hlo hhi hps hwt hs' hbw
              go_wp2
              go_ret
              exact ⟨rfl, HBW.out⟩
            · have h6' : decide ((600 : Int) < (r.length : Int)) = false := decide_eq_false (by omega)
              have hsz : T.size = 80 * 256 := by unfold TS.size; rw [hlo, hhi]
              have hap := tst_append_on hti hho hs' (by omega) (by omega) (by omega)
              have HAP := hid hap
              have HNX := hid (fun (own' : Nat → Prop) (T' : TS) (D' : DS) (w' : World) (x1 : TSt w own' p t T' D' w') (x2 : TS.Holds D' T' (L0.take n ++ [r])) (x3 : T'.lo = T.lo) (x4 : T'.hi = T.hi) (x5 : T'.pos = T.pos + 12 + r.length) (x6 : D'.waits.length ≤ Di.waits.length + 400) =>
                (⟨own', T', D', x1, by rw [take_snoc hr]; exact x2, x3.trans hlo, x4.trans hhi, by omega, by omega⟩ : ClIn w p t 0 L0 (n + 1) w'))
              subst hga
              clear hti hho hlo hhi hps hwt hs' hbw hap hsz
              go_wp2_with (go_at_call 66; refine HAP.out.mono ?_; rintro e w4 ⟨rfl, own', T', D', x1, x2, x3, x4, x5, x6, x7⟩; have HI2 := hid (HNX.out own' T' D' w4 x1 x2 x3 x4 x5 x6); clear x1 x2 x3 x4 x5 x6 x7)
              go_roundw
              case rel => exact ⟨n + 1, by omega, by go_num, HI2⟩
              case measure => simp [intOf]; omega
          · have hnl : n = L0.length := by omega
            subst hnl
            obtain ⟨oi, T, Di, hti, hho, hlo, hhi, hps, hwt⟩ := HIN.out
            rw [List.take_length] at hho
            have hon := hho.on
            rw [hlo, hhi] at hon
            have hop := tst_open_on (lo := 0) (hi := 80) hti.drum hon
            have hop' : Calls Try.prog 65 #[.pointer (some ⟨p, 0, none⟩), I 0, I 80] wr _ := hop
            have HOP := hid hop'
            have HON := hid hon
            have HWT := hid hwt
            clear hop hop' hti hho hlo hhi hps hwt hon HIN
            go_wp2_with (go_at_call 65; refine HOP.out.mono ?_; rintro e w5 ⟨t2, v2, rfl, ht2, hlt2, hrc2, hb2⟩; obtain ⟨ao2, co2, rfl⟩ := hrc2.form; have HSH := hid hrc2.shows; have HT2 := hid ht2; clear ht2 hlt2 hrc2 hb2)
            have hal := alike_any w5 _ _ L0 L0 HSH.out (H0.out.below HT2.out.drum.below)
            rw [decide_eq_true rfl] at hal
            have HAL := hid hal
            clear hal
            go_wp2_with (go_at_call 67; refine HAL.out.mono ?_; rintro e w6 ⟨rfl, m6, rfl⟩)
            go_roundw
            case rel => exact ⟨0 + 1, by omega, by go_num, hid ⟨oi, Di, L0, HT2.out.drum.on (below_drewN _ _), HON.out, fun h => by omega, by have := HWT.out; omega⟩⟩
            case measure => simp [intOf]
      · skip
        obtain ⟨ow0, D0, rc, hst0, hon0, -, hwt⟩ := HK.out
        have hcl := tclear_any wr p ow0 D0 0 hst0.at' (by omega) (by omega)
        obtain ⟨hc1, hc2⟩ := TS.On.clear hon0.live hon0.lt hon0.le
        have hcw := DS.write_waits' D0 ((0 : Nat) : Int) page0
        have hz0 : ((0 : Nat) : Int) = 0 := rfl
        rw [hz0] at hc1 hc2 hcw
        rw [hc1] at hcl
        have HCL := hid hcl
        have HST0 := hid hst0
        have HC2 := hid hc2
        have HCW := hid (Nat.le_trans hcw (Nat.add_le_add_right hwt 1))
        clear hcl hst0 hon0 hwt hc1 hc2 hcw hz0
        go_wp2_with (go_at_call 68; refine HCL.out.mono ?_; rintro e wc ⟨rfl, hd⟩; have HD := hid hd; clear hd)
        obtain ⟨ow, hst, -⟩ := HST0.out.step' HD.out
        generalize (D0.write 0 page0).2 = D at *
        have hop := tst_open_on (lo := 0) (hi := 80) hst HC2.out
        have hop' : Calls Try.prog 65 #[.pointer (some ⟨p, 0, none⟩), I 0, I 80] wc _ := hop
        have HOP := hid hop'
        have HON := HC2
        have HWT : Hid (D.waits.length ≤ 20000 * 1 + 1) := hid (by have := HCW.out; omega)
        clear hop hop' hst HD HST0 HCL HC2 HCW
        refine HOP.out.mono ?_
        rintro e w3 ⟨t, v, rfl, ht, hlt, hrc, hb⟩
        obtain ⟨ao, co, rfl⟩ := hrc.form
        have HIN : Hid (ClIn w p t 1 L1 0 w3) := hid ⟨ow, _, D, ht, by simpa using HON.out.holds, rfl, rfl, by simp [TS.encs], by have := HWT.out; omega⟩
        clear HOP HON HWT ht hlt hrc hb HK
        rw [List.length_nil]
        go_wp2
        go_loopw [54] (fun i wr => ∃ n : Nat, n ≤ L1.length ∧ i = I n ∧ Hid (ClIn w p t 1 L1 n wr)) (fun i _ => L1.length - (intOf i).toNat)
        case atStart => exact ⟨0, by omega, rfl, HIN⟩
        case round =>
          clear HIN
          obtain ⟨n, hn, rfl, HIN⟩ := hrel
          by_cases hlt : n < L1.length
          · obtain ⟨r, hr⟩ : ∃ r, L1[n]? = some r := ⟨_, List.getElem?_eq_getElem hlt⟩
            obtain ⟨g, off, u, hga, hc, hs⟩ := H1.out.at hr
            obtain ⟨oi, T, Di, hti, hho, hlo, hhi, hps, hwt⟩ := HIN.out
            have hbw := hti.drum.below
            have hc' := (World.cell?_of_block (w := w) (a := ⟨g, off + n, none⟩) (hbw.block g (cell_lt hc))).trans hc
            have hs' := hs.below hbw
            obtain ⟨au, cu, rfl, hul⟩ := hs'.form0
            have HBW := hid hbw
            by_cases h6 : 600 < r.length
            · have h6' : decide ((600 : Int) < (r.length : Int)) = true := decide_eq_true (by omega)
              subst hga
              clear hti hho hlo hhi hps hwt hs' hbw
              go_wp2
              go_ret
              exact ⟨rfl, HBW.out⟩
            · have h6' : decide ((600 : Int) < (r.length : Int)) = false := decide_eq_false (by omega)
              have hsz : T.size = 80 * 256 := by unfold TS.size; rw [hlo, hhi]
              have hap := tst_append_on hti hho hs' (by omega) (by omega) (by omega)
              have HAP := hid hap
              have HNX := hid (fun (own' : Nat → Prop) (T' : TS) (D' : DS) (w' : World) (x1 : TSt w own' p t T' D' w') (x2 : TS.Holds D' T' (L1.take n ++ [r])) (x3 : T'.lo = T.lo) (x4 : T'.hi = T.hi) (x5 : T'.pos = T.pos + 12 + r.length) (x6 : D'.waits.length ≤ Di.waits.length + 400) =>
                (⟨own', T', D', x1, by rw [take_snoc hr]; exact x2, x3.trans hlo, x4.trans hhi, by omega, by omega⟩ : ClIn w p t 1 L1 (n + 1) w'))
              subst hga
              clear hti hho hlo hhi hps hwt hs' hbw hap hsz
              go_wp2_with (go_at_call 66; refine HAP.out.mono ?_; rintro e w4 ⟨rfl, own', T', D', x1, x2, x3, x4, x5, x6, x7⟩; have HI2 := hid (HNX.out own' T' D' w4 x1 x2 x3 x4 x5 x6); clear x1 x2 x3 x4 x5 x6 x7)
              go_roundw
              case rel => exact ⟨n + 1, by omega, by go_num, HI2⟩
              case measure => simp [intOf]; omega
          · have hnl : n = L1.length := by omega
            subst hnl
            obtain ⟨oi, T, Di, hti, hho, hlo, hhi, hps, hwt⟩ := HIN.out
            rw [List.take_length] at hho
            have hon := hho.on
            rw [hlo, hhi] at hon
            have hop := tst_open_on (lo := 0) (hi := 80) hti.drum hon
            have hop' : Calls Try.prog 65 #[.pointer (some ⟨p, 0, none⟩), I 0, I 80] wr _ := hop
            have HOP := hid hop'
            have HON := hid hon
            have HWT := hid hwt
            clear hop hop' hti hho hlo hhi hps hwt hon HIN
            go_wp2_with (go_at_call 65; refine HOP.out.mono ?_; rintro e w5 ⟨t2, v2, rfl, ht2, hlt2, hrc2, hb2⟩; obtain ⟨ao2, co2, rfl⟩ := hrc2.form; have HSH := hid hrc2.shows; have HT2 := hid ht2; clear ht2 hlt2 hrc2 hb2)
            have hal := alike_any w5 _ _ L1 L1 HSH.out (H1.out.below HT2.out.drum.below)
            rw [decide_eq_true rfl] at hal
            have HAL := hid hal
            clear hal
            go_wp2_with (go_at_call 67; refine HAL.out.mono ?_; rintro e w6 ⟨rfl, m6, rfl⟩)
            go_roundw
            case rel => exact ⟨1 + 1, by omega, by go_num, hid ⟨oi, Di, L1, HT2.out.drum.on (below_drewN _ _), HON.out, fun h => by omega, by have := HWT.out; omega⟩⟩
            case measure => simp [intOf]
namespace tapeClears
theorem walkAll (a0 : Option Addr) (cap0 : Nat) (L0 : List (List UInt8)) {w : World} (h0 : Shows w (.slice a0 L0.length cap0) L0) (a1 : Option Addr) (cap1 : Nat) (L1 : List (List UInt8)) (h1 : Shows w (.slice a1 L1.length cap1) L1) (w' : World) (e : w = w') :
    Calls Try.prog 18 #[.slice a0 L0.length cap0, .slice a1 L1.length cap1] w' fun e w'' => e = .returned (.bool true) ∧ Below w'.heap.size w' w'' := by
  subst e
  exact clears_walk w a0 cap0 L0 h0 a1 cap1 L1 h1
end tapeClears
end Go.Proofs.Ytoaeapnkefjpaaa

namespace Go.Proofs.Ytoaeapnkefjpaaa
open Go.RowKit
set_option linter.unusedVariables false
set_option linter.unusedSimpArgs false

/-- Values that came in, gathered in a row of one's own. -/
structure WantsIn (w0 w : World) (base : Nat) (v : Value) (us : List Value) (recs : List (List UInt8)) : Prop where
  row : w.ownsRow base 23 1 v recs.length us
  len : us.length = recs.length
  each : ∀ (j : Nat) (u : Value) (r : List UInt8), us[j]? = some u → recs[j]? = some r → Sees w0 u r
theorem WantsIn.nil (w0 w : World) (base : Nat) : WantsIn w0 w base (.slice none 0 0) [] [] := ⟨World.ownsRow_nil _ _ _ _, rfl, fun j u r hu => by simp at hu⟩
theorem WantsIn.keep {w0 w w' : World} {base : Nat} {v : Value} {us : List Value} {recs : List (List UInt8)} (h : WantsIn w0 w base v us recs) (hb : ∀ k, v.ownBlock = some k → w'.heap[k]? = w.heap[k]?) : WantsIn w0 w' base v us recs := ⟨own_mod h.row hb, h.len, h.each⟩
theorem WantsIn.below {w0 w w' : World} {base : Nat} {v : Value} {us : List Value} {recs : List (List UInt8)} (h : WantsIn w0 w base v us recs) (hb : Below w.heap.size w w') : WantsIn w0 w' base v us recs := h.keep (fun k hk => hb.block k (own_lt h.row k hk).2)
theorem WantsIn.push {w0 w w' : World} {base : Nat} {v v' u : Value} {us : List Value} {recs : List (List UInt8)} {r : List UInt8} (h : WantsIn w0 w base v us recs) (hr : Sees w0 u r) (ho : w'.ownsRow base 23 1 v' (recs.length + 1) (us ++ [u])) : WantsIn w0 w' base v' (us ++ [u]) (recs ++ [r]) := by
  refine ⟨own_len ho (by simp) rfl, by simp [h.len], fun j x y hx hy => ?_⟩
  by_cases hj : j < recs.length
  · rw [List.getElem?_append_left (by rw [h.len]; exact hj)] at hx
    rw [List.getElem?_append_left hj] at hy
    exact h.each j x y hx hy
  · have hlt := (List.getElem?_eq_some_iff.1 hy).1
    simp only [List.length_append, List.length_cons, List.length_nil] at hlt
    have e : j = recs.length := by omega
    subst e
    rw [List.getElem?_append_right (by rw [h.len]; exact Nat.le_refl _), h.len, Nat.sub_self] at hx
    rw [List.getElem?_append_right (Nat.le_refl _), Nat.sub_self] at hy
    simp only [List.getElem?_cons_zero, Option.some.injEq] at hx hy
    rw [← hx, ← hy]
    exact hr
theorem WantsIn.shows {w0 w : World} {base : Nat} {v : Value} {us : List Value} {recs : List (List UInt8)} (h : WantsIn w0 w base v us recs) (hb : Below w0.heap.size w0 w) : Shows w v recs := by
  by_cases h0 : 0 < recs.length
  · obtain ⟨g, cap, rfl, h1, h2, h3, h4⟩ := own_slice h.row h0
    refine ⟨_, cap, rfl, h1, h2, fun _ => ⟨g, 0, rfl, fun i r hr => ?_⟩⟩
    have hi := (List.getElem?_eq_some_iff.1 hr).1
    obtain ⟨u, hu⟩ : ∃ u, us[i]? = some u := ⟨_, List.getElem?_eq_getElem (by rw [h.len]; exact hi)⟩
    refine ⟨u, ?_, (h.each i u r hu hr).below hb⟩
    rw [Nat.zero_add]
    exact own_cell h.row hu
  · have : recs = [] := List.length_eq_zero_iff.1 (by omega)
    subst this
    rcases h.row.2 with ⟨rfl, -⟩ | ⟨g, cap, cur, rfl, hb, hg, hnc, hcm, r⟩
    · exact ⟨none, 0, rfl, Nat.le_refl _, by decide, fun h => by simp at h⟩
    · exact ⟨_, cap, rfl, hnc, hcm, fun h => by simp at h⟩
end Go.Proofs.Ytoaeapnkefjpaaa

namespace Go.Proofs.Ytoaeapnkefjpaaa
open Go.RowKit
set_option linter.unusedVariables false
set_option linter.unusedSimpArgs false

/-- A row of bytes of one's own, of so many bytes, whatever they are. -/
def Loose (w : World) (base : Nat) (u : Value) (n : Nat) : Prop := ∃ bs : List UInt8, bs.length = n ∧ w.ownsRow base 5 1 u n (bs.map B)
theorem Loose.set {w : World} {base : Nat} {u : Value} {n : Nat} (h : Loose w base u n) (g j : Nat) (c : UInt8) : Loose (w.setCell ⟨g, j, none⟩ (B c)) base u n := by
  obtain ⟨bs, hl, h1, h2⟩ := h
  rcases h2 with ⟨rfl, h0⟩ | ⟨g', cap, cur, rfl, hb, hg, hnc, hcm, hcs, ht⟩
  · exact ⟨bs, hl, h1, .inl ⟨rfl, h0⟩⟩
  · by_cases e : g' = g
    · subst e
      refine ⟨bs.set j c, by rw [List.length_set]; exact hl, by simpa using h1, .inr ⟨g', cap, cur.setIfInBounds j (B c), rfl, hb, heap_setCell_same w g' j cur 5 (B c) hg, hnc, hcm, by simpa using hcs, ?_⟩⟩
      rw [Array.toList_setIfInBounds, List.take_set, ht, ← List.map_set]
    · exact ⟨bs, hl, h1, .inr ⟨g', cap, cur, rfl, hb, (heap_setCell_other w ⟨g, j, none⟩ g' _ e).trans hg, hnc, hcm, hcs, ht⟩⟩
/-- Records whose bytes are overwritten. -/
structure LooseRecs (w : World) (base : Nat) (v : Value) (vs : List Value) (L : List (List UInt8)) : Prop where
  row : w.ownsRow base 23 1 v L.length vs
  len : vs.length = L.length
  each : ∀ (i : Nat) (u : Value) (r : List UInt8), vs[i]? = some u → L[i]? = some r → Loose w base u r.length ∧ ∀ k, u.ownBlock = some k → v.ownBlock ≠ some k
theorem LooseRecs.of {w : World} {base : Nat} {v : Value} {vs : List Value} {pb : Nat → Prop} {L : List (List UInt8)} (h : RecsIn w base v vs pb L) : LooseRecs w base v vs L :=
  ⟨h.row, h.len, fun i u r hu hr => ⟨⟨r, rfl, (h.each i u r hu hr).1⟩, fun k hk e => h.out k e ((h.each i u r hu hr).2 k hk)⟩⟩
theorem LooseRecs.set {w : World} {base : Nat} {v : Value} {vs : List Value} {L : List (List UInt8)} (h : LooseRecs w base v vs L) {g : Nat} (hg : v.ownBlock ≠ some g) (j : Nat) (c : UInt8) : LooseRecs (w.setCell ⟨g, j, none⟩ (B c)) base v vs L :=
  ⟨own_setCell_other h.row (a := ⟨g, j, none⟩) hg _, h.len, fun i u r hu hr => ⟨(h.each i u r hu hr).1.set g j c, (h.each i u r hu hr).2⟩⟩
theorem LooseRecs.at {w : World} {base : Nat} {ao : Option Addr} {n co : Nat} {vs : List Value} {L : List (List UInt8)} (h : LooseRecs w base (.slice ao n co) vs L) {i : Nat} {r : List UInt8} (hr : L[i]? = some r) :
    ∃ G u, ao = some ⟨G, 0, none⟩ ∧ vs[i]? = some u ∧ w.cell? ⟨G, i, none⟩ = some u ∧ Loose w base u r.length ∧ (∀ k, u.ownBlock = some k → (Value.slice ao n co).ownBlock ≠ some k ∧ base ≤ k) := by
  have hi := (List.getElem?_eq_some_iff.1 hr).1
  obtain ⟨u, hu⟩ : ∃ u, vs[i]? = some u := ⟨_, List.getElem?_eq_getElem (by rw [h.len]; exact hi)⟩
  have hrow := h.row
  obtain ⟨G, cp, hv, h1, h2, h3, h4⟩ := own_slice h.row (by omega)
  simp only [Value.slice.injEq] at hv
  obtain ⟨rfl, rfl, rfl⟩ := hv
  obtain ⟨hl, ho⟩ := h.each i u r hu hr
  refine ⟨G, u, rfl, hu, own_cell hrow hu, hl, fun k hk => ⟨ho k hk, ?_⟩⟩
  obtain ⟨bs, _, hb⟩ := hl
  exact (own_lt hb k hk).1
theorem Loose.at {w : World} {base : Nat} {ao : Option Addr} {n m co : Nat} (h : Loose w base (.slice ao m co) n) {j : Nat} (hj : j < n) : ∃ g c, ao = some ⟨g, 0, none⟩ ∧ n ≤ co ∧ w.cell? ⟨g, j, none⟩ = some (B c) ∧ w.frozen? ⟨g, j, none⟩ = false := by
  obtain ⟨bs, hl, hb⟩ := h
  obtain ⟨g, cp, hv, h1, -⟩ := own_slice hb (by omega)
  simp only [Value.slice.injEq] at hv
  obtain ⟨rfl, rfl, rfl⟩ := hv
  exact ⟨g, bs[j]'(by omega), rfl, h1, own_cell hb (by rw [List.getElem?_map, List.getElem?_eq_getElem (by omega)]; rfl), own_frozen hb j⟩
theorem Loose.form {w : World} {base : Nat} {u : Value} {n : Nat} (h : Loose w base u n) : ∃ ao co, u = .slice ao n co := by
  obtain ⟨bs, hl, hb⟩ := h
  exact own_form hb
theorem St.keepBelow {w0 w w' : World} {own : Nat → Prop} {p : Nat} {D : DS} {n : Nat} (h : St w0 own p D w) (ho : ∀ k, own k → k < n) (hw : w0.heap.size ≤ n) (hb : Below n w w') : St w0 own p D w' :=
  ⟨h.at'.keep (fun k hk => hb.block k (ho k hk)) hb.size, h.fresh, h.below.trans (hb.mono hw)⟩
end Go.Proofs.Ytoaeapnkefjpaaa

namespace Go.Proofs.Ytoaeapnkefjpaaa
open Go.RowKit
set_option linter.unusedVariables false
set_option linter.unusedSimpArgs false
/-- How many bytes the first k records take. -/
def tot (L : List (List UInt8)) (k : Nat) : Nat := (TS.encs 0 (L.take k)).length
theorem tot_zero (L : List (List UInt8)) : tot L 0 = 0 := by simp [tot, TS.encs]
theorem tot_succ {L : List (List UInt8)} {k : Nat} {r : List UInt8} (h : L[k]? = some r) : tot L (k + 1) = tot L k + 12 + r.length := by
  unfold tot
  rw [take_snoc h, TS.encs_snoc, List.length_append, List.length_cons, List.length_append, TS.framed_len]
  omega
theorem tot_fit {L : List (List UInt8)} {k : Nat} {r : List UInt8} (h : L[k]? = some r) : tot L k + 12 + r.length ≤ tot L L.length := by
  have := TS.encs_split L k r h
  unfold tot
  rw [List.take_length, this, List.length_append, List.length_append, List.length_cons, List.length_append, TS.framed_len]
  omega
theorem xor_byte (c : UInt8) (x : Int) (h1 : 1 ≤ x) (h2 : x ≤ 255) : ∃ y : UInt8, bits BinOp.xor IntKind.u8 (c.toNat : Int) x = (y.toNat : Int) ∧ y ≠ c := by
  have hc := c.toNat_lt
  obtain ⟨n, rfl⟩ : ∃ n : Nat, x = (n : Int) := ⟨x.toNat, by omega⟩
  rw [u8_xor_nat _ _ (by omega) (by omega)]
  have hlt : c.toNat ^^^ n < 2 ^ 8 := Nat.xor_lt_two_pow (by omega) (by omega)
  have e : (UInt8.ofNat (c.toNat ^^^ n)).toNat = c.toNat ^^^ n := by rw [UInt8.toNat_ofNat_of_lt' (by simp [UInt8.size]; omega)]
  refine ⟨UInt8.ofNat (c.toNat ^^^ n), by rw [e], fun h => ?_⟩
  rw [h] at e
  have e2 : c.toNat ^^^ c.toNat = c.toNat ^^^ (c.toNat ^^^ n) := by rw [← e]
  rw [← Nat.xor_assoc, Nat.xor_self, Nat.zero_xor] at e2
  omega
theorem Shows.take {w : World} {a : Option Addr} {n cap : Nat} {L : List (List UInt8)} (h : Shows w (.slice a n cap) L) {j : Nat} (hj : j ≤ L.length) : Shows w (.slice a j cap) (L.take j) := by
  obtain ⟨ao, c, hv, h1, h2, h3⟩ := h
  simp only [Value.slice.injEq] at hv
  obtain ⟨rfl, rfl, rfl⟩ := hv
  have hl : (L.take j).length = j := by rw [List.length_take]; omega
  refine ⟨a, cap, by rw [hl], by omega, h2, fun hp => ?_⟩
  obtain ⟨g, off, rfl, h4⟩ := h3 (by omega)
  refine ⟨g, off, rfl, fun i r hr => ?_⟩
  rw [List.getElem?_take] at hr
  split at hr
  · exact h4 i r hr
  · cases hr
theorem Shows.cap {w : World} {a : Option Addr} {n cap : Nat} {L : List (List UInt8)} (h : Shows w (.slice a n cap) L) : n = L.length ∧ L.length ≤ cap := by
  obtain ⟨ao, c, hv, h1, h2, h3⟩ := h
  simp only [Value.slice.injEq] at hv
  obtain ⟨rfl, rfl, rfl⟩ := hv
  exact ⟨rfl, h1⟩
/-- Between two records. -/
structure TlB (w wx : World) (p t : Nat) (own : Nat → Prop) (T : TS) (D : DS) (L : List (List UInt8)) (k : Nat) : Prop where
  tst : TSt w own p t T D wx
  holds : TS.Holds D T (L.take k)
  lo : T.lo = 0
  hi : T.hi = 9
  waits : D.waits.length ≤ 400 * k
  len : D.safe.length = 9
/-- Which record the place lies in, so far. -/
structure Which (L : List (List UInt8)) (n k j : Nat) : Prop where
  le : tot L j ≤ n
  zero : k = 0 → j = 0
  lt : 0 < k → j < k
  last : ∀ m, m < k → tot L m ≤ n → m ≤ j
theorem Which.start (L : List (List UInt8)) (n : Nat) : Which L n 0 0 := ⟨by rw [tot_zero]; omega, fun _ => rfl, fun h => by omega, fun m h => by omega⟩
theorem Which.here {L : List (List UInt8)} {n k j : Nat} (h : Which L n k j) (hk : tot L k ≤ n) : Which L n (k + 1) k := ⟨hk, fun h => by omega, fun _ => by omega, fun m hm _ => by omega⟩
theorem Which.past {L : List (List UInt8)} {n k j : Nat} (h : Which L n k j) (hk : ¬ tot L k ≤ n) : Which L n (k + 1) j := by
  refine ⟨h.le, fun h => by omega, fun _ => ?_, fun m hm hl => ?_⟩
  · by_cases e : k = 0
    · subst e; rw [tot_zero] at hk; omega
    · have := h.lt (by omega); omega
  · by_cases e : m = k
    · subst e; exact absurd hl hk
    · exact h.last m (by omega) hl
theorem Which.end {L : List (List UInt8)} {n j : Nat} (h : Which L n L.length j) (hn : n < tot L L.length) : ∃ r, L[j]? = some r ∧ tot L j ≤ n ∧ n < tot L j + 12 + r.length := by
  have h0 : 0 < L.length := by
    by_cases e : L.length = 0
    · rw [e, tot_zero] at hn; omega
    · omega
  have hj := h.lt h0
  obtain ⟨r, hr⟩ : ∃ r, L[j]? = some r := ⟨_, List.getElem?_eq_getElem hj⟩
  refine ⟨r, hr, h.le, ?_⟩
  have hs := tot_succ hr
  by_cases e : j + 1 = L.length
  · rw [← e, hs] at hn; exact hn
  · by_cases e2 : tot L (j + 1) ≤ n
    · have := h.last (j + 1) (by omega) e2; omega
    · omega
/-- The byte changed. -/
theorem TlB.spoil {w wx : World} {p t : Nat} {own : Nat → Prop} {T : TS} {D : DS} {L : List (List UInt8)} (h : TlB w wx p t own T D L L.length) {n j : Nat} {r : List UInt8} (hr : L[j]? = some r) (h1 : tot L j ≤ n) (h2 : n < tot L j + 12 + r.length) (h3 : n - tot L j = 0 ∨ 4 ≤ n - tot L j) (hn : n < 2000)
    {y c : UInt8} (hc : (DS.look D.safe D.waits (n / 256))[n % 256]? = some c) (hy : y ≠ c) :
    (D.write ((n / 256 : Nat) : Int) ((DS.look D.safe D.waits (n / 256)).set (n % 256) y)).1 = 0 ∧
    (((TS.opn (D.write ((n / 256 : Nat) : Int) ((DS.look D.safe D.waits (n / 256)).set (n % 256) y)).2 0 9).1 = 0 ∧ (TS.opn (D.write ((n / 256 : Nat) : Int) ((DS.look D.safe D.waits (n / 256)).set (n % 256) y)).2 0 9).2.1 = L.take j) ∨
      ((TS.opn (D.write ((n / 256 : Nat) : Int) ((DS.look D.safe D.waits (n / 256)).set (n % 256) y)).2 0 9).1 = 11 ∨ (TS.opn (D.write ((n / 256 : Nat) : Int) ((DS.look D.safe D.waits (n / 256)).set (n % 256) y)).2 0 9).1 = 12)) := by
  have hon := h.holds.on
  rw [h.lo, h.hi, List.take_length] at hon
  have hlen := h.len
  have hll := DS.look_len hon.live.ok.page hon.live.ok.wait (k := n / 256) (by omega)
  obtain ⟨k1, k2, k3, k4⟩ := TS.write_live hon.live (a := n / 256) (by omega) (l := (DS.look D.safe D.waits (n / 256)).set (n % 256) y) (by rw [List.length_set]; exact hll)
  refine ⟨k1, ?_⟩
  have := hon.tells (D' := (D.write ((n / 256 : Nat) : Int) ((DS.look D.safe D.waits (n / 256)).set (n % 256) y)).2) (y := y) hr h1 h2 h3 (by rw [Nat.zero_add, List.getD_eq_getElem?_getD, hc]; exact hy) k2 k3 (fun k => by rw [Nat.zero_add]; exact k4 k)
  exact this
theorem spoiled_open {w0 w : World} {own : Nat → Prop} {p : Nat} {D : DS} {M : List (List UInt8)} (h : St w0 own p D w) (ho : ((TS.opn D 0 9).1 = 0 ∧ (TS.opn D 0 9).2.1 = M) ∨ ((TS.opn D 0 9).1 = 11 ∨ (TS.opn D 0 9).1 = 12)) :
    Calls Try.prog 65 #[.pointer (some ⟨p, 0, none⟩), I 0, I 9] w fun e w' => ((e = .returned (.tuple #[.pointer none, .slice none 0 0, I 11]) ∨ e = .returned (.tuple #[.pointer none, .slice none 0 0, I 12])) ∨ ∃ t v, e = .returned (.tuple #[.pointer (some ⟨t, 0, none⟩), v, I 0]) ∧ Shows w' v M) ∧ Below w.heap.size w w' := by
  refine (tst_open h 0 9 (by omega) (by omega)).mono fun e w' hx => ?_
  rcases hx with ⟨h1, h2, h3⟩ | ⟨h1, t, v, h2, h3, h4, h5, h6⟩
  · rcases ho with ⟨e1, -⟩ | e1 | e1
    · exact absurd e1 h1
    · rw [e1] at h2; exact ⟨.inl (.inl h2), h3⟩
    · rw [e1] at h2; exact ⟨.inl (.inr h2), h3⟩
  · rcases ho with ⟨e1, e2⟩ | e1 | e1
    · rw [e2] at h5; exact ⟨.inr ⟨t, v, h2, h5.shows⟩, h6⟩
    · rw [h1] at e1; exact absurd e1 (by decide)
    · rw [h1] at e1; exact absurd e1 (by decide)
set_option maxRecDepth 100000 in
set_option maxHeartbeats 3200000 in
theorem tells_walk (w : World) (a0 : Option Addr) (cap0 : Nat) (L : List (List UInt8)) (h0 : Shows w (.slice a0 L.length cap0) L) (hz : ∀ r ∈ L, r.length ≤ 140737488355328) (a : Int) (ha : -9223372036854775808 ≤ a ∧ a ≤ 9223372036854775807) (x : Int) (hx : 0 ≤ x ∧ x ≤ 255) :
    Calls Try.prog 16 #[.slice a0 L.length cap0, I a, .int .u8 x] w fun e w' => e = .returned (.bool true) ∧ Below w.heap.size w w' := by
  have H0 := hid h0
  obtain ⟨_, _, _, m0⟩ := h0.len
  have HZ := hid hz
  unfold maxLen at m0
  clear h0 hz
  go_enter Try.func16, Try.ntmps16
  go_wp2_with (go_at_call 64; refine (wakes4_any _).mono ?_; rintro e w1 ⟨rfl, hb⟩; have HB := hid hb; clear hb)
  go_loopw [7, 26] (fun n i wr => ∃ (k m : Nat), k ≤ L.length ∧ n = I m ∧ i = I k ∧ m ≤ 2000 ∧ Hid (m = tot L k) ∧ Hid (Below w.heap.size w wr)) (fun _ i _ => L.length - (intOf i).toNat)
  case atStart => exact ⟨0, 0, by omega, rfl, rfl, by omega, hid (by rw [tot_zero]), HB⟩
  case round =>
    clear HB
    obtain ⟨k, m, hk, rfl, rfl, hm, HM, HB⟩ := hrel
    by_cases hlt : k < L.length
    · have f1 : decide ((k : Int) < (L.length : Int)) = true := decide_eq_true (by omega)
      obtain ⟨r, hr⟩ : ∃ r, L[k]? = some r := ⟨_, List.getElem?_eq_getElem hlt⟩
      obtain ⟨g, off, u, rfl, hc, hs⟩ := H0.out.at hr
      have hrz := HZ.out r (List.mem_of_getElem? hr)
      have hc' := (World.cell?_of_block (w := w) (a := ⟨g, off + k, none⟩) (HB.out.block g (cell_lt hc))).trans hc
      obtain ⟨au, cu, rfl, hul⟩ := hs.form0
      have HR := hid hr
      clear hc hs hr
      by_cases h6 : 2000 < m + (r.length + 12)
      · have f2 : decide ((2000 : Int) < (m : Int) + ((r.length : Int) + 12)) = true := decide_eq_true (by omega)
        go_wp2
        go_ret
        exact ⟨rfl, HB.out⟩
      · have f2 : decide ((2000 : Int) < (m : Int) + ((r.length : Int) + 12)) = false := decide_eq_false (by omega)
        go_wp2
        go_roundw
        case rel => exact ⟨k + 1, m + (r.length + 12), by omega, by go_num, by go_num, by omega, hid (by rw [tot_succ HR.out, HM.out]; omega), HB⟩
        case measure => simp [intOf]; omega
    · have hke : k = L.length := by omega
      subst hke
      have hcases : (a < 0 ∨ (m : Int) ≤ a ∨ x = 0 ∨ 40 < L.length) ∨ (0 ≤ a ∧ a < m ∧ 1 ≤ x ∧ L.length ≤ 40) := by omega
      rcases hcases with c | ⟨c1, c2, c3, c4⟩
      · have e1 : (decide (a < 0) = true) ∨ (decide (a < 0) = false ∧ decide ((m : Int) ≤ a) = true) ∨ (decide (a < 0) = false ∧ decide ((m : Int) ≤ a) = false ∧ (x == 0) = true) ∨ (decide (a < 0) = false ∧ decide ((m : Int) ≤ a) = false ∧ (x == 0) = false ∧ decide ((40 : Int) < (L.length : Int)) = true) := by
          simp only [decide_eq_true_eq, decide_eq_false_iff_not, beq_iff_eq, beq_eq_false_iff_ne]; omega
        clear c
        rcases e1 with e1 | ⟨e1, e2⟩ | ⟨e1, e2, e3⟩ | ⟨e1, e2, e3, e4⟩
        all_goals
          go_wp2
          go_ret
          exact ⟨rfl, HB.out⟩
      obtain ⟨n, rfl⟩ : ∃ n : Nat, a = (n : Int) := ⟨a.toNat, by omega⟩
      have e1 : decide ((n : Int) < 0) = false := decide_eq_false (by omega)
      have e2 : decide ((m : Int) ≤ (n : Int)) = false := decide_eq_false (by omega)
      have e3 : (x == 0) = false := by rw [beq_eq_false_iff_ne]; omega
      have e4 : decide ((40 : Int) < (L.length : Int)) = false := decide_eq_false (by omega)
      have hnm : n < m := by omega
      clear c1 c2 hlt
      go_wp2_with (go_at_call 36; refine (st_new _ 9 (by omega)).mono ?_; rintro e w2 ⟨p, own, rfl, h⟩; have HS := hid (show St w own p (DS.new 9) w2 from h.back HB.out); clear h HB)
      clear e1 e2 e3 e4
      have hon : TS.On (DS.new 9) 0 9 [] := TS.On.new (by omega) (by omega) (by omega) (by omega)
      have hop := tst_open_on (lo := 0) (hi := 9) HS.out hon
      have hop' : Calls Try.prog 65 #[.pointer (some ⟨p, 0, none⟩), I 0, I 9] w2 _ := hop
      refine hop'.mono ?_
      rintro e w3 ⟨t, v, rfl, ht, hlt, hrc, hb⟩
      obtain ⟨ao, co, rfl⟩ := hrc.form
      have HIN : Hid (TlB w w3 p t own ⟨0, 9, (TS.encs 0 []).length, ([] : List (List UInt8)).length, 0⟩ (DS.new 9) L 0) := hid ⟨ht, by rw [List.take_zero]; exact hon.holds, rfl, rfl, by decide, rfl⟩
      clear hon hop hop' ht hlt hrc hb HS
      rw [List.length_nil]
      go_wp2
      go_loopw [14, 15, 16, 65] (fun wh bg en i wr => ∃ (k j tj tk : Nat) (own : Nat → Prop) (T : TS) (D : DS), k ≤ L.length ∧ j ≤ L.length ∧ tj ≤ n ∧ tk ≤ 2000 ∧ wh = I j ∧ bg = I tj ∧ en = I tk ∧ i = I k ∧ Hid (tj = tot L j ∧ tk = tot L k) ∧ Hid (Which L n k j) ∧ Hid (TlB w wr p t own T D L k)) (fun _ _ _ i _ => L.length - (intOf i).toNat)
      case atStart => exact ⟨0, 0, 0, 0, _, _, _, by omega, by omega, by omega, by omega, rfl, rfl, rfl, rfl, hid ⟨by rw [tot_zero], by rw [tot_zero]⟩, hid (Which.start L n), HIN⟩
      case round =>
        clear HIN
        obtain ⟨k, j, tj, tk, own, T, D, hk, hj, htj, htk, rfl, rfl, rfl, rfl, HTJ, HW, HT⟩ := hrel
        by_cases hlt : k < L.length
        · have f1 : decide ((k : Int) < (L.length : Int)) = true := decide_eq_true (by omega)
          obtain ⟨r, hr⟩ : ∃ r, L[k]? = some r := ⟨_, List.getElem?_eq_getElem hlt⟩
          obtain ⟨g, off, u, rfl, hc, hs⟩ := H0.out.at hr
          have hbw := HT.out.tst.drum.below
          have hc' := (World.cell?_of_block (w := w) (a := ⟨g, off + k, none⟩) (hbw.block g (cell_lt hc))).trans hc
          have hs' := hs.below hbw
          obtain ⟨au, cu, rfl, hul⟩ := hs'.form0
          have hfit := tot_fit hr
          rw [← HM.out, ← HTJ.out.2] at hfit
          have hsz : T.size = 9 * 256 := by unfold TS.size; rw [HT.out.lo, HT.out.hi]
          have hps : T.pos = tk := by rw [HT.out.holds.pos, HTJ.out.2]; rfl
          have hap := tst_append_on HT.out.tst HT.out.holds hs' (by omega) (by omega) (by have := HT.out.waits; omega)
          have HAP := hid hap
          have HNX := hid (fun (own' : Nat → Prop) (T' : TS) (D' : DS) (w' : World) (x1 : TSt w own' p t T' D' w') (x2 : TS.Holds D' T' (L.take k ++ [r])) (x3 : T'.lo = T.lo) (x4 : T'.hi = T.hi) (x5 : D'.waits.length ≤ D.waits.length + 400) (x6 : D'.safe.length = D.safe.length) =>
            (⟨x1, by rw [take_snoc hr]; exact x2, x3.trans HT.out.lo, x4.trans HT.out.hi, by have := HT.out.waits; omega, x6.trans HT.out.len⟩ : TlB w w' p t own' T' D' L (k + 1)))
          have HTS := hid (tot_succ hr)
          clear hs' hbw hc hs hap hr hsz hps
          by_cases h6 : tk ≤ n
          · have f2 : decide ((tk : Int) ≤ (n : Int)) = true := decide_eq_true (by omega)
            go_wp2_with (go_at_call 66; refine HAP.out.mono ?_; rintro e w4 ⟨rfl, own', T', D', x1, x2, x3, x4, x5, x6, x7⟩; have HI2 := hid (HNX.out own' T' D' w4 x1 x2 x3 x4 x6 x7); clear x1 x2 x3 x4 x5 x6 x7)
            go_roundw
            case rel => exact ⟨k + 1, k, tk, tk + (r.length + 12), own', T', D', by omega, by omega, by omega, by omega, rfl, rfl, by go_num, by go_num, hid ⟨HTJ.out.2, by rw [HTS.out, HTJ.out.2]; omega⟩, hid (HW.out.here (by rw [← HTJ.out.2]; exact h6)), HI2⟩
            case measure => simp [intOf]; omega
          · have f2 : decide ((tk : Int) ≤ (n : Int)) = false := decide_eq_false (by omega)
            go_wp2_with (go_at_call 66; refine HAP.out.mono ?_; rintro e w4 ⟨rfl, own', T', D', x1, x2, x3, x4, x5, x6, x7⟩; have HI2 := hid (HNX.out own' T' D' w4 x1 x2 x3 x4 x6 x7); clear x1 x2 x3 x4 x5 x6 x7)
            go_roundw
            case rel => exact ⟨k + 1, j, tj, tk + (r.length + 12), own', T', D', by omega, by omega, by omega, by omega, rfl, rfl, by go_num, by go_num, hid ⟨HTJ.out.1, by rw [HTS.out, HTJ.out.2]; omega⟩, hid (HW.out.past (by rw [← HTJ.out.2]; exact h6)), HI2⟩
            case measure => simp [intOf]; omega
        · have hke : k = L.length := by omega
          subst hke
          have hq3 : (1 ≤ n - tj ∧ n - tj ≤ 3) ∨ (n - tj = 0 ∨ 4 ≤ n - tj) := by omega
          rcases hq3 with ⟨d1, d2⟩ | d
          · have f2 : decide ((1 : Int) ≤ (n : Int) - (tj : Int)) = true := decide_eq_true (by omega)
            have f3 : decide ((n : Int) - (tj : Int) ≤ 3) = true := decide_eq_true (by omega)
            have HBE := hid HT.out.tst.drum.below
            go_wp2
            go_ret
            exact ⟨rfl, HBE.out⟩
          have hff : (decide ((1 : Int) ≤ (n : Int) - (tj : Int)) = false) ∨ (decide ((1 : Int) ≤ (n : Int) - (tj : Int)) = true ∧ decide ((n : Int) - (tj : Int) ≤ 3) = false) := by
            simp only [decide_eq_true_eq, decide_eq_false_iff_not]; omega
          obtain ⟨r, hr, hle, hlt2⟩ := HW.out.end (by rw [← HM.out]; exact hnm)
          have hlv := HT.out.holds.on.live
          have hln := HT.out.len
          obtain ⟨q, hqd⟩ : ∃ q, q = n / 256 := ⟨_, rfl⟩
          have hqi : (n : Int) / 256 = (q : Int) := by omega
          have hrd := st_read HT.out.tst.drum (q : Int) (by omega)
          rw [DS.read_ok hlv.on (by omega)] at hrd
          have hPl := DS.look_len hlv.ok.page hlv.ok.wait (k := q) (by omega)
          obtain ⟨c, hc⟩ : ∃ c, (DS.look D.safe D.waits q)[n % 256]? = some c := ⟨_, List.getElem?_eq_getElem (by omega)⟩
          obtain ⟨y, hy, hyc⟩ := xor_byte c x c3 hx.2
          have hsp := HT.out.spoil hr hle hlt2 (by rw [← HTJ.out.1]; exact d) (by omega) (by rw [← hqd]; exact hc) hyc
          rw [← hqd] at hsp
          simp only [hPl] at hrd
          generalize hPd : DS.look D.safe D.waits q = P at *
          rw [← hqi] at hrd
          have hst := fun (w' : World) (g5 : Nat) (v : Value) (u : Value) (hg : wr.heap.size ≤ g5) (h1 : St w own p D w') => h1.keepBelow (n := wr.heap.size) (fun k hk => HT.out.tst.drum.at'.lt k hk) HT.out.tst.drum.below.size ((Below.refl _ w').setCell (p := ⟨g5, n % 256, none⟩) hg u)
          have HST := hid hst
          have HRD := hid hrd
          have HSP := hid hsp
          have HCY := hid hc
          have HPL := hid hPl
          have HQ := hid hqi
          have HOL := hid HT.out.tst.drum.at'.lt
          have HWT := hid HT.out.waits
          have HR2 := hid hr
          clear hrd hr hPd hPl hqd hqi hle hlt2 hlv hln d hlt hst hsp hc hyc
          rcases hff with f2 | ⟨f2, f3⟩
          all_goals
            go_wp2_with (first | (go_at_call 58; refine HRD.out.mono ?_; rintro e w5 ⟨v5, rfl, x1, x2, x3⟩; obtain ⟨g5, cp5, rfl, y1, y2, y3, y4⟩ := own_slice x2 (by omega); have hcell := own_cell x2 (i := n % 256) (u := B c) (by rw [List.getElem?_map, HCY.out]; rfl); have hfr := own_frozen x2 (n % 256); have X := hid (And.intro x1 (And.intro x2 (And.intro x3 y3))); clear x1 x2 x3 y3 y4))
            obtain ⟨x1, x2, x3, x4⟩ := X.out
            have st6 := HST.out w5 g5 (.bool true) (B y) x4 x1
            have hrow := own_set x2 (show n % 256 < 256 by omega) (B y)
            rw [← List.map_set] at hrow
            have hwr := st_write st6 (q : Int) (by have := HQ.out; omega) (v := .slice (some ⟨g5, 0, none⟩) 256 cp5) (l := P.set (n % 256) y) ⟨own_sees' hrow (by rw [List.length_set]; exact HPL.out), fun k hk ho => by have := HOL.out k ho; have e : g5 = k := Option.some.inj hk; omega⟩ (by have := HWT.out; omega)
            rw [HSP.out.1, ← HQ.out] at hwr
            clear x1 x2 x3 x4 X st6 hrow hcell hfr hy
            refine hwr.mono ?_
            rintro e w6 ⟨rfl, own6, z1, -, -⟩
            have hsp2 := HSP.out.2
            rw [← HQ.out] at hsp2
            have HOPN := hid (spoiled_open z1 hsp2)
            have HZ1 := hid z1.below
            clear hwr z1 hsp2
            go_wp2_with fail
            refine HOPN.out.mono ?_
            rintro e w7 ⟨(rfl | rfl) | ⟨t7, v7, rfl, hsh⟩, hb7⟩
            · have HB7 := hid (HZ1.out.trans (hb7.mono HZ1.out.size))
              clear hb7
              go_wp2
              go_ret
              exact ⟨rfl, HB7.out⟩
            · have HB7 := hid (HZ1.out.trans (hb7.mono HZ1.out.size))
              clear hb7
              go_wp2
              go_ret
              exact ⟨rfl, HB7.out⟩
            · have HB7 := hid (HZ1.out.trans (hb7.mono HZ1.out.size))
              obtain ⟨ao7, co7, rfl, hl7⟩ := hsh.len
              have hlj : (L.take j).length = j := by rw [List.length_take]; omega
              rw [hlj] at hsh ⊢
              have hal := alike_any w7 _ _ _ _ hsh ((H0.out.below HB7.out).take (j := j) (by omega))
              rw [decide_eq_true rfl] at hal
              have HAL := hid hal
              obtain ⟨go, oo, uu, rfl, -⟩ := H0.out.at HR2.out
              have hcp := H0.out.cap.2
              have hjc : (j : Int) ≤ (cap0 : Int) := by omega
              clear hb7 hal hsh hl7 hlj
              go_wp2_with (go_at_call 67; go_must (refine HAL.out.mono ?_); rintro e w8 ⟨rfl, m8, rfl⟩)
              go_ret
              exact ⟨rfl, HB7.out.trans ((below_drewN _ _).mono HB7.out.size)⟩
namespace tapeTells
theorem walkAll (a0 : Option Addr) (cap0 : Nat) (L : List (List UInt8)) {w : World} (h0 : Shows w (.slice a0 L.length cap0) L) (hz : ∀ r ∈ L, r.length ≤ 140737488355328) (a : Int) (ha : -9223372036854775808 ≤ a ∧ a ≤ 9223372036854775807) (x : Int) (hx : 0 ≤ x ∧ x ≤ 255) (w' : World) (e : w = w') :
    Calls Try.prog 16 #[.slice a0 L.length cap0, I a, .int .u8 x] w' fun e w'' => e = .returned (.bool true) ∧ Below w'.heap.size w' w'' := by
  subst e
  exact tells_walk w a0 cap0 L h0 hz a ha x hx
end tapeTells
end Go.Proofs.Ytoaeapnkefjpaaa

namespace Go.Proofs.Ytoaeapnkefjpaaa
open Go.RowKit
set_option linter.unusedVariables false
set_option linter.unusedSimpArgs false
theorem own_empty (w : World) (e : TypeId) (size : Nat) : (w.alloc (.cells #[] e)).ownsRow w.heap.size e size (.slice (some ⟨w.heap.size, 0, none⟩) 0 0) 0 [] :=
  ⟨by simp, .inr ⟨w.heap.size, 0, #[], rfl, Nat.le_refl _, heap_alloc_new _ _, Nat.le_refl _, by decide, by simp, by simp⟩⟩
/-- The spare room's text. -/
def spare : List UInt8 := [115, 112, 97, 114, 101, 32, 114, 111, 111, 109, 32, 111, 102, 32, 105, 116]
theorem str_spare (r : List UInt8) : str r ++ { data := #[115, 112, 97, 114, 101, 32, 114, 111, 111, 109, 32, 111, 102, 32, 105, 116] } = str (r ++ spare) := by
  apply ByteArray.ext
  rw [ByteArray.data_append]
  simp [str, spare]
theorem TSt.mod {w0 w w' : World} {own : Nat → Prop} {p t : Nat} {T : TS} {D : DS} {g : Nat} (h : TSt w0 own p t T D w) (hm : Mod (fun k => k = g) w w') (h1 : ¬ own g) (h2 : g ≠ t) (h3 : w0.heap.size ≤ g) : TSt w0 own p t T D w' :=
  ⟨⟨h.drum.at'.mod hm (fun k hk e => h1 (e ▸ hk)), h.drum.fresh, h.drum.below.trans (hm.below h.drum.below.size (fun i hi e => by omega))⟩, h.tape.mod hm (fun e => h2 e.symm), h.nt, h.tf⟩
/-- Between two records: the tape, and the list gathered. -/
structure KpB (w wx : World) (p t : Nat) (own : Nat → Prop) (T : TS) (D : DS) (v : Value) (us : List Value) (recs : List (List UInt8)) (i : Nat) : Prop where
  tst : TSt w own p t T D wx
  holds : TS.Holds D T recs
  lo : T.lo = 0
  hi : T.hi = 60
  pos : T.pos ≤ 412 * i
  waits : D.waits.length ≤ 400 * i
  wants : WantsIn w wx (t + 1) v us recs
  nv : ∀ k, v.ownBlock = some k → ¬ own k
theorem KpB.below {w wx wy : World} {p t : Nat} {own : Nat → Prop} {T : TS} {D : DS} {v : Value} {us : List Value} {recs : List (List UInt8)} {i : Nat} (h : KpB w wx p t own T D v us recs i) (hb : Below wx.heap.size wx wy) : KpB w wy p t own T D v us recs i := ⟨h.tst.on hb, h.holds, h.lo, h.hi, h.pos, h.waits, h.wants.below hb, h.nv⟩
/-- An append of what lies in a row apart. -/
theorem KpB.append {w wx : World} {p t : Nat} {own : Nat → Prop} {T : TS} {D : DS} {v : Value} {us : List Value} {recs : List (List UInt8)} {i : Nat} (h : KpB w wx p t own T D v us recs i) {u : Value} {r : List UInt8} (hu : Sees wx u r) (hr : r.length ≤ 400) (hi : i ≤ 31) :
    Calls Try.prog 66 #[.pointer (some ⟨t, 0, none⟩), u] wx fun e w' => e = .returned (I 0) ∧ Mod (fun k => own k ∨ k = t) wx w' ∧ ∃ own' T' D', TSt w own' p t T' D' w' ∧ TS.Holds D' T' (recs ++ [r]) ∧ T'.lo = 0 ∧ T'.hi = 60 ∧ T'.pos ≤ 412 * (i + 1) ∧ D'.waits.length ≤ 400 * (i + 1) ∧ WantsIn w w' (t + 1) v us recs ∧ (∀ k, k < wx.heap.size → ¬ own k → ¬ own' k) := by
  have hsz : T.size = (T.hi - T.lo) * 256 := rfl
  have hlo := h.lo
  have hhi := h.hi
  have hps := h.pos
  have hwt := h.waits
  have hfit : T.pos + 12 + r.length ≤ T.size := by rw [hsz, hlo, hhi]; omega
  obtain ⟨h1, h2, h3, h4, h5⟩ := h.holds.append (r := r) (by omega) hfit
  have hw2 := TS.append_waits D T r
  refine (tst_append h.tst hu (by omega)).mono fun e w' hx => ?_
  obtain ⟨k1, own', k2, k3, k4⟩ := hx
  rw [h1] at k1
  refine ⟨k1, k4, own', _, _, k2, h2, h3.trans hlo, h4.trans hhi, by rw [h5]; omega, by omega, h.wants.keep (fun k hk => k4.block k (own_lt h.wants.row k hk).2 (fun ho => ho.elim (h.nv k hk) (fun e => by have := (own_lt h.wants.row k hk).1; omega))), fun k hk hn ho => (k3 k ho).elim hn (fun h => by omega)⟩
/-- A record taken into the list. -/
theorem tst_push {w wx w1 : World} {p t : Nat} {own : Nat → Prop} {T : TS} {D : DS} {v v' : Value} {us : List Value} {recs : List (List UInt8)} {r : List UInt8} {u : Value} {o : Obj}
    (ht : TSt w own p t T D wx) (hw : WantsIn w wx (t + 1) v us recs) (hnv : ∀ k, v.ownBlock = some k → ¬ own k) (hu : Sees w u r)
    (hown : w1.ownsRow (t + 1) 23 1 v' (recs.length + 1) (us ++ [u])) (hgrow : (wx.alloc o).grownBy w1 v.ownBlock) (hat : v'.ownBlock = v.ownBlock ∨ v'.ownBlock = some (wx.heap.size + 1)) :
    TSt w own p t T D w1 ∧ WantsIn w w1 (t + 1) v' (us ++ [u]) (recs ++ [r]) ∧ (∀ k, v'.ownBlock = some k → ¬ own k) := by
  have hz : (wx.alloc o).heap.size = wx.heap.size + 1 := by simp
  have hkeep : ∀ k, k < wx.heap.size → v.ownBlock ≠ some k → w1.heap[k]? = wx.heap[k]? := fun k hk h1 => (hgrow.block k (by omega) (fun e => h1 e.symm)).trans (Below.heap_alloc wx o k hk)
  have hlt := ht.drum.at'.lt
  have htz := ht.tape.lt
  have hv1 : ∀ k, v.ownBlock = some k → t + 1 ≤ k := fun k hk => (own_lt hw.row k hk).1
  have hww := ht.drum.below.size
  have htf := ht.tf
  refine ⟨⟨⟨ht.drum.at'.keep (fun k hk => hkeep k (hlt k hk) (fun e => (hnv k e) hk)) (by have := hgrow.size; omega), ht.drum.fresh, ht.drum.below.trans ⟨hgrow.os, hgrow.tape, hgrow.output, by have := hgrow.size; omega, fun k hk => hkeep k (by omega) (fun e => by have := hv1 k e; omega)⟩⟩, ht.tape.keep (hkeep t htz (fun e => by have := hv1 t e; omega)), ht.nt, ht.tf⟩, hw.push hu hown, fun k hk => ?_⟩
  rcases hat with h | h
  · exact hnv k (by rw [← h]; exact hk)
  · rw [h] at hk
    have e := Option.some.inj hk
    exact fun ho => by have := hlt k ho; omega
set_option maxRecDepth 100000 in
set_option maxHeartbeats 3200000 in
theorem keeps_walk (w : World) (a0 : Option Addr) (cap0 : Nat) (L : List (List UInt8)) (h0 : Shows w (.slice a0 L.length cap0) L) :
    Calls Try.prog 17 #[.slice a0 L.length cap0] w fun e w' => e = .returned (.bool true) ∧ Below w.heap.size w w' := by
  have H0 := hid h0
  obtain ⟨_, _, _, m0⟩ := h0.len
  unfold maxLen at m0
  clear h0
  by_cases c : 30 < L.length
  · have e0 : decide ((30 : Int) < (L.length : Int)) = true := decide_eq_true (by omega)
    go_enter Try.func17, Try.ntmps17
    go_wp2_with (go_at_call 64; refine (wakes4_any _).mono ?_; rintro e w1 ⟨rfl, hb⟩; have HB := hid hb; clear hb)
    go_ret
    exact ⟨rfl, HB.out⟩
  have e0 : decide ((30 : Int) < (L.length : Int)) = false := decide_eq_false (by omega)
  go_enter Try.func17, Try.ntmps17
  go_wp2_with (first | (go_at_call 64; refine (wakes4_any _).mono ?_; rintro e w1 ⟨rfl, hb⟩; have HB := hid hb; clear hb) | (go_at_call 36; refine (st_new _ 60 (by omega)).mono ?_; rintro e w2 ⟨p, own, rfl, h⟩; have HS := hid (show St w own p (DS.new 60) w2 from h.back HB.out); clear h HB))
  clear e0
  have hon : TS.On (DS.new 60) 0 60 [] := TS.On.new (by omega) (by omega) (by omega) (by omega)
  have hop := tst_open_on (lo := 0) (hi := 60) HS.out hon
  have hop' : Calls Try.prog 65 #[.pointer (some ⟨p, 0, none⟩), I 0, I 60] w2 _ := hop
  refine hop'.mono ?_
  rintro e w3 ⟨t, v, rfl, ht, hlt, hrc, hb⟩
  obtain ⟨ao, co, rfl⟩ := hrc.form
  have HT := hid ht
  have HO := hid hon.holds
  clear hon hop hop' ht hlt hrc hb HS
  rw [List.length_nil]
  go_wp2
  have HTB : Hid (KpB w w3 p t own ⟨0, 60, (TS.encs 0 []).length, ([] : List (List UInt8)).length, 0⟩ (DS.new 60) (.slice none 0 0) [] [] 0) := hid ⟨HT.out, HO.out, rfl, rfl, by simp [TS.encs], by decide, WantsIn.nil _ _ _, fun k hk => by cases hk⟩
  clear HT HO
  go_loopw [7, 35] (fun v i wr => ∃ (k : Nat) (own : Nat → Prop) (T : TS) (D : DS) (us : List Value), k ≤ L.length ∧ i = I k ∧ Hid (KpB w wr p t own T D v us (L.take k) k)) (fun _ i _ => L.length - (intOf i).toNat)
  case atStart => exact ⟨0, _, _, _, _, by omega, rfl, by rw [List.take_zero]; exact HTB⟩
  case round =>
    clear HTB
    obtain ⟨k, own, T, D, us, hk, rfl, HT⟩ := hrel
    by_cases hlt : k < L.length
    · obtain ⟨r, hr⟩ : ∃ r, L[k]? = some r := ⟨_, List.getElem?_eq_getElem hlt⟩
      obtain ⟨g, off, u, hga, hc, hs⟩ := H0.out.at hr
      have hbw := HT.out.tst.drum.below
      have hc' := (World.cell?_of_block (w := w) (a := ⟨g, off + k, none⟩) (hbw.block g (cell_lt hc))).trans hc
      have hs' := hs
      obtain ⟨au, cu, rfl, hul⟩ := hs'.form0
      have HBW := hid hbw
      have HSU := hid hs
      have HR := hid hr
      by_cases h6 : 400 < r.length
      · have h6' : decide ((400 : Int) < (r.length : Int)) = true := decide_eq_true (by omega)
        subst hga
        clear hs' hbw hc hs hr
        go_wp2
        go_ret
        exact ⟨rfl, HBW.out⟩
      · have h6' : decide ((400 : Int) < (r.length : Int)) = false := decide_eq_false (by omega)
        obtain ⟨av, cv, rfl⟩ := own_form HT.out.wants.row
        have hlk : (L.take k).length = k := by rw [List.length_take]; omega
        rw [hlk] at HT
        have HLK := hid hlk
        clear hlk
        subst hga
        clear hs' hbw hc hs hr
        go_upto_region 15 with (fail)
        have HO0 := hid (own_empty wr 5 1)
        have hb0 : Below wr.heap.size wr (wr.alloc (.cells #[] 5)) := (Below.refl _ _).alloc (Nat.le_refl _) _
        have HSa := hid ((HSU.out.below HBW.out).below hb0)
        have HB0 := hid hb0
        clear hb0
        go_wp2_with (at_builtin; refine wpList_app rfl (.tmp 42) (.tmp 43) 23 rfl wr.heap.size 5 (.int .u8 0) 1 1 Try.underlying23 info5 rfl (by decide) 0 [] r.length (r.map B) HO0.out HSa.out.src ?h63 ?hb ?hbase ?_)
        case h63 => unfold maxLen; omega
        case hb => omega
        case hbase => simp
        intro v2 wb hown hgrow hat
        replace hown : wb.ownsRow wr.heap.size 5 1 v2 r.length (r.map B) := own_len hown (by simp) (by simp)
        have HO2 := hid hown
        have HB2 := hid (HB0.out.grown hgrow (by simp) (fun j hj => by cases hj; exact Nat.le_refl _))
        obtain ⟨av2, cv2, rfl⟩ := own_form hown
        have hs2 : wr.heap.size ≤ wb.heap.size := HB2.out.size
        clear hown hgrow hat HO0 HSa HB0
        obtain ⟨i5, hi5, hz5, hs5, hb5⟩ := info_parts info5'
        go_wp2_with (at_builtin; go_must (refine Lib.wpList_append_own_string wb rfl (.tmp 44) _ 23 9 rfl wr.heap.size 5 i5 Try.underlying23 Try.underlying9 hi5 hz5 hs5 hb5 (.slice av2 r.length cv2) r.length (r.map B) rfl HO2.out _ rfl ?h63 ?hb hs2 ?_))
        case h63 => show r.length + 16 ≤ maxLen; unfold maxLen; omega
        case hb => show r.length + 16 ≤ 140737488355328; omega
        intro v3 wc hown hgrow hnn
        have hsp : Lib.strCells { data := #[115, 112, 97, 114, 101, 32, 114, 111, 111, 109, 32, 111, 102, 32, 105, 116] } = spare.map B := by kernel_rfl
        rw [hsp, ← List.map_append] at hown
        replace hown : wc.ownsRow wr.heap.size 5 1 v3 (r.length + 16) ((r ++ spare).map B) := hown
        have HB3 := hid (HB2.out.grown hgrow hs2 (fun j hj => (own_lt HO2.out j hj).1))
        obtain ⟨g3, cap3, rfl, q1, q2, q3, q4⟩ := own_slice hown (by omega)
        have hlen3 : (r ++ spare).length = r.length + 16 := by rw [List.length_append]; rfl
        have hsm := own_sees' hown hlen3
        have hst := hsm.take r.length (by omega)
        rw [List.take_left' rfl] at hst
        have hkb := HT.out.below HB3.out
        have hap := hkb.append hst (by omega) (by omega)
        have HAP := hid hap
        have HO3 := hid hown
        have HG := hid (And.intro q3 q4)
        have hng : ¬ own g3 := fun ho => by have := HT.out.tst.drum.at'.lt g3 ho; omega
        have hgt : g3 ≠ t := fun e => by have := HT.out.tst.tape.lt; omega
        have HNG := hid (And.intro hng hgt)
        have hcapn : (r.length : Int) ≤ (cap3 : Int) := by omega
        clear hown hgrow hnn hsp hsm hst hkb hap HO2 HB2 hs2 q1 q3 q4 hng hgt hi5 hz5 hs5 hb5
        go_upto_region 17 with (go_at_call 66; refine HAP.out.mono ?_; rintro e w5 ⟨rfl, x1, own', T', D', x2, x3, x4, x5, x6, x7, x8, x9⟩; have X := hid (And.intro x1 (And.intro x2 (And.intro x3 (And.intro x4 (And.intro x5 (And.intro x6 (And.intro x7 (And.intro x8 x9)))))))); clear x1 x2 x3 x4 x5 x6 x7 x8 x9)
        obtain ⟨x1, x2, x3, x4, x5, x6, x7, x8, x9⟩ := X.out
        have hm5 : w5.ownsRow wr.heap.size 5 1 (.slice (some ⟨g3, 0, none⟩) (r.length + 16) cap3) (r.length + 16) ((r ++ spare).map B) := own_mod HO3.out (fun j hj => x1.block j (own_lt HO3.out j hj).2 (fun ho => by
          have e : g3 = j := Option.some.inj hj
          subst e
          exact ho.elim HNG.out.1 HNG.out.2))
        have hlen3 : (r ++ spare).length = r.length + 16 := by rw [List.length_append]; rfl
        have k1 := run_str (P := Try.prog) Try.underlying23 Try.underlying5 Try.underlying9 (own_sees' hm5 hlen3)
        have k2 := run_str (P := Try.prog) Try.underlying23 Try.underlying5 Try.underlying9 (HSU.out.below x2.drum.below)
        have HM5 := hid hm5
        clear hlen3 hm5 x1 x2 x3 x4 x5 x6 x7 x8 x9 HO3 HAP
        have hcat := str_spare r
        have hsz : ¬ 9223372036854775807 < (str r).size + 16 := by rw [str_size]; omega
        go_upto_region 19 with (fail)
        clear k1 k2 hcat hsz
        go_wp2
        go_loopw [64] (fun i wx => ∃ j : Nat, j ≤ r.length + 16 ∧ i = I j ∧ Hid (Loose wx wr.heap.size (.slice (some ⟨g3, 0, none⟩) (r.length + 16) cap3) (r.length + 16)) ∧ Hid (Mod (fun k => k = g3) w5 wx)) (fun i _ => r.length + 16 - (intOf i).toNat)
        case atStart => exact ⟨0, by omega, rfl, hid ⟨r ++ spare, by rw [List.length_append]; rfl, HM5.out⟩, hid (Mod.refl _ _)⟩
        case round =>
          obtain ⟨j, hj, rfl, HL, HM⟩ := hrel
          by_cases hjl : j < r.length + 16
          · have f1 : decide ((j : Int) < (r.length : Int) + 16) = true := decide_eq_true (by omega)
            obtain ⟨bs, hbl, hbr⟩ := HL.out
            have hcell := own_cell hbr (i := j) (u := B (bs[j]'(by omega))) (by rw [List.getElem?_map, List.getElem?_eq_getElem (by omega)]; rfl)
            have hfr := own_frozen hbr j
            generalize (bs[j]'(by omega)) = c0 at hcell
            have HL2 := hid (HL.out.set g3 j 0)
            have HM2 := hid (HM.out.trans (Mod.set (own := fun k => k = g3) (w := wr) (a := ⟨g3, j, none⟩) (u := B 0) rfl))
            clear hbr hbl
            go_wp2
            go_roundw
            case rel => exact ⟨j + 1, by omega, by go_num, HL2, HM2⟩
            case measure => simp [intOf]; omega
          · have hje : j = r.length + 16 := by omega
            have f1 : decide ((j : Int) < (r.length : Int) + 16) = false := decide_eq_false (by omega)
            clear hje hj hjl
            obtain ⟨x1, x2, x3, x4, x5, x6, x7, x8, x9⟩ := X.out
            have y1 := x2.mod HM.out (x9 g3 HG.out.2 HNG.out.1) HNG.out.2 (by have := HBW.out.size; have := HG.out.1; omega)
            have y2 := x8.keep (fun q hq => HM.out.block q (own_lt x8.row q hq).2 (fun e => by have := (own_lt HT.out.wants.row q hq).2; have := HG.out.1; omega))
            have y3 : ∀ q, (Value.slice av k cv).ownBlock = some q → ¬ own' q := fun q hq => x9 q (by have := (own_lt HT.out.wants.row q hq).2; have := HG.out; omega) (HT.out.nv q hq)
            have htl := y1.tape.lt
            have HY := hid (And.intro y1 (And.intro y2 y3))
            have HX := hid (And.intro x3 (And.intro x4 (And.intro x5 (And.intro x6 x7))))
            clear x1 x2 x3 x4 x5 x6 x7 x8 x9 X y1 y2 y3 HL HM HM5 HG HNG HT HBW
            go_wp2_with (at_builtin; go_must (refine wpList_app rfl (.tmp 71) (.tmp 73) 45 rfl (t + 1) 23 (.slice none 0 0) 1 24 Try.underlying45 info23t rfl (by decide) k us 1 [.slice au r.length cu] ((own_len HY.out.2.1.row HLK.out rfl).alloc _) (Src.new wr 1 23 [_] rfl (fun x hx => by obtain rfl := List.mem_singleton.1 hx; rfl)) ?h63 ?hb ?hbase ?_))
            case h63 => unfold maxLen; omega
            case hb => omega
            case hbase => simp; omega
            intro v' w8 hown hgrow hat
            obtain ⟨y1, y2, y3⟩ := tst_push HY.out.1 HY.out.2.1 HY.out.2.2 HSU.out (own_len hown (by rw [HLK.out]) rfl) hgrow hat
            have HNX : Hid (KpB w w8 p t own' T' D' v' (us ++ [.slice au r.length cu]) (L.take (k + 1)) (k + 1)) := hid ⟨y1, by rw [take_snoc HR.out]; exact HX.out.1, HX.out.2.1, HX.out.2.2.1, HX.out.2.2.2.1, HX.out.2.2.2.2, by rw [take_snoc HR.out]; exact y2, y3⟩
            obtain ⟨av', cv', rfl⟩ := own_form hown
            clear hown hgrow hat y1 y2 y3 HY HX HSU htl HR HLK
            go_wp2
            go_roundw
            case rel => exact ⟨k + 1, own', T', D', _, by omega, by go_num, HNX⟩
            case measure => simp [intOf]; omega
    · have hke : k = L.length := by omega
      subst hke
      obtain ⟨av, cv, rfl⟩ := own_form HT.out.wants.row
      have hon := HT.out.holds.on
      rw [HT.out.lo, HT.out.hi, List.take_length] at hon
      have hop := tst_open_on (lo := 0) (hi := 60) HT.out.tst.drum hon
      have hop' : Calls Try.prog 65 #[.pointer (some ⟨p, 0, none⟩), I 0, I 60] wr _ := hop
      have HOP := hid hop'
      have HON := hid hon
      clear hon hop hop' hk hlt
      go_wp2_with (go_at_call 65; refine HOP.out.mono ?_; rintro e w5 ⟨t2, v2, rfl, ht2, hlt2, hrc2, hb2⟩; obtain ⟨vs, pb, hrc2⟩ := hrc2; obtain ⟨ao2, co2, rfl⟩ := own_form hrc2.row; have HR2 := hid hrc2; have HT2 := hid ht2; have HB2 := hid hb2; have HLT := hid hlt2; clear ht2 hlt2 hrc2 hb2)
      clear HOP
      generalize hwz : wr = wz at *
      clear hwz
      go_loopw [84] (fun i wx => ∃ j : Nat, j ≤ L.length ∧ i = I j ∧ Hid (LooseRecs wx (t2 + 1) (.slice ao2 L.length co2) vs L) ∧ Hid (Below (t2 + 1) w5 wx)) (fun i _ => L.length - (intOf i).toNat)
      case atStart => exact ⟨0, by omega, rfl, hid (LooseRecs.of HR2.out), hid (Below.refl _ _)⟩
      case round =>
        clear HR2
        obtain ⟨j, hj, rfl, HL, HB⟩ := hrel
        by_cases hjl : j < L.length
        · have f1 : decide ((j : Int) < (L.length : Int)) = true := decide_eq_true (by omega)
          obtain ⟨r, hr⟩ : ∃ r, L[j]? = some r := ⟨_, List.getElem?_eq_getElem hjl⟩
          have hrs : r.length ≤ 65536 := HON.out.small r (List.mem_of_getElem? hr)
          have HR := hid hr
          obtain ⟨G, u, rfl, hu, hcu, hlo, hou⟩ := HL.out.at hr
          obtain ⟨au, cu, rfl⟩ := hlo.form
          have HU := hid hu
          clear hr hlo hou hu
          go_wp2
          go_loopw [92] (fun i wy => ∃ m : Nat, m ≤ r.length ∧ i = I m ∧ Hid (LooseRecs wy (t2 + 1) (.slice (some ⟨G, 0, none⟩) L.length co2) vs L) ∧ Hid (Below (t2 + 1) w5 wy)) (fun i _ => r.length - (intOf i).toNat)
          case atStart => exact ⟨0, by omega, rfl, HL, HB⟩
          case round =>
            clear HL HB
            obtain ⟨m, hm, rfl, HL, HB⟩ := hrel
            by_cases hmr : m < r.length
            · have f2 : decide ((m : Int) < (r.length : Int)) = true := decide_eq_true (by omega)
              clear hcu
              obtain ⟨G', u', e1, hu', hcu, hlo, hou⟩ := HL.out.at HR.out
              simp only [Option.some.injEq, Addr.mk.injEq, and_true] at e1
              subst e1
              rw [HU.out] at hu'
              obtain rfl := Option.some.inj hu'
              obtain ⟨g, c0, rfl, hgc, hcell, hfr⟩ := hlo.at hmr
              have hgo := hou g rfl
              have HL2 := hid (HL.out.set hgo.1 m 1)
              have HB2' := hid (HB.out.setCell (p := ⟨g, m, none⟩) hgo.2 (B 1))
              clear hlo hou hgo hu'
              go_wp2
              go_roundw
              case rel => exact ⟨m + 1, by omega, by go_num, HL2, HB2'⟩
              case measure => simp [intOf]; omega
            · have f2 : decide ((m : Int) < (r.length : Int)) = false := decide_eq_false (by omega)
              clear hcu
              go_wp2
              go_roundw
              case rel => exact ⟨j + 1, by omega, by go_num, HL, HB⟩
              case measure => simp [intOf]; omega
        · have f1 : decide ((j : Int) < (L.length : Int)) = false := decide_eq_false (by omega)
          have hst := HT2.out.drum.keepBelow (n := t2 + 1) (fun q hq => by have := HT.out.tst.drum.at'.lt q hq; have := HLT.out; omega) (by have := HT.out.tst.drum.below.size; have := HLT.out; omega) HB.out
          have hwn := (HT.out.wants.below HB2.out).keep (w' := wr) (fun q hq => HB.out.block q (by have := (own_lt HT.out.wants.row q hq).2; have := HLT.out; omega))
          rw [List.take_length] at hwn
          have hop := tst_open_on (lo := 0) (hi := 60) hst HON.out
          have hop' : Calls Try.prog 65 #[.pointer (some ⟨p, 0, none⟩), I 0, I 60] wr _ := hop
          have HOP := hid hop'
          have HWN := hid hwn
          clear hop hop' hst hwn HL HB
          go_wp2_with (go_at_call 65; refine HOP.out.mono ?_; rintro e w6 ⟨t3, v3, rfl, ht3, hlt3, hrc3, hb3⟩; obtain ⟨ao3, co3, rfl⟩ := hrc3.form; have HSH := hid hrc3.shows; have HT3 := hid ht3; have HB3 := hid hb3; clear ht3 hlt3 hrc3 hb3)
          have hal := alike_any w6 _ _ L L HSH.out ((HWN.out.below HB3.out).shows HT3.out.drum.below)
          rw [decide_eq_true rfl] at hal
          have HAL := hid hal
          have HBW := hid HT3.out.drum.below
          clear hal
          go_wp2_with (go_at_call 67; refine HAL.out.mono ?_; rintro e w7 ⟨rfl, m7, rfl⟩)
          go_ret
          exact ⟨rfl, HBW.out.trans ((below_drewN _ _).mono HBW.out.size)⟩
namespace tapeKeeps
theorem walkAll (a0 : Option Addr) (cap0 : Nat) (L : List (List UInt8)) {w : World} (h0 : Shows w (.slice a0 L.length cap0) L) (w' : World) (e : w = w') :
    Calls Try.prog 17 #[.slice a0 L.length cap0] w' fun e w'' => e = .returned (.bool true) ∧ Below w'.heap.size w' w'' := by
  subst e
  exact keeps_walk w a0 cap0 L h0
end tapeKeeps
end Go.Proofs.Ytoaeapnkefjpaaa

namespace Go.Proofs.Ytoaeapnkefjpaaa
open Go.RowKit
set_option linter.unusedVariables false
set_option linter.unusedSimpArgs false

section
variable {w0 w : World} {od om : Nat → Prop} {p pm : Nat} {D M : DS}
theorem both_write (h : Both w0 od p om pm D M w) (a : Int) (ha : -9223372036854775808 ≤ a ∧ a ≤ 9223372036854775807) {v : Value} {l : List UInt8} (hv : Sees w v l) (hd : ∀ k, v.ownBlock = some k → ¬ od k) (hN : D.waits.length ≤ 1000000000) :
    Calls Try.prog 50 #[.pointer (some ⟨p, 0, none⟩), I a, v] w fun e w' => e = .returned (I (D.write a l).1) ∧ ∃ od', Both w0 od' p om pm (D.write a l).2 M w' ∧ ∀ b o, Held od om w b o → Held od' om w' b o :=
  (write_any w p od D a v l h.d hv ha hd hN).mono fun e w' ⟨h1, h2⟩ => ⟨h1, h.dstep h2⟩
theorem both_rwrite (h : Both w0 od p om pm D M w) (a : Int) (ha : -9223372036854775808 ≤ a ∧ a ≤ 9223372036854775807) {v : Value} {l : List UInt8} (hv : Sees w v l) (hd : ∀ k, v.ownBlock = some k → ¬ om k) (hN : M.waits.length ≤ 1000000000) :
    Calls Try.prog 51 #[.pointer (some ⟨pm, 0, none⟩), I a, v] w fun e w' => e = .returned (I (M.write a l).1) ∧ ∃ om', Both w0 od p om' pm D (M.write a l).2 w' ∧ ∀ b o, Held od om w b o → Held od om' w' b o :=
  (rwrite_any w pm om M a v l h.m hv ha hd hN).mono fun e w' ⟨h1, h2⟩ => ⟨h1, h.mstep h2⟩
theorem both_flush (h : Both w0 od p om pm D M w) :
    Calls Try.prog 52 #[.pointer (some ⟨p, 0, none⟩)] w fun e w' => e = .returned (I D.Flush.1) ∧ ∃ od', Both w0 od' p om pm D.Flush.2 M w' ∧ ∀ b o, Held od om w b o → Held od' om w' b o :=
  (flush_any w p od D h.d).mono fun e w' ⟨h1, h2⟩ => ⟨h1, h.dstep h2.more⟩
theorem both_rflush (h : Both w0 od p om pm D M w) :
    Calls Try.prog 53 #[.pointer (some ⟨pm, 0, none⟩)] w fun e w' => e = .returned (I M.Flush.1) ∧ ∃ om', Both w0 od p om' pm D M.Flush.2 w' ∧ ∀ b o, Held od om w b o → Held od om' w' b o :=
  (rflush_any w pm om M h.m).mono fun e w' ⟨h1, h2⟩ => ⟨h1, h.mstep h2⟩
end
theorem Both.mod {w0 w w' : World} {od om : Nat → Prop} {p pm g : Nat} {D M : DS} (h : Both w0 od p om pm D M w) (hm : Mod (fun k => k = g) w w') (h1 : ¬ od g) (h2 : ¬ om g) (h3 : w0.heap.size ≤ g) : Both w0 od p om pm D M w' :=
  ⟨h.d.mod hm (fun k hk e => h1 (e ▸ hk)), h.m.mod hm (fun k hk e => h2 (e ▸ hk)), h.fd, h.fm, h.dis, h.below.trans (hm.below h.below.size (fun i hi e => by omega))⟩
/-- A row of bytes whose block is held. -/
def HeldRow (od om : Nat → Prop) (w : World) (v : Value) (n : Nat) (l : List UInt8) : Prop := w.ownsRow 0 5 1 v n (l.map B) ∧ ∀ g, v.ownBlock = some g → ¬ od g ∧ ¬ om g
theorem HeldRow.step {od om od' om' : Nat → Prop} {w w' : World} {v : Value} {n : Nat} {l : List UInt8} (h : HeldRow od om w v n l) (hs : ∀ b o, Held od om w b o → Held od' om' w' b o) : HeldRow od' om' w' v n l := by
  have key : ∀ g, v.ownBlock = some g → ∃ o, w.heap[g]? = some o ∧ Held od' om' w' g o := fun g hg => by
    have hlt := (own_lt h.1 g hg).2
    exact ⟨w.heap[g], Array.getElem?_eq_getElem hlt, hs g _ ⟨Array.getElem?_eq_getElem hlt, h.2 g hg⟩⟩
  refine ⟨own_mod h.1 (fun g hg => ?_), fun g hg => ?_⟩
  · obtain ⟨o, h1, h2⟩ := key g hg
    rw [h1, h2.1]
  · obtain ⟨o, h1, h2⟩ := key g hg
    exact h2.2
theorem HeldRow.on {od om : Nat → Prop} {w w' : World} {v : Value} {n : Nat} {l : List UInt8} (h : HeldRow od om w v n l) (hb : Below w.heap.size w w') : HeldRow od om w' v n l := ⟨own_below h.1 hb, h.2⟩
/-- copy into a page. -/
theorem own_copy2 {P : Program} {w : World} {base : Nat} {e : TypeId} {n g cap : Nat} {xs ys : List Value} (h : w.ownsRow base e 1 (.slice (some ⟨g, 0, none⟩) n cap) n xs) {a : Addr} {sl sc : Nat} {dT sT ty : TypeId} (hm : ys.length = min sl n)
    (hu : P.underlying dT = some (.slice e)) (hs : (P.info? e).map (·.size) = some 1) (hsrc : ∀ i v, ys[i]? = some v → w.cell? (a.add i) = some v) (h1 : ∀ v ∈ ys, v.oneCell' = true) :
    ∃ w', (Builtin.copy_ #[dT, sT] ty #[.slice (some ⟨g, 0, none⟩) n cap, .slice (some a) sl sc]).run P w = .ok (goInt ys.length) w' ∧
      w'.ownsRow base e 1 (.slice (some ⟨g, 0, none⟩) n cap) n (ys ++ xs.drop ys.length) ∧ Mod (fun k => k = g) w w' := by
  obtain ⟨hl, h2⟩ := h
  rcases h2 with ⟨h0, _⟩ | ⟨g', cap', cur, hv, hb, hg, hnc, hcm, hcs, ht⟩
  · cases h0
  simp only [Value.slice.injEq, Option.some.injEq, Addr.mk.injEq] at hv
  obtain ⟨⟨rfl, _⟩, _, rfl⟩ := hv
  have hcp := run_copy_row (P := P) w dT sT ty e g 0 n cap a sl sc cur e ys hu hs hg hm hsrc (by omega) h1
  have hst := seg_take cur.toList ys 0 n (by omega) (by rw [Array.length_toList]; omega)
  rw [Nat.zero_add] at hst
  rw [Nat.zero_add] at hcp
  rw [List.take_zero, List.nil_append] at hst hcp
  refine ⟨_, hcp, ⟨by simp only [List.length_append, List.length_drop]; omega, .inr ⟨g, cap, _, rfl, by simpa using hb, setRow_heap w g cur _ e (0, 0) hg, hnc, hcm, ?_, ?_⟩⟩, Mod.setRow rfl⟩
  · simp only [List.size_toArray, List.length_append, List.length_drop, Array.length_toList]
    omega
  · rw [Nat.mul_one] at ht ⊢
    rw [List.toList_toArray, hst, ht, List.take_zero, List.nil_append]
set_option maxRecDepth 100000 in
set_option maxHeartbeats 3200000 in
theorem begun_any (w : World) (pg lo hi sp : Int) (hp : -9223372036854775808 ≤ pg ∧ pg ≤ 9223372036854775807) (hsp : -9223372036854775808 ≤ sp ∧ sp ≤ 9223372036854775807) (fv : Value) (first : List UInt8) (hf : Sees w fv first) (hfl : first.length ≤ 32768) :
    Calls Try.prog 70 #[.agg #[I pg, I lo, I hi, fv, I sp]] w fun e w' => ∃ p pm od om D, e = .returned (.tuple #[.pointer (some ⟨p, 0, none⟩), .pointer (some ⟨pm, 0, none⟩)]) ∧ Both w od p om pm D D w' ∧ D.waits.length ≤ 200 := by
  obtain ⟨af, cf, rfl, hff⟩ := hf.form0
  have hb0 : Below w.heap.size w (w.alloc (.cells #[I pg, I lo, I hi, .slice af first.length cf, I sp] 94)) := (Below.refl _ _).alloc (Nat.le_refl _) _
  have hp0 : (w.alloc (.cells #[I pg, I lo, I hi, .slice af first.length cf, I sp] 94)).heap[w.heap.size]? = some (.cells #[I pg, I lo, I hi, .slice af first.length cf, I sp] 94 (0, 0)) := heap_alloc_new _ _
  have HF := hid (hf.below hb0)
  have HP := hid hp0
  have HB0 := hid hb0
  clear hb0 hp0 hf
  go_enter Try.func70, Try.ntmps70
  go_wp2_with fail
  have HZ := hid (show (w.alloc (.cells #[I pg, I lo, I hi, .slice af first.length cf, I sp] 94)).heap.size = w.heap.size + 1 by simp)
  generalize w.alloc (.cells #[I pg, I lo, I hi, .slice af first.length cf, I sp] 94) = wa at *
  obtain ⟨bp, hbp⟩ : ∃ bp, bp = w.heap.size := ⟨_, rfl⟩
  rw [← hbp] at HP ⊢
  have HBP := hid hbp
  clear hbp
  have k0 : ∀ w', Ext wa.drew w' → w'.cell? ⟨bp, 0, none⟩ = some (I pg) := fun w' hh => (Ext.trans _ _ _ (Ext.drew wa) hh).cell (by rw [cell_of_row _ _ _ _ _ _ HP.out]; rfl)
  refine wp_region_order Ext [] [(0,0),(1,0),(3,0),(4,0),(2,1),(5,1),(6,0),(7,0)] _ (by kernel_rfl) rfl Ext.refl Ext.trans (by kernel_rfl) (by simp only [pick, List.getElem?_toArray, List.getElem?_cons_zero, List.getElem?_cons_succ]; rfl) (fun c a d v w h => by cases d <;> exact h) ?_
  refine wpK_q (v := ?_) (a' := ?_) (by rfl) (fun w' hR => ?_) ?_ ?_
  rotate_left 2
  · go_simp; with_reducible rfl
  · simp only [Act.put, List.setIfInBounds_toArray, List.set_cons_zero, List.set_cons_succ]; rfl
  refine wpK_q (v := ?_) (a' := ?_) (by rfl) (fun w' hR => ?_) ?_ ?_
  rotate_left 2
  · go_simp; with_reducible rfl
  · simp only [Act.put, List.setIfInBounds_toArray, List.set_cons_zero, List.set_cons_succ]; rfl
  refine wpK_q (v := ?_) (a' := ?_) (by rfl) (fun w' hR => ?_) ?_ ?_
  rotate_left 2
  · go_simp; with_reducible rfl
  · simp only [Act.put, List.setIfInBounds_toArray, List.set_cons_zero, List.set_cons_succ]; rfl
  refine wpK_q (v := ?_) (a' := ?_) (by rfl) (fun w' hR => ?_) ?_ ?_
  rotate_left 2
  · go_simp; with_reducible rfl
  · simp only [Act.put, List.setIfInBounds_toArray, List.set_cons_zero, List.set_cons_succ]; rfl
  refine wpK_call Try.func36 (by kernel_rfl) rfl rfl (by rfl) #[.int .i64 pg] (by simp only [List.map_toArray, List.map_cons, List.map_nil]; rfl) ?_
  refine (st_new _ pg hp).mono ?_
  rintro e w2 ⟨p, od, rfl, h2⟩
  refine ⟨_, rfl, fun _ => h2.below, ?_⟩
  refine wpK_call Try.func37 (by kernel_rfl) rfl rfl (by rfl) #[.int .i64 pg] (by simp only [List.map_toArray, List.map_cons, List.map_nil]; rfl) ?_
  refine (rnew_any _ pg hp).mono ?_
  rintro e w3 ⟨pm, om, rfl, h3, h4, h5⟩
  refine ⟨_, rfl, fun _ => h5, ?_⟩
  refine wpK_q (v := ?_) (a' := ?_) (by rfl) (fun w' hR => ?_) ?_ ?_
  rotate_left 2
  · go_simp; with_reducible rfl
  · simp only [Act.put, List.setIfInBounds_toArray, List.set_cons_zero, List.set_cons_succ]; rfl
  refine wpK_q (v := ?_) (a' := ?_) (by rfl) (fun w' hR => ?_) ?_ ?_
  rotate_left 2
  · go_simp; with_reducible rfl
  · simp only [Act.put, List.setIfInBounds_toArray, List.set_cons_zero, List.set_cons_succ]; rfl
  refine wpK_done ?_
  have hbo := both_new h2 h3 h4 h5
  have hbw : Below w.heap.size w wa.drew := HB0.out.trans ((Ext.drew wa).mono HB0.out.size)
  have hbo' : Both w od p om pm (DS.new (DS.clamp pg)) (DS.new (DS.clamp pg)) w3 := ⟨hbo.d, hbo.m, fun k hk => Nat.le_trans hbw.size (hbo.fd k hk), fun k hk => Nat.le_trans hbw.size (hbo.fm k hk), hbo.dis, hbw.trans (hbo.below.mono hbw.size)⟩
  have HBO := hid hbo'
  have HP3 := hid ((hbo.below.block bp (by show bp < wa.heap.size; rw [HBP.out, HZ.out]; omega)).trans (show wa.drew.heap[bp]? = _ from HP.out))
  have HF3 := hid (HF.out.below (show Below wa.heap.size wa w3 from Below.trans (Ext.drew wa) (hbo.below.mono (show wa.heap.size ≤ wa.drew.heap.size from Nat.le_refl _))))
  have hpn : ¬ od bp ∧ ¬ om bp := ⟨fun h => by have h1 := hbo.fd bp h; have h2 : wa.drew.heap.size = w.heap.size + 1 := HZ.out; rw [h2, ← HBP.out] at h1; omega, fun h => by have h1 := hbo.fm bp h; have h2 : wa.drew.heap.size = w.heap.size + 1 := HZ.out; rw [h2, ← HBP.out] at h1; omega⟩
  have HPN := hid hpn
  have HNW : Hid (w.heap.size ≤ w3.heap.size) := hid (Nat.le_trans hbw.size hbo.below.size)
  have HPL : Hid (bp < w3.heap.size) := hid (Array.getElem?_eq_some_iff.1 HP3.out).1
  clear k0 h2 h3 h4 h5 hbo hbw hbo' hpn
  have HO0 := hid (own_empty w3 5 1)
  have hb0 : Below w3.heap.size w3 (w3.alloc (.cells #[] 5)) := (Below.refl _ _).alloc (Nat.le_refl _) _
  have HSa := hid (HF3.out.below hb0)
  have HBa := hid hb0
  have c3 : (w3.alloc (.cells #[] 5)).cell? ⟨bp, 3, none⟩ = some (.slice af first.length cf) := cell_on hb0 (by rw [cell_of_row _ _ _ _ _ _ HP3.out]; rfl)
  clear hb0
  go_wp2_with (at_builtin; go_must (refine wpList_app rfl (.tmp 15) (.tmp 17) 23 rfl w3.heap.size 5 (.int .u8 0) 1 1 Try.underlying23 info5 rfl (by decide) 0 [] first.length (first.map B) HO0.out HSa.out.src ?h63 ?hb ?hbase ?_))
  case h63 => unfold maxLen; omega
  case hb => omega
  case hbase => simp
  intro v4 w4 hown hgrow hat
  replace hown : w4.ownsRow w3.heap.size 5 1 v4 first.length (first.map B) := own_len hown (by simp) (by simp)
  have hb4 := HBa.out.grown hgrow (by simp) (fun j hj => by cases hj; exact Nat.le_refl _)
  obtain ⟨a4, c4, rfl⟩ := own_form hown
  have HB4 := hid (HBO.out.on hb4)
  have HP4 := hid ((hb4.block bp (Array.getElem?_eq_some_iff.1 HP3.out).1).trans HP3.out)
  have HO4 := hid hown
  have HR4 := hid (fun k (hk : (Value.slice a4 first.length c4).ownBlock = some k) => (⟨fun h => by have := HBO.out.d.lt k h; have := (own_lt HO4.out k hk).1; omega, fun h => by have := HBO.out.m.lt k h; have := (own_lt HO4.out k hk).1; omega⟩ : ¬ od k ∧ ¬ om k))
  have d4 : w4.cell? ⟨bp, 4, none⟩ = some (I sp) := by rw [cell_of_row _ _ _ _ _ _ HP4.out]; rfl
  clear hown hgrow hat hb4 HO0 HSa HBa HBO HP3 HF3 c3
  generalize hfn : first.length = n at *
  have HFN := hid hfn
  have hnr : w.heap.size ≤ w3.heap.size := by have := HB4.out.below.size; have := HNW.out; omega
  have HNR := hid hnr
  clear hfn hnr
  have hcases : decide ((0 : Int) < sp) = false ∨ (decide ((0 : Int) < sp) = true ∧ decide (sp ≤ (n : Int)) = false) ∨ (decide ((0 : Int) < sp) = true ∧ decide (sp ≤ (n : Int)) = true ∧ ∃ k : Nat, sp = (k : Int) + 1 ∧ k < n) := by
    by_cases h1 : 0 < sp
    · by_cases h2 : sp ≤ (n : Int)
      · exact .inr (.inr ⟨decide_eq_true h1, decide_eq_true h2, (sp - 1).toNat, by omega, by omega⟩)
      · exact .inr (.inl ⟨decide_eq_true h1, decide_eq_false h2⟩)
    · exact .inl (decide_eq_false h1)
  rcases hcases with e1 | ⟨e1, e2⟩ | ⟨e1, e2, k, hk1, hk2⟩
  focus
    have HQ : Hid (∃ bl : List UInt8, bl.length = n ∧ HeldRow od om w4 (.slice a4 n c4) n bl) := hid ⟨first, HFN.out, own_anew HO4.out (fun k _ => Nat.zero_le k), HR4.out⟩
    go_upto_block 0 with (fail)
    clear HO4 HR4 d4 e1
    generalize w4 = w5 at *
    have HB5 := HB4
    clear HB4 HP4
  rotate_left
  focus
    have HQ : Hid (∃ bl : List UInt8, bl.length = n ∧ HeldRow od om w4 (.slice a4 n c4) n bl) := hid ⟨first, HFN.out, own_anew HO4.out (fun k _ => Nat.zero_le k), HR4.out⟩
    go_upto_block 0 with (fail)
    clear HO4 HR4 d4 e1 e2
    generalize w4 = w5 at *
    have HB5 := HB4
    clear HB4 HP4
  rotate_left
  focus
    have HK1 := hid hk1
    have hw1 : IntKind.i64.wrap (sp - 1) = (k : Int) := by rw [hk1, show (k : Int) + 1 - 1 = (k : Int) by omega]; exact IntWalk.i64_in _ (by omega)
    obtain ⟨g4, cp4, hv4, y1, y2, y3, y4⟩ := own_slice HO4.out (by omega)
    simp only [Value.slice.injEq] at hv4
    obtain ⟨rfl, -, rfl⟩ := hv4
    obtain ⟨c, hc⟩ : ∃ c, first[k]? = some c := ⟨_, List.getElem?_eq_getElem (by rw [HFN.out]; exact hk2)⟩
    have hcell := own_cell HO4.out (i := k) (u := B c) (by rw [List.getElem?_map, hc]; rfl)
    have hfz := own_frozen HO4.out k
    obtain ⟨y, hy, -⟩ := xor_byte c 4 (by omega) (by omega)
    have hst := own_set HO4.out hk2 (B y)
    rw [← List.map_set] at hst
    have hr4 := HR4.out g4 rfl
    have hm4 : Mod (fun k => k = g4) w4 (w4.setCell ⟨g4, k, none⟩ (.int .u8 (y.toNat : Int))) := Mod.set (own := fun k => k = g4) (a := ⟨g4, k, none⟩) rfl
    have HQ : Hid (∃ bl : List UInt8, bl.length = n ∧ HeldRow od om (w4.setCell ⟨g4, k, none⟩ (.int .u8 (y.toNat : Int))) (.slice (some ⟨g4, 0, none⟩) n c4) n bl) := hid ⟨first.set k y, by rw [List.length_set]; exact HFN.out, own_anew hst (fun k _ => Nat.zero_le k), HR4.out⟩
    have HB5 := hid (HB4.out.mod hm4 hr4.1 hr4.2 (Nat.le_trans HNR.out y3))
    have HP5 := hid ((hm4.block bp (Array.getElem?_eq_some_iff.1 HP4.out).1 (fun e => by have := HPL.out; omega)).trans HP4.out)
    clear hk1 hst hm4 hr4 hc y1 y2 y4
    go_upto_block 0 with (fail)
    clear HO4 HR4 HB4 HP4 HP5 d4 e1 e2 hcell hfz hw1 hy y3 HK1 hk2
    generalize w4.setCell ⟨g4, k, none⟩ (.int .u8 (y.toNat : Int)) = w5 at *
    generalize (some ⟨g4, 0, none⟩ : Option Addr) = a4 at *
  rotate_left
  all_goals
    have hmk := fun w => run_page0 w 23 rfl
    go_wp2_with fail
    go_loopw [7] (fun i wr => ∃ (k : Nat) (od om : Nat → Prop) (D : DS), k ≤ 200 ∧ i = I k ∧ 256 * k ≤ n + 255 ∧ Hid (Both w od p om pm D D wr) ∧ Hid (D.waits.length ≤ k) ∧ Hid (∃ bl : List UInt8, bl.length = n ∧ HeldRow od om wr (.slice a4 n c4) n bl)) (fun i _ => 200 - (intOf i).toNat)
    case atStart => exact ⟨0, od, om, _, by omega, rfl, by omega, HB5, hid (Nat.le_refl _), HQ⟩
    case round =>
      clear HQ HB5
      obtain ⟨k, od, om, D, hk, rfl, hkn, HB, HW, HQ⟩ := hrel
      obtain ⟨as0, cs, cc0, -, -, -⟩ := HB.out.m.cells
      have hn2 := HB.out.m.ok.n2
      by_cases hboth : 256 * k < n ∧ k < D.safe.length
      · obtain ⟨h1, h2⟩ := hboth
        have f1 : decide ((256 : Int) * (k : Int) < (n : Int)) = true := decide_eq_true (by omega)
        have f2 : decide ((k : Int) < (D.safe.length : Int)) = true := decide_eq_true (by omega)
        obtain ⟨bl, hbl, hrow⟩ := HQ.out
        obtain ⟨g4, cp4, hv4, y1, y2, y3, y4⟩ := own_slice hrow.1 (by omega)
        simp only [Value.slice.injEq] at hv4
        obtain ⟨rfl, -, rfl⟩ := hv4
        have hb6 : Below wr.heap.size wr (wr.alloc (.cells (page0.map B).toArray 5)) := (Below.refl _ _).alloc (Nat.le_refl _) _
        have hpg := own_page0 wr
        have hrow6 := hrow.on hb6
        obtain ⟨m, hm⟩ : ∃ m, m = min (n - 256 * k) 256 := ⟨_, rfl⟩
        have hyl : (((bl.drop (256 * k)).take m).map B).length = min (n - 256 * k) 256 := by rw [List.length_map, List.length_take, List.length_drop, hbl]; omega
        obtain ⟨w7, hcp, hO7, hM7⟩ := own_copy2 (P := Try.prog) (ys := ((bl.drop (256 * k)).take m).map B) hpg (a := ⟨g4, 256 * k, none⟩) (sl := n - 256 * k) (sc := c4 - 256 * k) (dT := 23) (sT := 23) (ty := 3) hyl Try.underlying23 z5 (fun i u hu => by
          rw [add_off]
          rw [List.getElem?_map, List.getElem?_take] at hu
          split at hu
          · rw [List.getElem?_drop] at hu
            exact own_cell hrow6.1 (by rw [List.getElem?_map]; exact hu)
          · simp at hu) (fun u hu => by obtain ⟨c, _, rfl⟩ := List.mem_map.1 hu; rfl)
        obtain ⟨PG, hPG⟩ : ∃ PG, PG = (bl.drop (256 * k)).take m ++ page0.drop m := ⟨_, rfl⟩
        have hO7' : w7.ownsRow wr.heap.size 5 1 (.slice (some ⟨wr.heap.size, 0, none⟩) 256 256) 256 (PG.map B) := own_len hO7 rfl (by rw [hyl, hPG, List.map_append, List.map_drop, hm])
        have hPGl : PG.length = 256 := by have := hO7'.1; simpa using this
        have hg4 : g4 < wr.heap.size := (own_lt hrow.1 g4 rfl).2
        have hb7 : Below wr.heap.size wr w7 := hb6.trans (hM7.below hb6.size (fun i hi e => by omega))
        have HB7 := hid (HB.out.on hb7)
        have HQ7 := hid (hrow.on hb7)
        have HP7 : Hid (HeldRow od om w7 (.slice (some ⟨wr.heap.size, 0, none⟩) 256 256) 256 PG) := hid ⟨own_anew hO7' (fun k _ => Nat.zero_le k), fun q hq => by have e : wr.heap.size = q := Option.some.inj hq; subst e; exact ⟨fun h => by have := HB.out.d.lt _ h; omega, fun h => by have := HB.out.m.lt _ h; omega⟩⟩
        have HPL7 := hid hPGl
        have HBL := hid hbl
        have tn : (256 * (k : Int)).toNat = 256 * k := by omega
        have tc : ¬ (c4 = 256 * k) := by omega
        have hcw := both_write HB7.out (k : Int) (by omega) (own_sees' HP7.out.1 hPGl) (fun q hq => (HP7.out.2 q hq).1) (by have := HW.out; omega)
        have HCW := hid hcw
        clear hb6 hpg hrow6 hyl hO7 hM7 hPG hO7' hPGl hb7 hrow hbl hcw y1 y2 y3 y4
        go_wp2_with (first | (at_builtin; go_must (refine wpList_by rfl (exec_copy rfl _ (by simp only [List.map_toArray, List.map_cons, List.map_nil]; rfl) hcp) ?_)) | (go_at_call 50; go_must (refine HCW.out.mono ?_); rintro e w8 ⟨rfl, od2, hb8, hs8⟩; have HB8 := hid hb8; have HS8 := hid hs8; clear hb8 hs8) | (go_at_call 51; fail))
        have hp8 := HP7.out.step HS8.out
        have HCW2 := hid (both_rwrite HB8.out (k : Int) (by omega) (own_sees' hp8.1 HPL7.out) (fun q hq => (hp8.2 q hq).2) (by have := HW.out; omega))
        refine HCW2.out.mono ?_
        rintro e w9 ⟨rfl, om2, hb9, hs9⟩
        have HB9 := hid hb9
        have HW9 : Hid ((D.write (k : Int) PG).2.waits.length ≤ k + 1) := hid (Nat.le_trans (DS.write_waits' D _ _) (Nat.add_le_add_right HW.out 1))
        have HQ9 : Hid (∃ bl : List UInt8, bl.length = n ∧ HeldRow od2 om2 w9 (.slice (some ⟨g4, 0, none⟩) n c4) n bl) := hid ⟨bl, HBL.out, (HQ7.out.step HS8.out).step hs9⟩
        clear hp8 HCW2 hb9 hs9 HB7 HQ7 HP7 HB8 HS8 HCW hcp
        go_wp2_with fail
        go_roundw
        case rel => exact ⟨k + 1, od2, om2, _, by omega, by go_num, by omega, HB9, HW9, HQ9⟩
        case measure => simp [intOf]; omega
      · have hf : (decide ((256 : Int) * (k : Int) < (n : Int)) = false ∧ ¬ 256 * k < n) ∨ (decide ((256 : Int) * (k : Int) < (n : Int)) = true ∧ decide ((k : Int) < (D.safe.length : Int)) = false ∧ 256 * k < n ∧ ¬ k < D.safe.length) := by
          by_cases h1 : 256 * k < n
          · have h3 : ¬ k < D.safe.length := fun h => hboth ⟨h1, h⟩
            exact .inr ⟨decide_eq_true (by omega), decide_eq_false (by omega), h1, h3⟩
          · exact .inl ⟨decide_eq_false (by omega), h1⟩
        have HCF := hid (both_flush HB.out)
        have HKW : Hid (D.Flush.2.waits.length ≤ 200) := hid (Nat.le_trans (DS.Flush_waits D) (Nat.le_trans HW.out hk))
        clear hboth
        rcases hf with ⟨f1, n1⟩ | ⟨f1, f2, n1, n2⟩
        all_goals
          go_wp2_with (go_at_call 52; go_must (refine HCF.out.mono ?_); rintro e w8 ⟨rfl, od2, hb8, hs8⟩; have HB8 := hid hb8; clear hb8 hs8)
          refine (both_rflush HB8.out).mono ?_
          rintro e w9 ⟨rfl, om2, hb9, hs9⟩
          have HB9 := hid hb9
          clear hb9 hs9
          go_wp2_with fail
          go_ret2
          exact ⟨p, pm, od2, om2, _, rfl, HB9.out, HKW.out⟩
end Go.Proofs.Ytoaeapnkefjpaaa

namespace Go.Proofs.Ytoaeapnkefjpaaa
open Go.RowKit
set_option linter.unusedVariables false
set_option linter.unusedSimpArgs false
/-- What is held by neither drum stays so. -/
def Stay (od om od' om' : Nat → Prop) (w w' : World) : Prop := ∀ b o, Held od om w b o → Held od' om' w' b o
theorem Stay.refl (od om : Nat → Prop) (w : World) : Stay od om od om w w := fun _ _ h => h
theorem Stay.trans {od om od1 om1 od2 om2 : Nat → Prop} {w w1 w2 : World} (h : Stay od om od1 om1 w w1) (k : Stay od1 om1 od2 om2 w1 w2) : Stay od om od2 om2 w w2 := fun b o hb => k b o (h b o hb)
theorem Stay.below {od om : Nat → Prop} {w w' : World} (hb : Below w.heap.size w w') : Stay od om od om w w' := fun b o h => h.on hb
section
variable {w0 w : World} {od om : Nat → Prop} {p pm : Nat} {D M : DS}
theorem Both.back {w00 : World} (h : Both w0 od p om pm D M w) (hb : Below w00.heap.size w00 w0) : Both w00 od p om pm D M w :=
  ⟨h.d, h.m, fun k hk => Nat.le_trans hb.size (h.fd k hk), fun k hk => Nat.le_trans hb.size (h.fm k hk), h.dis, hb.trans (h.below.mono hb.size)⟩
theorem both_arm (h : Both w0 od p om pm D M w) (n k : Int) (hn : -9223372036854775808 ≤ n ∧ n ≤ 9223372036854775807) (hk : -9223372036854775808 ≤ k ∧ k ≤ 9223372036854775807) :
    Calls Try.prog 44 #[.pointer (some ⟨p, 0, none⟩), I n, I k] w fun e w' => e = .returned (.tuple #[]) ∧ ∃ od', Both w0 od' p om pm (D.Arm n k) M w' ∧ Stay od om od' om w w' :=
  (arm_any w p od D n k h.d hn hk).mono fun e w' ⟨h1, h2⟩ => ⟨h1, h.dstep h2.more⟩
theorem both_rarm (h : Both w0 od p om pm D M w) (n k : Int) (hn : -9223372036854775808 ≤ n ∧ n ≤ 9223372036854775807) (hk : -9223372036854775808 ≤ k ∧ k ≤ 9223372036854775807) :
    Calls Try.prog 45 #[.pointer (some ⟨pm, 0, none⟩), I n, I k] w fun e w' => e = .returned (.tuple #[]) ∧ ∃ om', Both w0 od p om' pm D (M.Arm n k) w' ∧ Stay od om od om' w w' :=
  (rarm_any w pm om M n k h.m hn hk).mono fun e w' ⟨h1, h2⟩ => ⟨h1, h.mstep h2.more⟩
theorem both_off (h : Both w0 od p om pm D M w) (k : Int) (hk : -9223372036854775808 ≤ k ∧ k ≤ 9223372036854775807) :
    Calls Try.prog 46 #[.pointer (some ⟨p, 0, none⟩), I k] w fun e w' => e = .returned (.tuple #[]) ∧ ∃ od', Both w0 od' p om pm (D.Off k) M w' ∧ Stay od om od' om w w' :=
  (off_any w p od D k h.d hk).mono fun e w' ⟨h1, h2⟩ => ⟨h1, h.dstep h2.more⟩
theorem both_roff (h : Both w0 od p om pm D M w) (k : Int) (hk : -9223372036854775808 ≤ k ∧ k ≤ 9223372036854775807) :
    Calls Try.prog 47 #[.pointer (some ⟨pm, 0, none⟩), I k] w fun e w' => e = .returned (.tuple #[]) ∧ ∃ om', Both w0 od p om' pm D (M.Off k) w' ∧ Stay od om od om' w w' :=
  (roff_any w pm om M k h.m hk).mono fun e w' ⟨h1, h2⟩ => ⟨h1, h.mstep h2⟩
theorem both_on (h : Both w0 od p om pm D M w) :
    Calls Try.prog 48 #[.pointer (some ⟨p, 0, none⟩)] w fun e w' => e = .returned (.tuple #[]) ∧ ∃ od', Both w0 od' p om pm D.On M w' ∧ Stay od om od' om w w' :=
  (on_any w p od D h.d).mono fun e w' ⟨h1, h2⟩ => ⟨h1, h.dstep h2.more⟩
theorem both_clear (h : Both w0 od p om pm D M w) (lo : Int) (hlo : -9223372036854775808 ≤ lo ∧ lo ≤ 9223372036854775807) (hN : D.waits.length ≤ 800000000) :
    Calls Try.prog 68 #[.pointer (some ⟨p, 0, none⟩), I lo] w fun e w' => e = .returned (I (D.write lo page0).1) ∧ ∃ od', Both w0 od' p om pm (D.write lo page0).2 M w' ∧ Stay od om od' om w w' :=
  (tclear_any w p od D lo h.d hlo hN).mono fun e w' ⟨h1, h2⟩ => ⟨h1, h.dstep h2⟩
/-- The tape that an opening comes to. -/
def openTape (D : DS) (lo hi : Int) : TS := ⟨lo.toNat, hi.toNat, (TS.opn D lo hi).2.2.1, (TS.opn D lo hi).2.2.2, 0⟩
theorem shows_nil (w : World) : Shows w (.slice none 0 0) [] := ⟨none, 0, rfl, Nat.le_refl _, by decide, fun h => by simp at h⟩
theorem opn_bad_nil {D : DS} {lo hi : Int} (h : (TS.opn D lo hi).1 ≠ 0) : (TS.opn D lo hi).2.1 = [] := by
  have key : ∀ (S : List UInt8) (fuel a c : Nat) (acc : List (List UInt8)), (TS.opened S fuel a c acc).1 ≠ 0 → (TS.opened S fuel a c acc).2.1 = [] := by
    intro S fuel
    induction fuel with
    | zero => intro a c acc h; exact absurd rfl h
    | succ k ih =>
      intro a c acc h
      rw [TS.opened] at h ⊢
      cases hf : TS.found S a c with
      | no => rw [hf] at h; exact absurd rfl h
      | bad e => rfl
      | yes r => rw [hf] at h; exact ih _ _ _ h
  unfold TS.opn at h ⊢
  split
  · rfl
  · rename_i h1
    rw [if_neg h1] at h
    split
    · rfl
    · rename_i h2
      rw [if_neg h2] at h
      exact key _ _ _ _ _ h
theorem both_open (h : Both w0 od p om pm D M w) (lo hi : Int) (hl : -9223372036854775808 ≤ lo ∧ lo ≤ 9223372036854775807) (hh : -9223372036854775808 ≤ hi ∧ hi ≤ 9223372036854775807) :
    Calls Try.prog 65 #[.pointer (some ⟨p, 0, none⟩), I lo, I hi] w fun e w' => ∃ tv v, e = .returned (.tuple #[tv, v, I (TS.opn D lo hi).1]) ∧ Below w.heap.size w w' ∧ Shows w' v (TS.opn D lo hi).2.1 ∧
      (((TS.opn D lo hi).1 ≠ 0 ∧ tv = .pointer none) ∨ ((TS.opn D lo hi).1 = 0 ∧ ∃ t, tv = .pointer (some ⟨t, 0, none⟩) ∧ w.heap.size ≤ t ∧ TapeIn w' t p D.safe.length (openTape D lo hi))) := by
  refine (open_any w p od D lo hi h.d hl hh).mono fun e w' hx => ?_
  rcases hx with ⟨h1, h2, h3⟩ | ⟨h1, t, v, h2, h3, h4, h5, h6⟩
  · exact ⟨_, _, h2, h3, by rw [opn_bad_nil h1]; exact shows_nil _, .inl ⟨h1, rfl⟩⟩
  · exact ⟨_, _, by rw [h1]; exact h2, h6, h5.shows, .inr ⟨h1, t, rfl, h3, h4⟩⟩
theorem both_ropen (h : Both w0 od p om pm D M w) (lo hi : Int) (hl : -9223372036854775808 ≤ lo ∧ lo ≤ 9223372036854775807) (hh : -9223372036854775808 ≤ hi ∧ hi ≤ 9223372036854775807) :
    Calls Try.prog 71 #[.pointer (some ⟨pm, 0, none⟩), I lo, I hi] w fun e w' => ∃ uv v, e = .returned (.tuple #[uv, v, I (TS.opn M lo hi).1]) ∧ Below w.heap.size w w' ∧ Shows w' v (TS.opn M lo hi).2.1 ∧
      (((TS.opn M lo hi).1 ≠ 0 ∧ uv = .pointer none) ∨ ((TS.opn M lo hi).1 = 0 ∧ ∃ u, uv = .pointer (some ⟨u, 0, none⟩) ∧ w.heap.size ≤ u ∧ RTapeIn w' u pm M.safe.length (openTape M lo hi))) := by
  refine (ropen_any w pm om M lo hi h.m hl hh).mono fun e w' hx => ?_
  rcases hx with ⟨⟨h1, h2⟩ | ⟨h1, t, v, h2, h3, h4, h5⟩, h6⟩
  · exact ⟨_, _, h2, h6, by rw [opn_bad_nil h1]; exact shows_nil _, .inl ⟨h1, rfl⟩⟩
  · exact ⟨_, _, by rw [h1]; exact h2, h6, h5, .inr ⟨h1, t, rfl, h3, h4⟩⟩
/-- The two tapes, or none. -/
def Tapes (w0 w : World) (od om : Nat → Prop) (p pm n : Nat) (T : TS) (tv uv : Value) : Prop :=
  (tv = .pointer none ∧ uv = .pointer none) ∨ ∃ t u, tv = .pointer (some ⟨t, 0, none⟩) ∧ uv = .pointer (some ⟨u, 0, none⟩) ∧ TapeIn w t p n T ∧ RTapeIn w u pm n T ∧ (¬ od t ∧ ¬ om t) ∧ (¬ od u ∧ ¬ om u) ∧ t ≠ u ∧ w0.heap.size ≤ t ∧ w0.heap.size ≤ u
theorem TapeIn.stay {w w' : World} {od om od' om' : Nat → Prop} {t p n : Nat} {T : TS} (h : TapeIn w t p n T) (ho : ¬ od t ∧ ¬ om t) (hs : Stay od om od' om' w w') : TapeIn w' t p n T ∧ ¬ od' t ∧ ¬ om' t := by
  obtain ⟨h1, h2, h3⟩ := hs t _ ⟨h.ht, ho⟩
  exact ⟨h.keep (h1.trans h.ht.symm), h2, h3⟩
theorem RTapeIn.stay {w w' : World} {od om od' om' : Nat → Prop} {t p n : Nat} {T : TS} (h : RTapeIn w t p n T) (ho : ¬ od t ∧ ¬ om t) (hs : Stay od om od' om' w w') : RTapeIn w' t p n T ∧ ¬ od' t ∧ ¬ om' t := by
  obtain ⟨h1, h2, h3⟩ := hs t _ ⟨h.ht, ho⟩
  exact ⟨h.keep (h1.trans h.ht.symm), h2, h3⟩
theorem Tapes.stay {w0 w w' : World} {od om od' om' : Nat → Prop} {p pm n : Nat} {T : TS} {tv uv : Value} (h : Tapes w0 w od om p pm n T tv uv) (hs : Stay od om od' om' w w') : Tapes w0 w' od' om' p pm n T tv uv := by
  rcases h with h | ⟨t, u, h1, h2, h3, h4, h5, h6, h7⟩
  · exact .inl h
  · obtain ⟨k1, k2⟩ := h3.stay h5 hs
    obtain ⟨k3, k4⟩ := h4.stay h6 hs
    exact .inr ⟨t, u, h1, h2, k1, k3, k2, k4, h7⟩
/-- Behind two openings. -/
theorem Tapes.opened {w0 w1 w2 w3 : World} {od om : Nat → Prop} {p pm : Nat} {D : DS} {tv uv : Value} {lo hi : Int} (hb : Both w0 od p om pm D D w1) (h12 : Below w1.heap.size w1 w2) (h23 : Below w2.heap.size w2 w3)
    (ht : ((TS.opn D lo hi).1 ≠ 0 ∧ tv = .pointer none) ∨ ((TS.opn D lo hi).1 = 0 ∧ ∃ t, tv = .pointer (some ⟨t, 0, none⟩) ∧ w1.heap.size ≤ t ∧ TapeIn w2 t p D.safe.length (openTape D lo hi)))
    (hu : ((TS.opn D lo hi).1 ≠ 0 ∧ uv = .pointer none) ∨ ((TS.opn D lo hi).1 = 0 ∧ ∃ u, uv = .pointer (some ⟨u, 0, none⟩) ∧ w2.heap.size ≤ u ∧ RTapeIn w3 u pm D.safe.length (openTape D lo hi))) :
    Tapes w0 w3 od om p pm D.safe.length (openTape D lo hi) tv uv := by
  rcases ht with ⟨h1, h2⟩ | ⟨h1, t, h2, h3, h4⟩
  · rcases hu with ⟨k1, k2⟩ | ⟨k1, _⟩
    · exact .inl ⟨h2, k2⟩
    · exact absurd k1 h1
  · rcases hu with ⟨k1, _⟩ | ⟨k1, u, k2, k3, k4⟩
    · exact absurd h1 k1
    · have htl := h4.lt
      have hz := h12.size
      have hbz := hb.below.size
      refine .inr ⟨t, u, h2, k2, h4.below h23, k4, ⟨fun h => by have := hb.d.lt t h; omega, fun h => by have := hb.m.lt t h; omega⟩, ⟨fun h => by have := hb.d.lt u h; omega, fun h => by have := hb.m.lt u h; omega⟩, by omega, by omega, by omega⟩
theorem both_append {t : Nat} {T : TS} {v : Value} {r : List UInt8} (h : Both w0 od p om pm D M w) (ht : TapeIn w t p D.safe.length T) (ho : ¬ od t ∧ ¬ om t) (hz : w0.heap.size ≤ t) (hv : Sees w v r) (hN : D.waits.length ≤ 800000000) :
    Calls Try.prog 66 #[.pointer (some ⟨t, 0, none⟩), v] w fun e w' => e = .returned (I (TS.append D T r).1) ∧ ∃ od', Both w0 od' p om pm (TS.append D T r).2.1 M w' ∧ TapeIn w' t p D.safe.length (TS.append D T r).2.2 ∧ (¬ od' t ∧ ¬ om t) ∧ (∀ b o, b ≠ t → Held od om w b o → Held od' om w' b o) ∧ Below w0.heap.size w w' := by
  refine (tappend_any w t p od T D v r ht h.d ho.1 hv hN).mono fun e w' hx => ?_
  obtain ⟨h1, h2, od', h3, h4, h5⟩ := hx
  have htl := ht.lt
  have hlow : ∀ i, i < w0.heap.size → ¬ (od i ∨ i = t) := fun i hi e => by
    rcases e with e | e
    · have := h.fd i e; omega
    · omega
  refine ⟨h1, od', ⟨h3, h.m.mod h5 (fun k hk e => e.elim (fun e => h.dis k e hk) (fun e => ho.2 (e ▸ hk))), fun k hk => ?_, h.fm, fun k hk hk2 => ?_, h.below.trans (h5.below h.below.size hlow)⟩, h2, ⟨fun e => ?_, ho.2⟩, fun b o hb hh => ⟨(h5.block b hh.lt (fun e => e.elim hh.2.1 hb)).trans hh.1, fun e => ?_, hh.2.2⟩, h5.below h.below.size hlow⟩
  · rcases h4 k hk with h' | h'
    · exact h.fd k h'
    · exact Nat.le_trans h.below.size h'
  · rcases h4 k hk with h' | h'
    · exact h.dis k h' hk2
    · have := h.m.lt k hk2; omega
  · rcases h4 t e with h' | h'
    · exact ho.1 h'
    · omega
  · rcases h4 b e with h' | h'
    · exact hh.2.1 h'
    · have := hh.lt; omega
theorem both_rappend {t : Nat} {T : TS} {v : Value} {r : List UInt8} (h : Both w0 od p om pm D M w) (ht : RTapeIn w t pm M.safe.length T) (ho : ¬ od t ∧ ¬ om t) (hz : w0.heap.size ≤ t) (hv : Sees w v r) (hN : M.waits.length ≤ 800000000) :
    Calls Try.prog 73 #[.pointer (some ⟨t, 0, none⟩), v] w fun e w' => e = .returned (I (TS.append M T r).1) ∧ ∃ om', Both w0 od p om' pm D (TS.append M T r).2.1 w' ∧ RTapeIn w' t pm M.safe.length (TS.append M T r).2.2 ∧ (¬ od t ∧ ¬ om' t) ∧ (∀ b o, b ≠ t → Held od om w b o → Held od om' w' b o) ∧ Below w0.heap.size w w' := by
  refine (rtappend_any w t pm om T M v r ht h.m ho.2 hv hN).mono fun e w' hx => ?_
  obtain ⟨h1, h2, om', h3, h4, h5⟩ := hx
  have htl := ht.lt
  have hlow : ∀ i, i < w0.heap.size → ¬ (om i ∨ i = t) := fun i hi e => by
    rcases e with e | e
    · have := h.fm i e; omega
    · omega
  refine ⟨h1, om', ⟨h.d.mod h5 (fun k hk e => e.elim (fun e => h.dis k hk e) (fun e => ho.1 (e ▸ hk))), h3, h.fd, fun k hk => ?_, fun k hk hk2 => ?_, h.below.trans (h5.below h.below.size hlow)⟩, h2, ⟨ho.1, fun e => ?_⟩, fun b o hb hh => ⟨(h5.block b hh.lt (fun e => e.elim hh.2.2 hb)).trans hh.1, hh.2.1, fun e => ?_⟩, h5.below h.below.size hlow⟩
  · rcases h4 k hk with h' | h'
    · exact h.fm k h'
    · exact Nat.le_trans h.below.size h'
  · rcases h4 k hk2 with h' | h'
    · exact h.dis k hk h'
    · have := h.d.lt k hk; omega
  · rcases h4 t e with h' | h'
    · exact ho.2 h'
    · omega
  · rcases h4 b e with h' | h'
    · exact hh.2.2 h'
    · have := hh.lt; omega
end
/-- Between two rounds of TapeDoes. -/
structure TD (w wr : World) (bp p pm n : Nat) (cs : Array Value) (od om : Nat → Prop) (D : DS) (T : TS) (tv uv : Value) (j : Nat) : Prop where
  both : Both w od p om pm D D wr
  held : Held od om wr bp (.cells cs 94 (0, 0))
  tapes : Tapes w wr od om p pm n T tv uv
  len : D.safe.length = n
  waits : D.waits.length ≤ 200 + 500 * j
theorem TD.stay {w wr wx : World} {bp p pm n : Nat} {cs : Array Value} {od om od' om' : Nat → Prop} {D D' : DS} {T : TS} {tv uv : Value} {j j' : Nat} (h : TD w wr bp p pm n cs od om D T tv uv j) (hb : Both w od' p om' pm D' D' wx) (hs : Stay od om od' om' wr wx) (hl : D'.safe.length = D.safe.length) (hw : D'.waits.length ≤ 200 + 500 * j') : TD w wx bp p pm n cs od' om' D' T tv uv j' :=
  ⟨hb, hs _ _ h.held, h.tapes.stay hs, hl.trans h.len, hw⟩
theorem TD.on {w wr wx : World} {bp p pm n : Nat} {cs : Array Value} {od om : Nat → Prop} {D : DS} {T : TS} {tv uv : Value} {j : Nat} (h : TD w wr bp p pm n cs od om D T tv uv j) (hb : Below wr.heap.size wr wx) : TD w wx bp p pm n cs od om D T tv uv j :=
  h.stay (h.both.on hb) (Stay.below hb) rfl h.waits
theorem TD.same {w wr : World} {bp p pm n : Nat} {cs : Array Value} {od om : Nat → Prop} {D : DS} {T : TS} {tv uv : Value} {j : Nat} (h : TD w wr bp p pm n cs od om D T tv uv j) : Calls Try.prog 72 #[.pointer (some ⟨p, 0, none⟩), .pointer (some ⟨pm, 0, none⟩)] wr fun e w' => e = .returned (.bool true) ∧ TD w w' bp p pm n cs od om D T tv uv j ∧ Below wr.heap.size wr w' :=
  (tsame_any wr w p pm od om D h.both).mono fun e w' ⟨h1, h2⟩ => ⟨h1, h.on h2, h2⟩
/-- Opened anew. -/
theorem TD.opened {w w1 w2 w3 : World} {bp p pm n : Nat} {cs : Array Value} {od om : Nat → Prop} {D : DS} {T : TS} {tv uv tv' uv' : Value} {j : Nat} {lo hi : Int} (h : TD w w1 bp p pm n cs od om D T tv uv j) (h12 : Below w1.heap.size w1 w2) (h23 : Below w2.heap.size w2 w3)
    (ht : ((TS.opn D lo hi).1 ≠ 0 ∧ tv' = .pointer none) ∨ ((TS.opn D lo hi).1 = 0 ∧ ∃ t, tv' = .pointer (some ⟨t, 0, none⟩) ∧ w1.heap.size ≤ t ∧ TapeIn w2 t p D.safe.length (openTape D lo hi)))
    (hu : ((TS.opn D lo hi).1 ≠ 0 ∧ uv' = .pointer none) ∨ ((TS.opn D lo hi).1 = 0 ∧ ∃ u, uv' = .pointer (some ⟨u, 0, none⟩) ∧ w2.heap.size ≤ u ∧ RTapeIn w3 u pm D.safe.length (openTape D lo hi))) :
    TD w w3 bp p pm n cs od om D (openTape D lo hi) tv' uv' j := by
  have hb : Below w1.heap.size w1 w3 := h12.trans (h23.mono h12.size)
  exact ⟨h.both.on hb, h.held.on hb, by rw [← h.len]; exact Tapes.opened h.both h12 h23 ht hu, h.len, h.waits⟩
end Go.Proofs.Ytoaeapnkefjpaaa
