/-
  THE TAPE, PLAIN: what an append with the power on makes of the stretch, and what an opening finds there. No program in sight.
  Conditions: none beyond what each lemma names.
-/
import Derived.Test.YtoaeapnkefjpaaaTapeW2
namespace Go.Proofs.Ytoaeapnkefjpaaa
open Go.RowKit
set_option linter.unusedVariables false
set_option linter.unusedSimpArgs false
namespace TS
/-- A drum whose power is on and stays on. -/
structure Live (D : DS) : Prop where
  ok : D.Ok
  on : D.off = false
  un : D.armed = 0
theorem stretch_get {D : DS} (h : D.Ok) {lo n : Nat} (hn : lo + n ≤ D.safe.length) {j : Nat} (hj : j < n * 256) : (stretch D lo n)[j]? = (DS.look D.safe D.waits (lo + j / 256))[j % 256]? := by
  have := rows_get (stretch_page h hn) (k := j / 256) (x := j / 256) (by rw [List.getElem?_range (by omega)]) (j := j % 256) (by omega)
  rw [← this]
  unfold stretch
  congr 1
  omega
theorem wr_live : ∀ (pages : List (List UInt8)) (D : DS) (a : Nat), Live D → (∀ p ∈ pages, p.length = 256) → a + pages.length ≤ D.safe.length →
    (wr D a pages).1 = 0 ∧ Live (wr D a pages).2 ∧ (wr D a pages).2.safe = D.safe ∧ ∀ k, DS.look (wr D a pages).2.safe (wr D a pages).2.waits k = if a ≤ k ∧ k < a + pages.length then pages.getD (k - a) [] else DS.look D.safe D.waits k
  | [], D, a, h, _, _ => ⟨rfl, h, rfl, fun k => by rw [if_neg (by simp)]; rfl⟩
  | p :: ps, D, a, h, hp, ha => by
    rw [List.length_cons] at ha
    have hw := DS.write_ok h.on h.un (a := a) (by omega) (hp p (by simp))
    have hok := h.ok.write (a : Int) p
    rw [wr, hw]
    simp only [if_true]
    rw [hw] at hok
    obtain ⟨h1, h2, h3, h4⟩ := wr_live ps _ (a + 1) ⟨hok, h.on, h.un⟩ (fun q hq => hp q (by simp [hq])) (by simp only; omega)
    refine ⟨h1, h2, h3, fun k => ?_⟩
    rw [h4 k]
    simp only
    rw [DS.look_snoc, List.length_cons]
    by_cases e : a = k
    · subst e
      rw [if_neg (by omega), if_pos rfl, if_pos (by omega), Nat.sub_self]
      rfl
    · rw [if_neg e]
      by_cases e2 : a + 1 ≤ k ∧ k < a + 1 + ps.length
      · rw [if_pos e2, if_pos (by omega)]
        have : k - a = (k - (a + 1)) + 1 := by omega
        rw [this, List.getD_cons_succ]
      · rw [if_neg e2, if_neg (by omega)]
theorem flush_live {D : DS} (h : Live D) : D.Flush.1 = 0 ∧ Live D.Flush.2 ∧ D.Flush.2.safe.length = D.safe.length ∧ ∀ k, k < D.safe.length → DS.look D.Flush.2.safe D.Flush.2.waits k = DS.look D.safe D.waits k := by
  have hf := DS.flush_ok h.on h.un
  have hok := h.ok.Flush
  rw [hf] at hok ⊢
  exact ⟨rfl, ⟨hok, h.on, h.un⟩, DS.flush_len _ _, fun k hk => DS.look_flush _ _ k hk⟩
theorem write_live {D : DS} (h : Live D) {a : Nat} (ha : a < D.safe.length) {l : List UInt8} (hl : l.length = 256) : (D.write a l).1 = 0 ∧ Live (D.write a l).2 ∧ (D.write a l).2.safe = D.safe ∧ ∀ k, DS.look (D.write a l).2.safe (D.write a l).2.waits k = if a = k then l else DS.look D.safe D.waits k := by
  have hw := DS.write_ok h.on h.un ha hl
  have hok := h.ok.write (a : Int) l
  rw [hw] at hok ⊢
  exact ⟨rfl, ⟨hok, h.on, h.un⟩, rfl, fun k => DS.look_snoc _ _ _ _ _⟩
set_option maxRecDepth 100000 in
/-- Where a piece of the stretch is laid anew. -/
theorem stretch_over {D D' : DS} (h : D.Ok) (h' : D'.Ok) {lo n q K : Nat} (hn : lo + n ≤ D.safe.length) (hn' : lo + n ≤ D'.safe.length) (hq : q + K ≤ n) {X : List UInt8} (hX : X.length = K * 256)
    (hin : ∀ i, i < K → DS.look D'.safe D'.waits (lo + (q + i)) = (X.drop (i * 256)).take 256) (hout : ∀ i, i < n → i < q ∨ q + K ≤ i → DS.look D'.safe D'.waits (lo + i) = DS.look D.safe D.waits (lo + i)) :
    stretch D' lo n = (stretch D lo n).take (q * 256) ++ X ++ (stretch D lo n).drop ((q + K) * 256) := by
  have l1 := stretch_len h hn
  have l2 := stretch_len h' hn'
  have hm : (q + K) * 256 ≤ n * 256 := Nat.mul_le_mul_right _ hq
  have hd : (q + K) * 256 = q * 256 + K * 256 := Nat.add_mul _ _ _
  apply List.ext_getElem?
  intro j
  by_cases hj : j < n * 256
  · rw [stretch_get h' hn' hj]
    have hlen1 : ((stretch D lo n).take (q * 256)).length = q * 256 := by rw [List.length_take, l1]; omega
    by_cases h1 : j < q * 256
    · rw [List.append_assoc, List.getElem?_append_left (by omega), List.getElem?_take, if_pos h1, stretch_get h hn hj, hout (j / 256) (by omega) (.inl (by omega))]
    · by_cases h2 : j < (q + K) * 256
      · rw [List.append_assoc, List.getElem?_append_right (by omega), hlen1, List.getElem?_append_left (by omega)]
        have := hin (j / 256 - q) (by omega)
        rw [show lo + (q + (j / 256 - q)) = lo + j / 256 from by omega] at this
        have e : (j / 256 - q) * 256 + j % 256 = j - q * 256 := by omega
        rw [this, List.getElem?_take, if_pos (Nat.mod_lt _ (by decide)), List.getElem?_drop, e]
      · rw [List.getElem?_append_right (by rw [List.length_append]; omega), List.length_append, hlen1, hX, List.getElem?_drop, hout (j / 256) (by omega) (.inr (by omega)), ← stretch_get h hn hj]
        have e : (q + K) * 256 + (j - (q * 256 + K * 256)) = j := by omega
        rw [e]
  · rw [List.getElem?_eq_none (by omega), List.getElem?_eq_none]
    simp only [List.length_append, List.length_take, List.length_drop, l1, hX]
    omega
/-- What stands behind a record: nothing, or a nought first. -/
def Stop (rest : List UInt8) : Prop := rest = [] ∨ rest.head? = some 0
set_option maxRecDepth 100000 in
set_option maxHeartbeats 800000 in
theorem doIt_live {D : DS} {T : TS} {r : List UInt8} (h : Live D) (hT : T.Ok D.safe.length) (hs : T.pos + 12 + r.length ≤ T.size) :
    (doIt D T r).1 = 0 ∧ (doIt D T r).2.2 = { T with pos := T.pos + 12 + r.length, count := T.count + 1 } ∧ Live (doIt D T r).2.1 ∧ (doIt D T r).2.1.safe.length = D.safe.length ∧
    ∃ rest, stretch (doIt D T r).2.1 T.lo (T.hi - T.lo) = (stretch D T.lo (T.hi - T.lo)).take T.pos ++ (1 :: (framed T.count r ++ r)) ++ rest ∧ Stop rest := by
  obtain ⟨t1, t2, t3, t4, -⟩ := hT
  obtain ⟨n, hn⟩ : ∃ n, n = T.hi - T.lo := ⟨_, rfl⟩
  have hsz : T.size = n * 256 := by rw [hn]; rfl
  obtain ⟨S, hS⟩ : ∃ S, S = stretch D T.lo n := ⟨_, rfl⟩
  have hSl : S.length = n * 256 := by rw [hS]; exact stretch_len h.ok (by omega)
  obtain ⟨q, hq⟩ : ∃ q, q = T.pos / 256 := ⟨_, rfl⟩
  obtain ⟨j, hj⟩ : ∃ j, j = T.pos % 256 := ⟨_, rfl⟩
  have hpos : T.pos = q * 256 + j := by omega
  have hj2 : j < 256 := by omega
  obtain ⟨P, hP⟩ : ∃ P, P = padded D T T.pos (body T r) := ⟨_, rfl⟩
  obtain ⟨tail, htail⟩ : ∃ tail, tail = (if T.pos + (12 + r.length) < T.size then [(0 : UInt8)] else []) := ⟨_, rfl⟩
  obtain ⟨Y, hY⟩ : ∃ Y, Y = framed T.count r ++ r := ⟨_, rfl⟩
  have hYl : Y.length = 11 + r.length := by rw [hY, List.length_append, framed_len]
  have hbody : body T r = 0 :: Y ++ tail := by unfold body; rw [hY, htail]
  obtain ⟨ah, hah⟩ : ∃ ah, ah = (S.drop (q * 256)).take j := ⟨_, rfl⟩
  have hahl : ah.length = j := by rw [hah, List.length_take, List.length_drop, hSl]; omega
  obtain ⟨z, hz⟩ : ∃ z, z = (256 - (ah ++ (0 :: Y ++ tail)).length % 256) % 256 := ⟨_, rfl⟩
  have hPe : P = ah ++ (0 :: Y ++ tail) ++ List.replicate z 0 := by
    rw [hP]
    unfold padded
    simp only []
    rw [← hn, ← hS, ← hq, ← hj, ← hah, hbody, ← hz]
  have htl : tail.length ≤ 1 ∧ (T.pos + (12 + r.length) < T.size → tail = [0]) ∧ (¬ T.pos + (12 + r.length) < T.size → tail = []) := by
    rw [htail]
    split
    · exact ⟨by simp, fun _ => rfl, fun h => absurd (by assumption) h⟩
    · exact ⟨by simp, fun h => absurd h (by assumption), fun _ => rfl⟩
  have hal : (ah ++ (0 :: Y ++ tail)).length = j + (12 + r.length) + tail.length := by
    rw [List.length_append, List.length_append, List.length_cons, hahl, hYl]; omega
  have hPl : P.length = j + (12 + r.length) + tail.length + z := by rw [hPe, List.length_append, hal, List.length_replicate]
  obtain ⟨K, hK⟩ : ∃ K, P.length = K * 256 := ⟨P.length / 256, by rw [hPl]; rw [hal] at hz; omega⟩
  have htl1 := htl.1
  have hroom : q * 256 + P.length ≤ n * 256 := by
    have h1 : T.pos + (12 + r.length) + tail.length ≤ n * 256 := by
      by_cases hr : T.pos + (12 + r.length) < T.size
      · rw [htl.2.1 hr]; simp only [List.length_cons, List.length_nil]; omega
      · rw [htl.2.2 hr]; simp only [List.length_nil]; omega
    rw [hPl]; rw [hal] at hz; omega
  have hqK : q + K ≤ n := by omega
  have hKpos : 0 < K := by omega
  have hpg : ∀ p ∈ pagesOf P K, p.length = 256 := by
    intro p hp
    unfold pagesOf at hp
    rw [List.mem_map] at hp
    obtain ⟨i, hi, rfl⟩ := hp
    rw [List.mem_range] at hi
    have := (page_of P K i hK hi).2
    rwa [Nat.mul_comm i 256] at this
  have hpl : (pagesOf P K).length = K := by unfold pagesOf; simp
  have hget : ∀ i, i < K → (pagesOf P K).getD i [] = (P.drop (i * 256)).take 256 := fun i hi => by
    rw [List.getD_eq_getElem?_getD, (page_of P K i hK hi).1]; rfl
  -- laid
  have hlay : layR D T T.pos (body T r) = wr D (T.lo + q) (pagesOf P K) := by
    unfold layR laid
    rw [if_neg (by simp [h.on]), ← hP, hK, Nat.mul_div_cancel _ (by decide), ← hq]
  obtain ⟨a1, a2, a3, a4⟩ := wr_live (pagesOf P K) D (T.lo + q) h hpg (by rw [hpl]; omega)
  rw [hpl] at a4
  rw [doIt_eq, hlay]
  generalize wr D (T.lo + q) (pagesOf P K) = X1 at *
  obtain ⟨e1, D1⟩ := X1
  simp only at a1 a2 a3 a4 ⊢
  subst a1
  obtain ⟨f1, f2, f3, f4⟩ := flush_live a2
  rw [if_neg (by simp)]
  generalize D1.Flush = X2 at *
  obtain ⟨e2, D2⟩ := X2
  simp only at f1 f2 f3 f4 ⊢
  subst f1
  rw [if_neg (by simp), ← hq]
  have hs2 : D2.safe.length = D.safe.length := by rw [f3, a3]
  have hmk : marked D2 T = (P.take 256).set j 1 := by
    unfold marked
    rw [← hq, ← hj, f4 _ (by rw [a3]; omega), a4, if_pos (by omega), Nat.sub_self, hget 0 hKpos]
    simp
  have hml : (marked D2 T).length = 256 := by rw [hmk, List.length_set, List.length_take]; omega
  obtain ⟨g1, g2, g3, g4⟩ := write_live f2 (a := T.lo + q) (by rw [hs2]; omega) hml
  generalize D2.write (T.lo + q : Nat) (marked D2 T) = X3 at *
  obtain ⟨e3, D3⟩ := X3
  simp only at g1 g2 g3 g4 ⊢
  subst g1
  rw [if_neg (by simp)]
  obtain ⟨k1, k2, k3, k4⟩ := flush_live g2
  generalize D3.Flush = X4 at *
  obtain ⟨e4, D4⟩ := X4
  simp only at k1 k2 k3 k4 ⊢
  subst k1
  rw [if_neg (by simp)]
  have hs4 : D4.safe.length = D.safe.length := by rw [k3, g3, hs2]
  refine ⟨rfl, rfl, k2, hs4, ?_⟩
  -- what each page reads
  have hlook : ∀ i, i < n → DS.look D4.safe D4.waits (T.lo + i) = if i = q then (P.take 256).set j 1 else if q ≤ i ∧ i < q + K then (P.drop ((i - q) * 256)).take 256 else DS.look D.safe D.waits (T.lo + i) := fun i hi => by
    rw [k4 _ (by rw [g3, hs2]; omega), g4]
    by_cases e : i = q
    · rw [if_pos e, if_pos (by omega), hmk]
    · rw [if_neg e, if_neg (by omega), f4 _ (by rw [a3]; omega), a4]
      by_cases e2 : q ≤ i ∧ i < q + K
      · rw [if_pos e2, if_pos (by omega), show T.lo + i - (T.lo + q) = i - q from by omega, hget _ (by omega)]
      · rw [if_neg e2, if_neg (by omega)]
  have hov := stretch_over (D := D) (D' := D4) (lo := T.lo) (n := n) (q := q) (K := K) h.ok k2.ok (by omega) (by rw [hs4]; omega) hqK (X := P.set j 1) (by rw [List.length_set]; exact hK)
    (fun i hi => by
      rw [hlook _ (by omega)]
      by_cases e : i = 0
      · subst e
        rw [if_pos (by omega), Nat.zero_mul, List.drop_zero, List.take_set]
      · rw [if_neg (by omega), if_pos (by omega), show q + i - q = i from by omega, List.drop_set_of_lt (by omega)])
    (fun i hi ho => by rw [hlook _ hi, if_neg (by omega), if_neg (by omega)])
  rw [← hS] at hov
  have hPs : P.set j 1 = ah ++ (1 :: Y ++ tail) ++ List.replicate z 0 := by
    rw [hPe, List.append_assoc, List.set_append_right _ _ (by omega), hahl, Nat.sub_self]
    simp
  have hcat : S.take (q * 256) ++ ah = S.take T.pos := by rw [hah, hpos, List.take_add]
  rw [← hn, ← hS, hov, hPs, ← hY]
  refine ⟨tail ++ List.replicate z 0 ++ S.drop ((q + K) * 256), ?_, ?_⟩
  · rw [← hcat]; simp
  · by_cases hr : T.pos + (12 + r.length) < T.size
    · rw [htl.2.1 hr]; exact .inr rfl
    · left
      have h0 := htl.2.2 hr
      rw [hal, h0] at hz
      rw [h0] at hPl
      rw [h0]
      simp only [List.length_nil, Nat.add_zero] at hPl hz
      have hz0 : z = 0 := by omega
      subst hz0
      rw [List.drop_of_length_le (by rw [hSl]; omega)]
      rfl
/-- Records one behind the other, as they are laid. -/
def encs : Nat → List (List UInt8) → List UInt8
  | _, [] => []
  | c, r :: rs => (1 :: (framed c r ++ r)) ++ encs (c + 1) rs
theorem encs_snoc : ∀ (rs : List (List UInt8)) (c : Nat) (r : List UInt8), encs c (rs ++ [r]) = encs c rs ++ (1 :: (framed (c + rs.length) r ++ r))
  | [], c, r => by simp [encs]
  | x :: rs, c, r => by
    rw [List.cons_append, encs, encs_snoc rs (c + 1) r, encs, List.append_assoc, List.length_cons, show c + 1 + rs.length = c + (rs.length + 1) from by omega]
theorem num_size3 {n : Nat} (hn : n < 16777216) : (Sum.num (size3 n)).toNat = n := by
  unfold size3
  simp only [Sum.num, Sum.nst, List.foldl_cons, List.foldl_nil, UInt8.toNat_ofNat']
  omega
theorem found_enc {A rest r : List UInt8} {c : Nat} (hr : r.length ≤ 65536) : found (A ++ (1 :: (framed c r ++ r)) ++ rest) A.length c = .yes r := by
  obtain ⟨S, hS⟩ : ∃ S, S = A ++ (1 :: (framed c r ++ r)) ++ rest := ⟨_, rfl⟩
  rw [← hS]
  have hl : S.length = A.length + 12 + r.length + rest.length := by
    rw [hS]; simp only [List.length_append, List.length_cons, framed_len]; omega
  have hd : S.drop (A.length + 1) = framed c r ++ (r ++ rest) := by
    rw [hS, List.append_assoc, ← List.drop_drop, List.drop_left]
    simp
  have h1 : S.getD A.length 0 = 1 := by
    rw [hS, List.append_assoc, List.getD_eq_getElem?_getD, List.getElem?_append_right (Nat.le_refl _), Nat.sub_self]
    rfl
  have h11 : (S.drop (A.length + 1)).take 11 = framed c r := by
    rw [hd]
    exact List.take_left' (framed_len c r)
  have h3 : (S.drop (A.length + 1)).take 3 = size3 r.length := by
    rw [hd, List.take_append_of_le_length (by rw [framed_len]; omega)]
    unfold framed
    exact List.take_left' (size3_len _)
  have hla : lenAt S A.length = r.length := by
    unfold lenAt
    rw [h3, num_size3 (by omega)]
  have h12 : (S.drop (A.length + 12)).take r.length = r := by
    have : S.drop (A.length + 12) = r ++ rest := by
      rw [show A.length + 12 = A.length + 1 + 11 from rfl, ← List.drop_drop, hd]
      exact List.drop_left' (framed_len c r)
    rw [this]
    exact List.take_left' rfl
  unfold found
  rw [if_neg (by omega), if_neg (by rw [h1]; decide), hla, if_pos ⟨h1, hr, by omega⟩, h12, h11, if_pos rfl]
theorem found_stop {A rest : List UInt8} {c : Nat} (h : Stop rest) : found (A ++ rest) A.length c = .no := by
  unfold found
  by_cases hl : (A ++ rest).length < A.length + 12
  · rw [if_pos hl]
  · rw [if_neg hl, if_pos]
    rcases h with rfl | h
    · rw [List.append_nil] at hl; omega
    · rw [List.getD_eq_getElem?_getD, List.getElem?_append_right (Nat.le_refl _), Nat.sub_self, ← List.head?_eq_getElem?, h]
      rfl
theorem opened_enc : ∀ (recs : List (List UInt8)) (A rest : List UInt8) (c fuel : Nat) (acc : List (List UInt8)), Stop rest → (∀ r ∈ recs, r.length ≤ 65536) → recs.length + 1 ≤ fuel →
    opened (A ++ encs c recs ++ rest) fuel A.length c acc = (0, acc ++ recs, (A ++ encs c recs).length, c + recs.length)
  | [], A, rest, c, fuel, acc, h, _, hf => by
    obtain ⟨k, rfl⟩ : ∃ k, fuel = k + 1 := ⟨fuel - 1, by simp only [List.length_nil] at hf; omega⟩
    simp only [encs, List.append_nil]
    rw [opened, found_stop h]
    rfl
  | r :: rs, A, rest, c, fuel, acc, h, hr, hf => by
    obtain ⟨k, rfl⟩ : ∃ k, fuel = k + 1 := ⟨fuel - 1, by rw [List.length_cons] at hf; omega⟩
    have e1 : A ++ encs c (r :: rs) ++ rest = A ++ (1 :: (framed c r ++ r)) ++ (encs (c + 1) rs ++ rest) := by rw [encs]; simp
    have e2 : A ++ encs c (r :: rs) ++ rest = (A ++ (1 :: (framed c r ++ r))) ++ encs (c + 1) rs ++ rest := by rw [encs]; simp
    have e3 : A.length + 12 + r.length = (A ++ (1 :: (framed c r ++ r))).length := by simp only [List.length_append, List.length_cons, framed_len]; omega
    rw [opened, e1, found_enc (hr r (by simp)), ← e1]
    simp only
    rw [e3, e2, opened_enc rs _ rest (c + 1) k (acc ++ [r]) h (fun x hx => hr x (by simp [hx])) (by rw [List.length_cons] at hf; omega)]
    rw [encs, List.length_cons]
    refine Prod.ext rfl (Prod.ext ?_ (Prod.ext ?_ ?_))
    · simp
    · simp only [List.append_assoc]
    · simp only; omega
end TS
end Go.Proofs.Ytoaeapnkefjpaaa
