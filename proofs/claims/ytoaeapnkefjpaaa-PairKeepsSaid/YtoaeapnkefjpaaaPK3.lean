/-
  Part 3 of what PairFull, PairTurns lean on: contracts of the functions that they reach, and plain lemmas. Conditions: those that each lemma names.
-/
import Derived.Deep.DeepMust
import Derived.Test.YtoaeapnkefjpaaaPK2
import Derived.Test.YtoaeapnkefjpaaaPK1
namespace Go.Proofs.Ytoaeapnkefjpaaa
open Go.RowKit
set_option linter.unusedVariables false
set_option linter.unusedSimpArgs false

theorem PS.snoc (D : DS) (lo j : Nat) : TS.stretch D lo (j + 1) = TS.stretch D lo j ++ DS.look D.safe D.waits (lo + j) := by
  unfold TS.stretch
  rw [List.range_succ, List.flatMap_append]
  simp
theorem PS.cut {D : DS} (h : D.Ok) {lo q : Nat} (hn : lo + q ≤ D.safe.length) {j : Nat} : ∀ (d : Nat), q = j + d → (TS.stretch D lo q).take (j * 256) = TS.stretch D lo j
  | 0, e => by
    have := TS.stretch_len h (lo := lo) (n := q) hn
    subst e
    rw [List.take_of_length_le (by rw [this]; simp)]
  | d + 1, e => by
    subst e
    have h1 := PS.cut h (lo := lo) (q := j + d) (j := j) (by omega) d rfl
    have hl := TS.stretch_len h (lo := lo) (n := j + d) (by omega)
    rw [show j + (d + 1) = (j + d) + 1 by omega, PS.snoc, List.take_append_of_le_length (by rw [hl]; omega), h1]
theorem own_pre {w : World} {base : Nat} {e : TypeId} {n g cap m : Nat} {xs : List Value} (h : w.ownsRow base e 1 (.slice (some ⟨g, 0, none⟩) n cap) n xs) (hm : m ≤ n) : w.ownsRow base e 1 (.slice (some ⟨g, 0, none⟩) m cap) m (xs.take m) := by
  obtain ⟨h1, h2⟩ := h
  refine ⟨by rw [List.length_take]; omega, ?_⟩
  rcases h2 with ⟨h0, _⟩ | ⟨g', cap', cur, hv, hb, hg, hnc, hcm, hcs, ht⟩
  · cases h0
  · simp only [Value.slice.injEq, Option.some.injEq, Addr.mk.injEq] at hv
    obtain ⟨⟨rfl, _⟩, _, rfl⟩ := hv
    refine .inr ⟨g, cap, cur, rfl, hb, hg, by omega, hcm, hcs, ?_⟩
    rw [← ht, List.take_take]
    congr 1
    omega
/-- A piece of a page row, from its twelfth byte on. -/
def Part (w : World) (base : Nat) (v : Value) (l : List UInt8) : Prop :=
  (l = [] ∧ ∃ ao cap, v = .slice ao 0 cap ∧ cap ≤ maxLen) ∨
  (0 < l.length ∧ ∃ g cap A, A.length = 12 ∧ v = .slice (some ⟨g, 12, none⟩) l.length (cap - 12) ∧ w.ownsRow base 5 1 (.slice (some ⟨g, 0, none⟩) (12 + l.length) cap) (12 + l.length) ((A ++ l).map B))
theorem Part.sees {w : World} {base : Nat} {v : Value} {l : List UInt8} (h : Part w base v l) : Sees w v l := by
  rcases h with ⟨rfl, ao, cap, rfl, hc⟩ | ⟨h0, g, cap, A, hA, rfl, ho⟩
  · exact ⟨ao, cap, rfl, Nat.zero_le _, hc, fun h => absurd h (by simp)⟩
  · obtain ⟨g', cap', hv, h1, h2, h3⟩ := own_slice ho (by omega)
    simp only [Value.slice.injEq, Option.some.injEq, Addr.mk.injEq] at hv
    obtain ⟨⟨rfl, -, -⟩, -, rfl⟩ := hv
    refine ⟨_, _, rfl, by omega, by omega, fun _ => ⟨g, 12, rfl, fun i c hi => ?_⟩⟩
    refine own_cell ho ?_
    rw [List.getElem?_map, List.getElem?_append_right (by omega), show 12 + i - A.length = i by omega, hi]
    rfl
theorem Part.below {w w' : World} {base : Nat} {v : Value} {l : List UInt8} (h : Part w base v l) (hb : Below w.heap.size w w') : Part w' base v l := by
  rcases h with h | ⟨h0, g, cap, A, hA, rfl, ho⟩
  · exact .inl h
  · exact .inr ⟨h0, g, cap, A, hA, rfl, own_below ho hb⟩
/-- What load answers, or gives up with. -/
def Loaded (w : World) (X : Int × List UInt8 × Nat) (e : Ending) (w' : World) : Prop :=
  (X.1 ≠ 0 ∧ e = .panicked (gaveUp5 X.1) ∧ Below w.heap.size w w') ∨ (X.1 = 0 ∧ ∃ v, e = .returned (.tuple #[v, I X.2.2]) ∧ Part w' w.heap.size v X.2.1 ∧ Below w.heap.size w w')
theorem Part.of_own {w : World} {base g m cap : Nat} {L : List UInt8} (h : w.ownsRow base 5 1 (.slice (some ⟨g, 0, none⟩) (m * 256) cap) (m * 256) (L.map B)) {n : Nat} (hn : 12 + n ≤ m * 256) (hm : 0 < m) :
    Part w base (sl (some ⟨g, 0, none⟩) cap 12 (12 + n)) ((L.drop 12).take n) := by
  have hL : L.length = m * 256 := by have := h.1; simpa using this
  have hl : ((L.drop 12).take n).length = n := by rw [List.length_take, List.length_drop, hL]; omega
  obtain ⟨g', cap', hv, h1, h2, h3⟩ := own_slice h (by omega)
  simp only [Value.slice.injEq, Option.some.injEq, Addr.mk.injEq] at hv
  obtain ⟨⟨rfl, -, -⟩, -, rfl⟩ := hv
  by_cases h0 : n = 0
  · subst h0
    refine .inl ⟨by simp, ?_⟩
    unfold sl
    split
    · exact ⟨_, _, rfl, by unfold maxLen; omega⟩
    · exact ⟨_, _, rfl, by omega⟩
  · refine .inr ⟨by omega, g, cap, L.take 12, by rw [List.length_take]; omega, ?_, ?_⟩
    · rw [hl]
      unfold sl
      rw [if_neg (by omega), show 12 + n - 12 = n by omega]
      rfl
    · rw [hl]
      have e : L.take 12 ++ (L.drop 12).take n = L.take (12 + n) := by rw [List.take_add]
      rw [e]
      rw [List.map_take]
      exact own_pre h (by omega)
theorem pread_off {w : World} {p : Nat} {own : Nat → Prop} {D : DS} {a : Nat} (hd : DrumAt w p own D) (ha : a < D.safe.length) (ho : D.off = true) :
    Calls Try.prog 79 #[.pointer (some ⟨p, 0, none⟩), I a] w fun e w' => e = .panicked (gaveUp5 20) ∧ Below w.heap.size w w' := by
  refine (pread_any w p own D a hd ha).mono fun e w' h => ?_
  rcases h with h | h
  · exact h.2
  · rw [ho] at h; cases h.1
theorem pread_on {w : World} {p : Nat} {own : Nat → Prop} {D : DS} {a : Nat} (hd : DrumAt w p own D) (ha : a < D.safe.length) (ho : D.off = false) :
    Calls Try.prog 79 #[.pointer (some ⟨p, 0, none⟩), I a] w (Fresh w (DS.look D.safe D.waits a)) := by
  refine (pread_any w p own D a hd ha).mono fun e w' h => ?_
  rcases h with h | h
  · rw [ho] at h; cases h.1
  · exact h.2
set_option maxRecDepth 100000 in
theorem load_off (w : World) (p : Nat) (own : Nat → Prop) (D : DS) (h : Nat) (hh : h ≤ 1) (hd : DrumAt w p own D) (h5 : 5 ≤ D.safe.length) (ho : D.off = true) :
    Calls Try.prog 81 #[.pointer (some ⟨p, 0, none⟩), I h] w fun e w' => e = .panicked (gaveUp5 20) ∧ Below w.heap.size w w' := by
  have h1 := pfirst_any w p own D hd (by omega) h hh
  have hq : h * PS.hp D.safe.length ≤ PS.hp D.safe.length := by
    have := Nat.mul_le_mul_right (PS.hp D.safe.length) hh
    omega
  have h2 := pread_off hd (a := 1 + h * PS.hp D.safe.length) (by unfold PS.hp at *; omega) ho
  have H1 := hid h1
  have H2 := hid h2
  clear h1 h2 hq ho hd
  generalize 1 + h * PS.hp D.safe.length = a at *
  go_enter Try.func81, Try.ntmps81
  go_wp2_with (first | (go_at_call 82; refine H1.out.mono ?_; rintro e w1 ⟨rfl, rfl⟩) | (go_at_call 79; refine H2.out.mono ?_; rintro e w1 ⟨rfl, hb⟩; have HB := hid hb; clear hb))
  exact ⟨rfl, rfl, HB.out⟩
set_option maxRecDepth 100000 in
set_option maxHeartbeats 1600000 in
theorem load_on (w : World) (p : Nat) (own : Nat → Prop) (D : DS) (h : Nat) (hh : h ≤ 1) (hd : DrumAt w p own D) (h5 : 5 ≤ D.safe.length) (ho : D.off = false) :
    Calls Try.prog 81 #[.pointer (some ⟨p, 0, none⟩), I h] w (Loaded w (PS.load (PS.halfOf D h) (PS.hp D.safe.length))) := by
  have hn := hd.ok.n2
  have h1 := pfirst_any w p own D hd (by omega) h hh
  have hpg := fun w' (hb : Below w.heap.size w w') => ppages_any w' p own D (hd.below hb) (by omega)
  have hq : h * PS.hp D.safe.length ≤ PS.hp D.safe.length := by
    have := Nat.mul_le_mul_right (PS.hp D.safe.length) hh
    omega
  have hq2 : 2 ≤ PS.hp D.safe.length ∧ 2 * PS.hp D.safe.length + 1 ≤ D.safe.length := by unfold PS.hp; omega
  have hrd := fun w' (hb : Below w.heap.size w w') (a : Nat) (ha : a < D.safe.length) => pread_on (hd.below hb) ha ho
  have hok := hd.ok
  unfold PS.halfOf
  generalize PS.hp D.safe.length = q at *
  obtain ⟨a0, ha0⟩ : ∃ a0, a0 = 1 + h * q := ⟨_, rfl⟩
  have haq : a0 + q ≤ D.safe.length ∧ a0 ≤ 5000 := by rw [ha0]; omega
  rw [← ha0] at h1 ⊢
  obtain ⟨S, hS⟩ : ∃ S, S = TS.stretch D a0 q := ⟨_, rfl⟩
  rw [← hS]
  have hSl : S.length = q * 256 := by rw [hS]; exact TS.stretch_len hok haq.1
  have hcut : ∀ j, j ≤ q → S.take (j * 256) = TS.stretch D a0 j := fun j hj => by rw [hS]; exact PS.cut hok haq.1 (q - j) (by omega)
  have hsn := PS.snoc D a0
  have hll : ∀ j, j < q → (DS.look D.safe D.waits (a0 + j)).length = 256 := fun j hj => DS.look_len hok.page hok.wait (by omega)
  have hr0 := hrd w (Below.refl _ _) a0 (by omega)
  have h10 : TS.stretch D a0 1 = DS.look D.safe D.waits a0 := by rw [PS.snoc]; rfl
  rw [← h10] at hr0
  have hl1 : (TS.stretch D a0 1).length = 256 := by rw [h10]; exact hll 0 (by omega)
  obtain ⟨P0, hP0⟩ : ∃ P0, P0 = TS.stretch D a0 1 := ⟨_, rfl⟩
  rw [← hP0] at hr0 hl1
  have HP0 := hid hP0
  obtain ⟨X, hX⟩ : ∃ X, X = PS.load S q := ⟨_, rfl⟩
  rw [← hX]
  have H1 := hid h1
  have HR0 := hid hr0
  have HPG := hid hpg
  have HRD := hid hrd
  have HSL := hid hSl
  have HCUT := hid hcut
  have HSN := hid hsn
  have HLL := hid hll
  have HL1 := hid hl1
  have HX := hid hX
  have HOK := hid hok
  have hH := hid ha0
  clear h1 hr0 hpg hrd hSl hcut hsn hll hl1 hX hd hok h10 hq hh ha0 hS ho hP0
  go_enter Try.func81, Try.ntmps81
  go_wp2_with (first | (go_at_call 82; refine H1.out.mono ?_; rintro e w1 ⟨rfl, rfl⟩) | (go_at_call 79; refine HR0.out.mono ?_; rintro e w1 ⟨v, rfl, ho1, hb1⟩; rw [HL1.out] at ho1; obtain ⟨g, cap, rfl, g1, g2, g3⟩ := own_slice ho1 (by omega); have HO1 := hid ho1; have HB1 := hid hb1; clear ho1 hb1))
  have e256 : P0 = S.take 256 := by have := HCUT.out 1 (by omega); rw [HP0.out, ← this]
  have e12 : P0.take 12 = S.take 12 := by rw [e256, List.take_take]; rfl
  have e4 : P0.take 4 = S.take 4 := by rw [e256, List.take_take]; rfl
  have hs := own_sees' HO1.out HL1.out
  have hs12 := hs.take 12 (by rw [HL1.out]; omega)
  have hs4 := hs.take 4 (by rw [HL1.out]; omega)
  rw [e12] at hs12
  rw [e4] at hs4
  have hl12 : (S.take 12).length = 12 := by rw [List.length_take, HSL.out]; omega
  have hl4 : (S.take 4).length = 4 := by rw [List.length_take, HSL.out]; omega
  have hc103 := pcontains_any w1 _ (S.take 12) hs12 (by rw [hl12]; omega)
  rw [hl12] at hc103
  have hnum := pnumber_any w1 _ (S.take 4) hs4 (by rw [hl4]; omega)
  have hn4 : Sum.num (S.take 4) = ((PS.num4 S : Nat) : Int) := by
    unfold PS.num4
    have := (Sum.num_range (S.take 4)).1
    omega
  rw [hn4] at hnum
  have hnlt := PS.num4_lt S
  have HS := hid hs
  have HN4 := hid hnum
  unfold PS.load at HX
  generalize PS.num4 S = N0 at *
  refine hc103.mono ?_
  rintro e w2 ⟨rfl, rfl⟩
  clear hc103 hs12 hs4 hl12 hl4 e12 e4 e256 hs hn4 hnum
  by_cases hz : S.take 12 = List.replicate 12 0
  · have hb : decide (S.take 12 ≠ List.replicate 12 0) = false := by simp [hz]
    rw [hb]
    have HZ := hid hz
    clear hz hb
    go_wp2
    go_ret2
    refine .inr ⟨by rw [HX.out, if_pos HZ.out], .slice none 0 0, by rw [HX.out, if_pos HZ.out]; rfl, .inl ⟨by rw [HX.out, if_pos HZ.out], none, 0, rfl, by decide⟩, HB1.out⟩
  have hb : decide (S.take 12 ≠ List.replicate 12 0) = true := decide_eq_true hz
  rw [hb]
  have HX1 : Hid (X = if q ≤ PS.takes N0 then (11, [], 0) else if PS.framed ((S.drop 12).take N0) = S.take (12 + N0) then (0, (S.drop 12).take N0, PS.takes N0) else (12, [], 0)) := hid (by rw [HX.out, if_neg hz])
  clear HX hz hb
  obtain ⟨K, hK⟩ : ∃ K, K = PS.takes N0 := ⟨_, rfl⟩
  rw [← hK] at HX1
  have hKb : 256 * K ≤ N0 + 267 ∧ N0 + 12 ≤ 256 * K := by rw [hK]; unfold PS.takes; omega
  have HTK : Hid (∀ w, Calls Try.prog 87 #[I N0] w fun e w' => e = .returned (I K) ∧ w = w') := hid (fun w => by rw [hK]; exact takes_any w N0 (by omega))
  clear hK
  by_cases hge : q ≤ K
  · have HGE : Hid (X = (11, [], 0)) := hid (by rw [HX1.out, if_pos hge])
    have hge2 : (q : Int) ≤ (K : Int) := by omega
    have hge3 : decide ((K : Int) ≥ (q : Int)) = true := decide_eq_true hge2
    go_wp2_with (first | (go_at_call 105; refine HN4.out.mono ?_; rintro e w2 ⟨rfl, rfl⟩) | (go_at_call 87; refine (HTK.out _).mono ?_; rintro e w3 ⟨rfl, rfl⟩) | (go_at_call 83; refine (HPG.out _ HB1.out).mono ?_; rintro e w4 ⟨rfl, rfl⟩) | (go_at_call 80; refine (fail_no 11 rfl _).mono ?_; rintro e w5 ⟨rfl, rfl⟩))
    exact ⟨rfl, .inl ⟨by rw [HGE.out]; decide, by rw [HGE.out], HB1.out⟩⟩
  have HGE : Hid (X = if PS.framed ((S.drop 12).take N0) = S.take (12 + N0) then (0, (S.drop 12).take N0, K) else (12, [], 0)) := hid (by rw [HX1.out, if_neg hge])
  have hge2 : ¬ (q : Int) ≤ (K : Int) := by omega
  clear HX1
  have HOA : Hid (w1.ownsRow w.heap.size 5 1 (.slice (some ⟨g, 0, none⟩) 256 cap) (1 * 256) ((TS.stretch D a0 1).map B)) := hid (by rw [← HP0.out]; exact HO1.out)
  go_wp2_with (first | (go_at_call 105; refine HN4.out.mono ?_; rintro e w2 ⟨rfl, rfl⟩) | (go_at_call 87; refine (HTK.out _).mono ?_; rintro e w3 ⟨rfl, rfl⟩) | (go_at_call 83; refine (HPG.out _ HB1.out).mono ?_; rintro e w4 ⟨rfl, rfl⟩))
  go_loopw [7, 9] (fun v i wr => ∃ j : Nat, 1 ≤ j ∧ j ≤ K ∧ i = I j ∧ Hid (wr.ownsRow w.heap.size 5 1 v (j * 256) ((TS.stretch D a0 j).map B)) ∧ Hid (Below w.heap.size w wr)) (fun _ i _ => K - (intOf i).toNat)
  case atStart => exact ⟨1, by omega, by omega, rfl, HOA, HB1⟩
  case round =>
    obtain ⟨j, hj1, hj, rfl, HO, HB⟩ := hrel
    clear HS HO1 HOA HN4 HR0 H1
    obtain ⟨ao, co, rfl⟩ := own_form HO.out
    by_cases hlt : j < K
    · have f1 : decide ((j : Int) < (K : Int)) = true := decide_eq_true (by omega)
      have hlk := HRD.out wr HB.out (a0 + j) (by omega)
      have hll := HLL.out j (by omega)
      have hsn := HSN.out j
      have HSN' := hid hsn
      generalize DS.look D.safe D.waits (a0 + j) = pg at *
      have haj : ((a0 + j : Nat) : Int) = (a0 : Int) + (j : Int) := by omega
      rw [haj] at hlk
      have HLK := hid hlk
      have HLL' := hid hll
      have HAJ := hid haj
      clear hlk hll hsn haj HSN HLL
      go_wp2_with (first | (go_at_call 87; refine (HTK.out _).mono ?_; rintro e w3 ⟨rfl, rfl⟩) | (go_at_call 79; refine HLK.out.mono ?_; rintro e w4 ⟨v4, rfl, ho4, hb4⟩; have HO4 := hid ho4; have HB4 := hid hb4; have hsz4 := hb4.size; have hsz5 := HB.out.size; have HOo := hid (own_below HO.out hb4); have hbs : w.heap.size ≤ w4.heap.size := Nat.le_trans hsz5 hsz4; clear ho4 hb4) | (at_builtin; go_must (refine wpList_app rfl (.tmp 35) (.tmp 40) 23 rfl w.heap.size 5 (.int .u8 0) 1 1 Try.underlying23 info5 rfl (by decide) (j * 256) ((TS.stretch D a0 j).map B) 256 (pg.map B) HOo.out ?src ?h63 ?hb hbs ?_)))
      case src => have := (own_sees HO4.out).src; rw [HLL'.out] at this; exact this
      case h63 => unfold maxLen; omega
      case hb => omega
      intro v' w8 hown hgrow hat
      replace hown : w8.ownsRow w.heap.size 5 1 v' ((j + 1) * 256) ((TS.stretch D a0 (j + 1)).map B) := own_len hown (by omega) (by rw [HSN'.out, List.map_append])
      have HO8 := hid hown
      have HB8 := hid ((HB.out.trans (HB4.out.mono HB.out.size)).grown hgrow hbs (fun i hi => (own_lt HO.out i hi).1))
      obtain ⟨av', cv', rfl⟩ := own_form hown
      clear hown hgrow hat
      go_wp2
      go_roundw
      case rel => exact ⟨j + 1, by omega, by omega, by go_num, HO8, HB8⟩
      case measure => simp [intOf]; omega
    · have f1 : decide ((j : Int) < (K : Int)) = false := decide_eq_false (by omega)
      obtain rfl : j = K := by omega
      have hj0 : 0 < j * 256 := by omega
      obtain ⟨g2, cap2, hv, c1, c2, c3⟩ := own_slice HO.out hj0
      simp only [Value.slice.injEq] at hv
      obtain ⟨rfl, -, rfl⟩ := hv
      have hL := HCUT.out j (by omega)
      have hLl : (TS.stretch D a0 j).length = j * 256 := by rw [← hL, List.length_take, HSL.out]; omega
      have hpart := Part.of_own HO.out (n := N0) (by omega) (by omega)
      have hsl : sl (some ⟨g2, 0, none⟩) co 12 (12 + N0) = .slice (some ⟨g2, 12, none⟩) N0 (co - 12) := by unfold sl; rw [if_neg (by omega), show 12 + N0 - 12 = N0 by omega]; rfl
      have hb : ((TS.stretch D a0 j).drop 12).take N0 = (S.drop 12).take N0 := by
        rw [← hL, List.drop_take, List.take_take]; congr 1; omega
      have hall := (own_sees' HO.out hLl).take (12 + N0) (by rw [hLl]; omega)
      have hta : (TS.stretch D a0 j).take (12 + N0) = S.take (12 + N0) := by rw [← hL, List.take_take]; congr 1; omega
      rw [hta] at hall
      rw [hsl, hb] at hpart
      obtain ⟨Y, hY⟩ : ∃ Y, Y = S.take (12 + N0) := ⟨_, rfl⟩
      obtain ⟨b, hbb⟩ : ∃ b, b = (S.drop 12).take N0 := ⟨_, rfl⟩
      have hbl : b.length = N0 := by rw [hbb, List.length_take, List.length_drop, HSL.out]; omega
      rw [← hY] at hall HGE
      rw [← hbb] at hpart HGE
      have HPA := hid hpart
      have HAL := hid hall
      have HBL := hid hbl
      have hw12 : IntKind.i64.wrap (12 + (N0 : Int)) = ((12 + N0 : Nat) : Int) := by rw [IntWalk.i64_in _ (by omega)]; omega
      obtain ⟨M, hM⟩ : ∃ M, M = 12 + N0 := ⟨_, rfl⟩
      rw [← hM] at hw12 HAL
      have hM2 : M ≤ j * 256 ∧ 12 ≤ M ∧ M - 12 = N0 := by omega
      have HM := hid hM
      clear hpart hall hb hta hsl hL hLl HO hY hbb hM hj0
      have hc12 : ¬ co = 12 := by omega
      have m1 : 12 ≤ M := hM2.2.1
      have m1i : (12 : Int) ≤ (M : Int) := by omega
      have m2 : M - 12 = N0 := hM2.2.2
      have m3 : M ≤ co := Nat.le_trans hM2.1 c1
      have k51 : ∀ w', Ext wr.drew w' → (convert 23 9 (.slice (some ⟨g2, 0, none⟩) M co)).run Try.prog w' = .ok (.string (str Y)) w' := fun w' hh => run_str Try.underlying23 Try.underlying5 Try.underlying9 (HAL.out.below (Ext.trans _ _ _ (Ext.drew wr) hh))
      obtain ⟨F, hF⟩ : ∃ F, F = PS.framed b := ⟨_, rfl⟩
      rw [← hF] at HGE
      have HFF := hid hF
      have hse := str_eq F Y
      have hN1 : N0 ≤ 1073741824 := by omega
      have HN1 := hid hN1
      go_wp2_with (first | (go_at_call 87; refine (HTK.out _).mono ?_; rintro e w3 ⟨rfl, rfl⟩))
      by_cases hfy : F = Y
      · have hb : decide (F = Y) = true := decide_eq_true hfy
        have HXF : Hid (X = (0, b, j)) := hid (by rw [HGE.out, if_pos hfy])
        clear hfy hF HGE
        refine wp_region_order Ext [] [(0,0),(1,0),(4,0),(5,0),(2,1),(3,0),(6,0)] _ (by kernel_rfl) rfl Ext.refl Ext.trans (by kernel_rfl) (by simp only [pick, List.getElem?_toArray, List.getElem?_cons_zero, List.getElem?_cons_succ]; rfl) (fun c a d v w h => by cases d <;> exact h) ?_
        refine wpK_q (v := ?_) (a' := ?_) (by rfl) (fun w' hR => ?_) ?_ ?_
        rotate_left 2
        · go_simp; with_reducible rfl
        · simp only [Act.put, List.setIfInBounds_toArray, List.set_cons_zero, List.set_cons_succ]; rfl
        refine wpK_q (v := ?_) (a' := ?_) (by rfl) (fun w' hR => ?_) ?_ ?_
        rotate_left 2
        · go_simp; with_reducible rfl
        · simp only [Act.put, List.setIfInBounds_toArray, List.set_cons_zero, List.set_cons_succ]; rfl
        refine wpK_q (v := ?_) (a' := ?_) (by rfl) (fun w' hR => ?_) ?_ ?_
        rotate_left 2
        · go_simp; with_reducible rfl
        · simp only [Act.put, List.setIfInBounds_toArray, List.set_cons_zero, List.set_cons_succ]; rfl
        refine wpK_q (v := ?_) (a' := ?_) (by rfl) (fun w' hR => ?_) ?_ ?_
        rotate_left 2
        · go_simp; with_reducible rfl
        · simp only [Act.put, List.setIfInBounds_toArray, List.set_cons_zero, List.set_cons_succ]; rfl
        refine wpK_call Try.func89 (by kernel_rfl) rfl rfl (by rfl) #[.slice (some ⟨g2, 12, none⟩) N0 (co - 12)] (by simp only [List.map_toArray, List.map_cons, List.map_nil]; rfl) ?_
        refine (pframed_any _ _ b (by exact HPA.out.sees.drew) (by rw [HBL.out]; exact HN1.out)).mono ?_
        rintro e w11 ⟨v11, rfl, ho11, hb11⟩
        rw [← HFF.out] at ho11
        refine ⟨_, rfl, fun _ => hb11, ?_⟩
        obtain ⟨ao11, co11, rfl⟩ := own_form ho11
        have S11 := hid (own_sees ho11)
        have k6 : ∀ w', Ext w11 w' → (convert 23 9 (.slice ao11 F.length co11)).run Try.prog w' = .ok (.string (str F)) w' := fun w' hh => run_str Try.underlying23 Try.underlying5 Try.underlying9 (S11.out.below hh)
        have HB11 := hid hb11
        clear ho11 hb11
        refine wpK_q (v := ?_) (a' := ?_) (by rfl) (fun w' hR => ?_) ?_ ?_
        rotate_left 2
        · go_simp; with_reducible rfl
        · simp only [Act.put, List.setIfInBounds_toArray, List.set_cons_zero, List.set_cons_succ]; rfl
        refine wpK_q (v := ?_) (a' := ?_) (by rfl) (fun w' hR => ?_) ?_ ?_
        rotate_left 2
        · go_simp; with_reducible rfl
        · simp only [Act.put, List.setIfInBounds_toArray, List.set_cons_zero, List.set_cons_succ]; rfl
        refine wpK_done ?_
        clear k6 k51
        have HPA2 := hid (HPA.out.below (Ext.trans _ _ _ (Ext.drew wr) HB11.out))
        go_wp2
        refine wp_region_order Ext [] [(0,0),(1,0),(2,0),(3,1),(4,0),(5,0)] _ (by kernel_rfl) rfl Ext.refl Ext.trans (by kernel_rfl) (by simp only [pick, List.getElem?_toArray, List.getElem?_cons_zero, List.getElem?_cons_succ]; rfl) (fun c a d v w h => by cases d <;> exact h) ?_
        refine wpK_q (v := ?_) (a' := ?_) (by rfl) (fun w' hR => ?_) ?_ ?_
        rotate_left 2
        · go_simp; with_reducible rfl
        · simp only [Act.put, List.setIfInBounds_toArray, List.set_cons_zero, List.set_cons_succ]; rfl
        refine wpK_q (v := ?_) (a' := ?_) (by rfl) (fun w' hR => ?_) ?_ ?_
        rotate_left 2
        · go_simp; with_reducible rfl
        · simp only [Act.put, List.setIfInBounds_toArray, List.set_cons_zero, List.set_cons_succ]; rfl
        refine wpK_q (v := ?_) (a' := ?_) (by rfl) (fun w' hR => ?_) ?_ ?_
        rotate_left 2
        · go_simp; with_reducible rfl
        · simp only [Act.put, List.setIfInBounds_toArray, List.set_cons_zero, List.set_cons_succ]; rfl
        refine wpK_call Try.func87 (by kernel_rfl) rfl rfl (by rfl) #[I N0] (by simp only [List.map_toArray, List.map_cons, List.map_nil]; rfl) ?_
        refine (HTK.out _).mono ?_
        rintro e w12 ⟨rfl, rfl⟩
        refine ⟨_, rfl, fun _ => Ext.refl _, ?_⟩
        refine wpK_q (v := ?_) (a' := ?_) (by rfl) (fun w' hR => ?_) ?_ ?_
        rotate_left 2
        · go_simp; with_reducible rfl
        · simp only [Act.put, List.setIfInBounds_toArray, List.set_cons_zero, List.set_cons_succ]; rfl
        refine wpK_q (v := ?_) (a' := ?_) (by rfl) (fun w' hR => ?_) ?_ ?_
        rotate_left 2
        · go_simp; with_reducible rfl
        · simp only [Act.put, List.setIfInBounds_toArray, List.set_cons_zero, List.set_cons_succ]; rfl
        refine wpK_done ?_
        go_wp2
        go_ret2
        have hbb : Below w.heap.size w w11 := HB.out.trans ((Ext.trans _ _ _ (Ext.drew wr) HB11.out).mono HB.out.size)
        refine .inr ⟨by rw [HXF.out], .slice (some ⟨g2, 12, none⟩) N0 (co - 12), by rw [HXF.out]; rfl, ?_, hbb.trans ((Ext.drew w11).mono hbb.size)⟩
        rw [HXF.out]
        have hp := HPA2.out
        rw [← HBL.out] at hp ⊢
        exact hp.below (Ext.drew w11)
      · have hb : decide (F = Y) = false := decide_eq_false hfy
        have HXF : Hid (X = (12, [], 0)) := hid (by rw [HGE.out, if_neg hfy])
        clear hfy hF HGE
        refine wp_region_order Ext [] [(0,0),(1,0),(4,0),(5,0),(2,1),(3,0),(6,0)] _ (by kernel_rfl) rfl Ext.refl Ext.trans (by kernel_rfl) (by simp only [pick, List.getElem?_toArray, List.getElem?_cons_zero, List.getElem?_cons_succ]; rfl) (fun c a d v w h => by cases d <;> exact h) ?_
        refine wpK_q (v := ?_) (a' := ?_) (by rfl) (fun w' hR => ?_) ?_ ?_
        rotate_left 2
        · go_simp; with_reducible rfl
        · simp only [Act.put, List.setIfInBounds_toArray, List.set_cons_zero, List.set_cons_succ]; rfl
        refine wpK_q (v := ?_) (a' := ?_) (by rfl) (fun w' hR => ?_) ?_ ?_
        rotate_left 2
        · go_simp; with_reducible rfl
        · simp only [Act.put, List.setIfInBounds_toArray, List.set_cons_zero, List.set_cons_succ]; rfl
        refine wpK_q (v := ?_) (a' := ?_) (by rfl) (fun w' hR => ?_) ?_ ?_
        rotate_left 2
        · go_simp; with_reducible rfl
        · simp only [Act.put, List.setIfInBounds_toArray, List.set_cons_zero, List.set_cons_succ]; rfl
        refine wpK_q (v := ?_) (a' := ?_) (by rfl) (fun w' hR => ?_) ?_ ?_
        rotate_left 2
        · go_simp; with_reducible rfl
        · simp only [Act.put, List.setIfInBounds_toArray, List.set_cons_zero, List.set_cons_succ]; rfl
        refine wpK_call Try.func89 (by kernel_rfl) rfl rfl (by rfl) #[.slice (some ⟨g2, 12, none⟩) N0 (co - 12)] (by simp only [List.map_toArray, List.map_cons, List.map_nil]; rfl) ?_
        refine (pframed_any _ _ b (by exact HPA.out.sees.drew) (by rw [HBL.out]; exact HN1.out)).mono ?_
        rintro e w11 ⟨v11, rfl, ho11, hb11⟩
        rw [← HFF.out] at ho11
        refine ⟨_, rfl, fun _ => hb11, ?_⟩
        obtain ⟨ao11, co11, rfl⟩ := own_form ho11
        have S11 := hid (own_sees ho11)
        have k6 : ∀ w', Ext w11 w' → (convert 23 9 (.slice ao11 F.length co11)).run Try.prog w' = .ok (.string (str F)) w' := fun w' hh => run_str Try.underlying23 Try.underlying5 Try.underlying9 (S11.out.below hh)
        have HB11 := hid hb11
        clear ho11 hb11
        refine wpK_q (v := ?_) (a' := ?_) (by rfl) (fun w' hR => ?_) ?_ ?_
        rotate_left 2
        · go_simp; with_reducible rfl
        · simp only [Act.put, List.setIfInBounds_toArray, List.set_cons_zero, List.set_cons_succ]; rfl
        refine wpK_q (v := ?_) (a' := ?_) (by rfl) (fun w' hR => ?_) ?_ ?_
        rotate_left 2
        · go_simp; with_reducible rfl
        · simp only [Act.put, List.setIfInBounds_toArray, List.set_cons_zero, List.set_cons_succ]; rfl
        refine wpK_done ?_
        clear k6 k51
        go_wp2_with (first | (go_at_call 80; refine (fail_no 12 rfl _).mono ?_; rintro e w5 ⟨rfl, rfl⟩))
        have hbb : Below w.heap.size w w11 := HB.out.trans ((Ext.trans _ _ _ (Ext.drew wr) HB11.out).mono HB.out.size)
        exact ⟨rfl, .inl ⟨by rw [HXF.out]; decide, by rw [HXF.out], hbb⟩⟩
end Go.Proofs.Ytoaeapnkefjpaaa

namespace Go.Proofs.Ytoaeapnkefjpaaa
open Go.RowKit
set_option linter.unusedVariables false
set_option linter.unusedSimpArgs false

/-- Load, whether the power is on or not. -/
theorem load_any (w : World) (p : Nat) (own : Nat → Prop) (D : DS) (h : Nat) (hh : h ≤ 1) (hd : DrumAt w p own D) (h5 : 5 ≤ D.safe.length) (ho : D.off = false) :
    Calls Try.prog 81 #[.pointer (some ⟨p, 0, none⟩), I h] w (Loaded w (PS.load (PS.halfOf D h) (PS.hp D.safe.length))) := load_on w p own D h hh hd h5 ho
theorem PS.load_ok {S : List UInt8} {q : Nat} (hq : 2 ≤ q) : (PS.load S q).1 = 0 → 1 ≤ (PS.load S q).2.2 ∧ (PS.load S q).2.2 < q := by
  unfold PS.load
  split
  · intro _; exact ⟨Nat.le_refl _, by simp only; omega⟩
  · split
    · intro h; simp at h
    · split
      · intro _
        constructor
        · show 1 ≤ PS.takes _; unfold PS.takes; omega
        · show PS.takes _ < q; omega
      · intro h; simp at h
theorem PS.load_bd {S : List UInt8} {q : Nat} : (PS.load S q).1 = 0 ∨ (PS.load S q).1 = 11 ∨ (PS.load S q).1 = 12 := by
  unfold PS.load
  split
  · exact .inl rfl
  · split
    · exact .inr (.inl rfl)
    · split
      · exact .inl rfl
      · exact .inr (.inr rfl)
/-- Where Open's own blocks are: the drum's, the pair, the pair's place, the snapshot's, the records'. -/
structure PBorn (w0 : World) (p : Nat) (half : Int) (tv vb vl : Value) (W : World) : Prop where
  g0 : W.heap[w0.heap.size]? = some (.cells #[.pointer (some ⟨p, 0, none⟩)] 40 (0, 0))
  g1 : W.heap[w0.heap.size + 1]? = some (.cells #[.pointer (some ⟨p, 0, none⟩), tv, I half, I 0] 114 (0, 0))
  g2 : W.heap[w0.heap.size + 2]? = some (.cells #[.pointer (some ⟨w0.heap.size + 1, 0, none⟩)] 44 (0, 0))
  g3 : W.heap[w0.heap.size + 3]? = some (.cells #[vb] 23 (0, 0))
  g4 : W.heap[w0.heap.size + 4]? = some (.cells #[vl] 45 (0, 0))
  below : Below w0.heap.size w0 W
section
variable {w0 : World} {p : Nat} {half : Int} {tv vb vl : Value} {W W' : World}
theorem PBorn.lt (h : PBorn w0 p half tv vb vl W) : w0.heap.size + 5 ≤ W.heap.size := (Array.getElem?_eq_some_iff.1 h.g4).1
theorem PBorn.on (h : PBorn w0 p half tv vb vl W) (hb : Below W.heap.size W W') : PBorn w0 p half tv vb vl W' := by
  have hl := h.lt
  exact ⟨(hb.block _ (by omega)).trans h.g0, (hb.block _ (by omega)).trans h.g1, (hb.block _ (by omega)).trans h.g2, (hb.block _ (by omega)).trans h.g3, (hb.block _ (by omega)).trans h.g4, h.below.trans (hb.mono h.below.size)⟩
theorem PBorn.set1 {W' : World} (h : PBorn w0 p half tv vb vl W) (half' : Int) (tv' vb' vl' : Value) (hm : Mod (fun k => w0.heap.size + 1 ≤ k ∧ k ≤ w0.heap.size + 4) W W')
    (g1 : W'.heap[w0.heap.size + 1]? = some (.cells #[.pointer (some ⟨p, 0, none⟩), tv', I half', I 0] 114 (0, 0)))
    (g2 : W'.heap[w0.heap.size + 2]? = W.heap[w0.heap.size + 2]?)
    (g3 : W'.heap[w0.heap.size + 3]? = some (.cells #[vb'] 23 (0, 0)))
    (g4 : W'.heap[w0.heap.size + 4]? = some (.cells #[vl'] 45 (0, 0))) : PBorn w0 p half' tv' vb' vl' W' := by
  have hl := h.lt
  exact ⟨(hm.block _ (by omega) (by omega)).trans h.g0, g1, g2.trans h.g2, g3, g4, h.below.trans (hm.below h.below.size (fun i hi ho => by omega))⟩
theorem PBorn.half' (h : PBorn w0 p half tv vb vl W) (x : Int) : PBorn w0 p x tv vb vl (W.setCell ⟨w0.heap.size + 1, 2, none⟩ (I x)) :=
  h.set1 x tv vb vl (Mod.set ⟨by simp, by simp⟩) (heap_setCell_same W _ 2 _ _ _ h.g1) (heap_setCell_other W ⟨w0.heap.size + 1, 2, none⟩ _ _ (by simp)) ((heap_setCell_other W ⟨w0.heap.size + 1, 2, none⟩ _ _ (by simp)).trans h.g3) ((heap_setCell_other W ⟨w0.heap.size + 1, 2, none⟩ _ _ (by simp)).trans h.g4)
theorem PBorn.tape' (h : PBorn w0 p half tv vb vl W) (x : Value) : PBorn w0 p half x vb vl (W.setCell ⟨w0.heap.size + 1, 1, none⟩ x) :=
  h.set1 half x vb vl (Mod.set ⟨by simp, by simp⟩) (heap_setCell_same W _ 1 _ _ _ h.g1) (heap_setCell_other W ⟨w0.heap.size + 1, 1, none⟩ _ _ (by simp)) ((heap_setCell_other W ⟨w0.heap.size + 1, 1, none⟩ _ _ (by simp)).trans h.g3) ((heap_setCell_other W ⟨w0.heap.size + 1, 1, none⟩ _ _ (by simp)).trans h.g4)
theorem PBorn.snap' (h : PBorn w0 p half tv vb vl W) (x : Value) : PBorn w0 p half tv x vl (W.setCell ⟨w0.heap.size + 3, 0, none⟩ x) :=
  h.set1 half tv x vl (Mod.set ⟨by simp, by simp⟩) ((heap_setCell_other W ⟨w0.heap.size + 3, 0, none⟩ _ _ (by simp)).trans h.g1) (heap_setCell_other W ⟨w0.heap.size + 3, 0, none⟩ _ _ (by simp)) (set_one h.g3 rfl x) ((heap_setCell_other W ⟨w0.heap.size + 3, 0, none⟩ _ _ (by simp)).trans h.g4)
theorem PBorn.recs' (h : PBorn w0 p half tv vb vl W) (x : Value) : PBorn w0 p half tv vb x (W.setCell ⟨w0.heap.size + 4, 0, none⟩ x) :=
  h.set1 half tv vb x (Mod.set ⟨by simp, by simp⟩) ((heap_setCell_other W ⟨w0.heap.size + 4, 0, none⟩ _ _ (by simp)).trans h.g1) (heap_setCell_other W ⟨w0.heap.size + 4, 0, none⟩ _ _ (by simp)) ((heap_setCell_other W ⟨w0.heap.size + 4, 0, none⟩ _ _ (by simp)).trans h.g3) (set_one h.g4 rfl x)
theorem PBorn.c0 (h : PBorn w0 p half tv vb vl W) : W.cell? ⟨w0.heap.size, 0, none⟩ = some (.pointer (some ⟨p, 0, none⟩)) := by rw [cell_of_row W _ _ _ _ _ h.g0]; rfl
theorem PBorn.c1 (h : PBorn w0 p half tv vb vl W) : W.cell? ⟨w0.heap.size + 1, 1, none⟩ = some tv := by rw [cell_of_row W _ _ _ _ _ h.g1]; rfl
theorem PBorn.ch (h : PBorn w0 p half tv vb vl W) : W.cell? ⟨w0.heap.size + 1, 2, none⟩ = some (I half) := by rw [cell_of_row W _ _ _ _ _ h.g1]; rfl
theorem PBorn.c2 (h : PBorn w0 p half tv vb vl W) : W.cell? ⟨w0.heap.size + 2, 0, none⟩ = some (.pointer (some ⟨w0.heap.size + 1, 0, none⟩)) := by rw [cell_of_row W _ _ _ _ _ h.g2]; rfl
theorem PBorn.c3 (h : PBorn w0 p half tv vb vl W) : W.cell? ⟨w0.heap.size + 3, 0, none⟩ = some vb := by rw [cell_of_row W _ _ _ _ _ h.g3]; rfl
theorem PBorn.c4 (h : PBorn w0 p half tv vb vl W) : W.cell? ⟨w0.heap.size + 4, 0, none⟩ = some vl := by rw [cell_of_row W _ _ _ _ _ h.g4]; rfl
theorem PBorn.mod (h : PBorn w0 p half tv vb vl W) {i : Nat} (hi : i ≤ 3) (v : Value) {k : Nat} (hk : 1 ≤ k ∧ k ≤ 4) : Below w0.heap.size w0 (W.setCell ⟨w0.heap.size + k, i, none⟩ v) := h.below.trans ((Mod.set (own := fun j => j = w0.heap.size + k) rfl).below h.below.size (fun j hj e => by omega))
end
set_option maxRecDepth 100000 in
/-- Behind Open's door: the power is off. -/
theorem popen_off (w0 W : World) (p : Nat) (own : Nat → Prop) (D : DS) (hb : PBorn w0 p 0 (.pointer none) (.slice none 0 0) (.slice none 0 0) W) (hd : DrumAt w0 p own D) (h5 : 5 ≤ D.safe.length) (ho : D.off = true) :
    Calls Try.prog 78 #[.pointer (some ⟨w0.heap.size, 0, none⟩), .pointer (some ⟨w0.heap.size + 2, 0, none⟩), .pointer (some ⟨w0.heap.size + 3, 0, none⟩), .pointer (some ⟨w0.heap.size + 4, 0, none⟩)] W fun e w' => e = .panicked (gaveUp5 20) ∧ Below W.heap.size W w' := by
  have hp := pread_off (hd.below (hb.below.trans ((Ext.drew W).mono hb.below.size))) (a := 0) (by omega) ho
  have HP := hid hp
  have HB := hid hb
  clear hp hd ho hb
  have k0 : ∀ w', Ext W.drew w' → w'.cell? ⟨w0.heap.size, 0, none⟩ = some (.pointer (some ⟨p, 0, none⟩)) := fun w' hh => (HB.out.on (Ext.trans _ _ _ (Ext.drew W) hh)).c0
  have k2 : ∀ w', Ext W.drew w' → w'.cell? ⟨w0.heap.size + 2, 0, none⟩ = some (.pointer (some ⟨w0.heap.size + 1, 0, none⟩)) := fun w' hh => (HB.out.on (Ext.trans _ _ _ (Ext.drew W) hh)).c2
  go_enter Try.func78, Try.ntmps78
  go_wp2
  refine wp_region_order Ext [8] [(0,0),(1,0),(2,1),(3,0),(4,0),(5,0),(6,0),(7,0),(8,2)] _ (by kernel_rfl) rfl Ext.refl Ext.trans (by kernel_rfl) (by simp only [pick, List.getElem?_toArray, List.getElem?_cons_zero, List.getElem?_cons_succ]; rfl) (fun c a d v w h => by cases d <;> exact h) ?_
  refine wpK_q (v := ?_) (a' := ?_) (by rfl) (fun w' hR => ?_) ?_ ?_
  rotate_left 2
  · go_simp; with_reducible rfl
  · simp only [Act.put, List.setIfInBounds_toArray, List.set_cons_zero, List.set_cons_succ]; rfl
  refine wpK_q (v := ?_) (a' := ?_) (by rfl) (fun w' hR => ?_) ?_ ?_
  rotate_left 2
  · go_simp; with_reducible rfl
  · simp only [Act.put, List.setIfInBounds_toArray, List.set_cons_zero, List.set_cons_succ]; rfl
  refine wpK_callp Try.func79 (by kernel_rfl) rfl rfl (by rfl) #[.pointer (some ⟨p, 0, none⟩), I 0] (by simp only [List.map_toArray, List.map_cons, List.map_nil]; rfl) ?_
  refine HP.out.mono ?_
  rintro e w1 ⟨rfl, hb1⟩
  refine ⟨_, rfl, ?_⟩
  exact ⟨rfl, rfl, Ext.trans _ _ _ (Ext.drew W) hb1⟩
theorem root_lt (D : DS) : PS.root D < 256 := by unfold PS.root; exact UInt8.toNat_lt _
/-- What Open comes to, its page counted and the power on. -/
def PS.inner (D : DS) : Int × List UInt8 × List (List UInt8) × PS :=
  let no (e : Int) : Int × List UInt8 × List (List UInt8) × PS := (e, [], [], ⟨0, ⟨0, 0, 0, 0, 0⟩, 0⟩)
  if 1 < PS.root D then no 11 else
  let at_ := 1 + PS.root D * PS.hp D.safe.length
  let x := PS.load (PS.halfOf D (PS.root D)) (PS.hp D.safe.length)
  if x.1 ≠ 0 then no x.1 else
  let y := TS.opn D (at_ + x.2.2 : Nat) (at_ + PS.hp D.safe.length : Nat)
  if y.1 ≠ 0 then no y.1 else (0, x.2.1, y.2.1, ⟨PS.root D, ⟨at_ + x.2.2, at_ + PS.hp D.safe.length, y.2.2.1, y.2.2.2, 0⟩, 0⟩)
theorem PS.open_eq (D : DS) (h5 : 5 ≤ D.safe.length) (ho : D.off = false) : PS.open_ D = PS.inner D := by
  unfold PS.open_ PS.inner
  rw [if_neg (by omega), ho, if_neg (by simp)]
theorem Part.keepTo {w w' : World} {base n : Nat} {v : Value} {l : List UInt8} (h : Part w base v l) (hn : n ≤ base) (hk : ∀ k, n ≤ k → w'.heap[k]? = w.heap[k]?) (hz : w.heap.size ≤ w'.heap.size) : Part w' n v l := by
  rcases h with h | ⟨h0, g, cap, A, hA, rfl, ho⟩
  · exact .inl h
  · refine .inr ⟨h0, g, cap, A, hA, rfl, own_anew (own_mod ho (fun k hk2 => hk k (Nat.le_trans hn (own_lt ho k hk2).1))) (fun k hk2 => Nat.le_trans hn (own_lt ho k hk2).1)⟩
/-- All blocks below one stay. -/
structure Low (b : Nat) (w w' : World) : Prop where
  b : Below b w w'
theorem Low.refl {b : Nat} (w : World) : Low b w w := ⟨Below.refl _ _⟩
theorem Low.trans {b : Nat} (w w' w'' : World) (h : Low b w w') (k : Low b w' w'') : Low b w w'' := ⟨h.b.trans k.b⟩
theorem Low.set {b : Nat} {w : World} {a : Addr} {v : Value} (h : b ≤ a.block) (hb : b ≤ w.heap.size) : Low b w (w.setCell a v) := ⟨(Mod.set (own := fun k => k = a.block) rfl).below hb (fun i hi e => by omega)⟩
/-- What is there when Open's inner function has answered. -/
def PEnd (w0 : World) (z p n : Nat) (X : Int × List UInt8 × List (List UInt8) × PS) (W : World) : Prop :=
  ∃ t vb vl, PBorn w0 p X.2.2.2.half (.pointer (some ⟨t, 0, none⟩)) vb vl W ∧ TapeIn W t p n X.2.2.2.T ∧ Part W z vb X.2.1 ∧ Recs W (t + 1) vl X.2.2.1 ∧ z ≤ t
theorem endOr5_no {e : Int} (h : e ≠ 0) (v : Value) : endOr5 e v = .panicked (gaveUp5 e) := by unfold endOr5; rw [if_neg h]
set_option maxRecDepth 100000 in
set_option maxHeartbeats 3200000 in
/-- Behind Open's door: the power is on. -/
theorem popen_on (w0 W : World) (p : Nat) (own : Nat → Prop) (D : DS) (hb : PBorn w0 p 0 (.pointer none) (.slice none 0 0) (.slice none 0 0) W) (hd : DrumAt w0 p own D) (h5 : 5 ≤ D.safe.length) (ho : D.off = false) :
    Calls Try.prog 78 #[.pointer (some ⟨w0.heap.size, 0, none⟩), .pointer (some ⟨w0.heap.size + 2, 0, none⟩), .pointer (some ⟨w0.heap.size + 3, 0, none⟩), .pointer (some ⟨w0.heap.size + 4, 0, none⟩)] W fun e w' => e = endOr5 (PS.inner D).1 (.tuple #[]) ∧ Mod (fun k => w0.heap.size + 1 ≤ k ∧ k ≤ w0.heap.size + 4) W w' ∧ Below w0.heap.size w0 w' ∧ ((PS.inner D).1 = 0 → PEnd w0 W.heap.size p D.safe.length (PS.inner D) w') := by
  have hn := hd.ok.n2
  have hWz : w0.heap.size + 5 ≤ W.heap.size := hb.lt
  have hp := pread_on (hd.below (hb.below.trans ((Ext.drew W).mono hb.below.size))) (a := 0) (by omega) ho
  have hll : (DS.look D.safe D.waits 0).length = 256 := DS.look_len hd.ok.page hd.ok.wait (by omega)
  obtain ⟨X, hX⟩ : ∃ X, X = PS.inner D := ⟨_, rfl⟩
  rw [← hX]
  unfold PS.inner at hX
  have hdd := fun w' (hb : Below w0.heap.size w0 w') => hd.below hb
  obtain ⟨r, hr⟩ : ∃ r, r = PS.root D := ⟨_, rfl⟩
  rw [← hr] at hX
  unfold PS.root at hr
  generalize DS.look D.safe D.waits 0 = pg at *
  obtain ⟨c, hc⟩ : ∃ c, c = pg.getD 0 0 := ⟨_, rfl⟩
  have hc0 : pg[0]? = some c := by rw [hc, List.getD_eq_getElem?_getD, List.getElem?_eq_getElem (by omega)]; rfl
  rw [← hc] at hr
  have bb := byte_bd c
  have hcw : IntKind.i64.wrap (c.toNat : Int) = (c.toNat : Int) := IntWalk.i64_in _ (by omega)
  have hrc : (c.toNat : Int) = (r : Int) := by rw [hr]
  have hq2 : 2 ≤ PS.hp D.safe.length ∧ 2 * PS.hp D.safe.length + 1 ≤ D.safe.length := by unfold PS.hp; omega
  have HP := hid hp
  have HDD := hid hdd
  have HB := hid hb
  have HLL := hid hll
  have HC0 := hid hc0
  have HX := hid hX
  have HRC := hid hrc
  have HO := hid ho
  clear hp hd ho hb hc hll hr hc0 hX hdd hrc
  have k0 : ∀ w', Ext W.drew w' → w'.cell? ⟨w0.heap.size, 0, none⟩ = some (.pointer (some ⟨p, 0, none⟩)) := fun w' hh => (HB.out.on (Ext.trans _ _ _ (Ext.drew W) hh)).c0
  have k2 : ∀ w', Ext W.drew w' → w'.cell? ⟨w0.heap.size + 2, 0, none⟩ = some (.pointer (some ⟨w0.heap.size + 1, 0, none⟩)) := fun w' hh => (HB.out.on (Ext.trans _ _ _ (Ext.drew W) hh)).c2
  go_enter Try.func78, Try.ntmps78
  go_wp2
  refine wp_region_order Ext [8] [(0,0),(1,0),(2,1),(3,0),(4,0),(5,0),(6,0),(7,0),(8,2)] _ (by kernel_rfl) rfl Ext.refl Ext.trans (by kernel_rfl) (by simp only [pick, List.getElem?_toArray, List.getElem?_cons_zero, List.getElem?_cons_succ]; rfl) (fun c a d v w h => by cases d <;> exact h) ?_
  refine wpK_q (v := ?_) (a' := ?_) (by rfl) (fun w' hR => ?_) ?_ ?_
  rotate_left 2
  · go_simp; with_reducible rfl
  · simp only [Act.put, List.setIfInBounds_toArray, List.set_cons_zero, List.set_cons_succ]; rfl
  refine wpK_q (v := ?_) (a' := ?_) (by rfl) (fun w' hR => ?_) ?_ ?_
  rotate_left 2
  · go_simp; with_reducible rfl
  · simp only [Act.put, List.setIfInBounds_toArray, List.set_cons_zero, List.set_cons_succ]; rfl
  refine wpK_call Try.func79 (by kernel_rfl) rfl rfl (by rfl) #[.pointer (some ⟨p, 0, none⟩), I 0] (by simp only [List.map_toArray, List.map_cons, List.map_nil]; rfl) ?_
  refine HP.out.mono ?_
  rintro e w1 ⟨v1, rfl, ho1, hb1⟩
  refine ⟨_, rfl, fun _ => hb1, ?_⟩
  rw [HLL.out] at ho1
  obtain ⟨g, cap, rfl, g1, g2, g3⟩ := own_slice ho1 (by omega)
  have kc : ∀ w', Ext w1 w' → w'.cell? ⟨g, 0, none⟩ = some (B c) := fun w' hh => hh.cell (own_cell ho1 (by rw [List.getElem?_map, HC0.out]; rfl))
  have HB1 := hid (HB.out.on (Ext.trans _ _ _ (Ext.drew W) hb1))
  have HBX := hid (Ext.trans _ _ _ (Ext.drew W) hb1)
  clear ho1 hb1
  refine wpK_q (v := ?_) (a' := ?_) (by rfl) (fun w' hR => ?_) ?_ ?_
  rotate_left 2
  · go_simp; with_reducible rfl
  · simp only [Act.put, List.setIfInBounds_toArray, List.set_cons_zero, List.set_cons_succ]; rfl
  refine wpK_q (v := ?_) (a' := ?_) (by rfl) (fun w' hR => ?_) ?_ ?_
  rotate_left 2
  · go_simp; with_reducible rfl
  · simp only [Act.put, List.setIfInBounds_toArray, List.set_cons_zero, List.set_cons_succ]; rfl
  refine wpK_q (v := ?_) (a' := ?_) (by rfl) (fun w' hR => ?_) ?_ ?_
  rotate_left 2
  · go_simp; with_reducible rfl
  · simp only [Act.put, List.setIfInBounds_toArray, List.set_cons_zero, List.set_cons_succ]; rfl
  refine wpK_q (v := ?_) (a' := ?_) (by rfl) (fun w' hR => ?_) ?_ ?_
  rotate_left 2
  · go_simp; with_reducible rfl
  · simp only [Act.put, List.setIfInBounds_toArray, List.set_cons_zero, List.set_cons_succ]; rfl
  refine wpK_q (v := ?_) (a' := ?_) (by rfl) (fun w' hR => ?_) ?_ ?_
  rotate_left 2
  · go_simp; with_reducible rfl
  · simp only [Act.put, List.setIfInBounds_toArray, List.set_cons_zero, List.set_cons_succ]; rfl
  refine wpK_s (by rfl) rfl (exec_store rfl (vx := .pointer (some ⟨w0.heap.size + 1, 2, none⟩)) (vy := I (c.toNat : Int)) rfl rfl (run_store1 (u := I 0) (by kernel_rfl) rfl rfl HB1.out.ch (frozen_row HB1.out.g1 2))) (fun h => by cases h) ?_
  refine wpK_done ?_
  rw [HRC.out]
  have HB2 := hid (HB1.out.half' r)
  have HM2 : Hid (Mod (fun k => w0.heap.size + 1 ≤ k ∧ k ≤ w0.heap.size + 4) W (w1.setCell ⟨w0.heap.size + 1, 2, none⟩ (I r))) := hid ((Mod.of_below _ HBX.out).trans (Mod.set ⟨by simp, by simp⟩))
  generalize w1.setCell ⟨w0.heap.size + 1, 2, none⟩ (I r) = w2 at *
  clear kc k0 k2 HB1 HBX HB HP HC0 HLL
  have c2 := HB2.out.c2
  have ch := HB2.out.ch
  by_cases hr1 : 1 < r
  · have hr2 : (1 : Int) < (r : Int) := by omega
    have hr3 : decide ((r : Int) > 1) = true := decide_eq_true hr2
    have HXX : Hid (X.1 = 11) := hid (by rw [HX.out, if_pos hr1])
    clear HX
    go_wp2_with (first | (go_at_call 80; refine (fail_no 11 rfl _).mono ?_; rintro e w5 ⟨rfl, rfl⟩))
    refine ⟨rfl, ?_⟩
    rw [HXX.out]
    exact ⟨(endOr5_no (by decide) _).symm, HM2.out, HB2.out.below, fun h => by cases h⟩
  have hr2 : ¬ (1 : Int) < (r : Int) := by omega
  have hr0 : r ≤ 1 := by omega
  have HX1 := hid HX.out
  replace HX1 := hid (show X = _ from by rw [HX1.out, if_neg hr1])
  clear HX hr1
  obtain ⟨q, hq⟩ : ∃ q, q = PS.hp D.safe.length := ⟨_, rfl⟩
  obtain ⟨a0, ha0⟩ : ∃ a0, a0 = 1 + r * PS.hp D.safe.length := ⟨_, rfl⟩
  have haq : a0 + q ≤ D.safe.length := by
    have h1 : r * PS.hp D.safe.length ≤ 1 * PS.hp D.safe.length := Nat.mul_le_mul_right _ hr0
    omega
  have hld := fun w' (hb : Below w0.heap.size w0 w') => load_on w' p own D r hr0 (HDD.out w' hb) h5 HO.out
  have hfi := fun w' (hb : Below w0.heap.size w0 w') => pfirst_any w' p own D (HDD.out w' hb) (by omega) r hr0
  have hpp := fun w' (hb : Below w0.heap.size w0 w') => ppages_any w' p own D (HDD.out w' hb) (by omega)
  rw [← ha0] at hfi
  rw [← hq] at hpp hq2
  have hlok := PS.load_ok (S := PS.halfOf D r) hq2.1
  obtain ⟨x, hx⟩ : ∃ x, x = PS.load (PS.halfOf D r) (PS.hp D.safe.length) := ⟨_, rfl⟩
  rw [hq, ← hx] at hlok
  simp only [← hx] at hld
  rw [← hx, ← ha0, ← hq] at HX1
  have HLD := hid hld
  have HFI := hid hfi
  have HPP := hid hpp
  have HLOK := hid hlok
  have HQ := hid hq
  rw [← hq] at HLOK
  clear hld hfi hpp hlok hx ha0 hq
  have HBD := hid (HB2.out.on (Ext.drew w2))
  have k0 : ∀ w', Low (w0.heap.size + 3) w2.drew w' → w'.cell? ⟨w0.heap.size, 0, none⟩ = some (.pointer (some ⟨p, 0, none⟩)) := fun w' hh => by rw [cell_of_row w' _ _ _ _ _ ((hh.b.block _ (by omega)).trans HBD.out.g0)]; rfl
  have k2 : ∀ w', Low (w0.heap.size + 3) w2.drew w' → w'.cell? ⟨w0.heap.size + 2, 0, none⟩ = some (.pointer (some ⟨w0.heap.size + 1, 0, none⟩)) := fun w' hh => by rw [cell_of_row w' _ _ _ _ _ ((hh.b.block _ (by omega)).trans HBD.out.g2)]; rfl
  have kh : ∀ w', Low (w0.heap.size + 3) w2.drew w' → w'.cell? ⟨w0.heap.size + 1, 2, none⟩ = some (I r) := fun w' hh => by rw [cell_of_row w' _ _ _ _ _ ((hh.b.block _ (by omega)).trans HBD.out.g1)]; rfl
  go_wp2
  by_cases hx0 : x.1 = 0
  rotate_left
  · have hcl : Calls Try.prog 81 #[.pointer (some ⟨p, 0, none⟩), I r] w2.drew fun e w' => e = .panicked (gaveUp5 x.1) ∧ Below w2.drew.heap.size w2.drew w' := (HLD.out _ HBD.out.below).mono fun e w' h => by
      rcases h with h | h
      · exact h.2
      · exact absurd h.1 hx0
    have HXX : Hid (X.1 = x.1) := hid (by rw [HX1.out, if_pos hx0])
    have HCL := hid hcl
    clear hcl
    refine wp_region_order (Low (w0.heap.size+3)) [] [(0,0),(1,0),(2,0),(3,0),(4,0),(5,1),(6,0),(7,0),(8,0),(9,1),(10,0)] _ (by kernel_rfl) rfl Low.refl Low.trans (by kernel_rfl) (by simp only [pick, List.getElem?_toArray, List.getElem?_cons_zero, List.getElem?_cons_succ]; rfl) (fun c a d v w h => by cases d <;> exact h) ?_
    refine wpK_q (v := ?_) (a' := ?_) (by rfl) (fun w' hR => ?_) ?_ ?_
    rotate_left 2
    · go_simp; with_reducible rfl
    · simp only [Act.put, List.setIfInBounds_toArray, List.set_cons_zero, List.set_cons_succ]; rfl
    refine wpK_q (v := ?_) (a' := ?_) (by rfl) (fun w' hR => ?_) ?_ ?_
    rotate_left 2
    · go_simp; with_reducible rfl
    · simp only [Act.put, List.setIfInBounds_toArray, List.set_cons_zero, List.set_cons_succ]; rfl
    refine wpK_q (v := ?_) (a' := ?_) (by rfl) (fun w' hR => ?_) ?_ ?_
    rotate_left 2
    · go_simp; with_reducible rfl
    · simp only [Act.put, List.setIfInBounds_toArray, List.set_cons_zero, List.set_cons_succ]; rfl
    refine wpK_q (v := ?_) (a' := ?_) (by rfl) (fun w' hR => ?_) ?_ ?_
    rotate_left 2
    · go_simp; with_reducible rfl
    · simp only [Act.put, List.setIfInBounds_toArray, List.set_cons_zero, List.set_cons_succ]; rfl
    refine wpK_q (v := ?_) (a' := ?_) (by rfl) (fun w' hR => ?_) ?_ ?_
    rotate_left 2
    · go_simp; with_reducible rfl
    · simp only [Act.put, List.setIfInBounds_toArray, List.set_cons_zero, List.set_cons_succ]; rfl
    refine wpK_callp Try.func81 (by kernel_rfl) rfl rfl (by rfl) #[.pointer (some ⟨p, 0, none⟩), I r] (by simp only [List.map_toArray, List.map_cons, List.map_nil]; rfl) ?_
    refine HCL.out.mono ?_
    rintro e w5 ⟨rfl, hb5⟩
    refine ⟨_, rfl, ?_⟩
    refine ⟨rfl, ?_⟩
    rw [HXX.out]
    exact ⟨(endOr5_no hx0 _).symm, HM2.out.trans (Mod.of_below _ (Ext.trans _ _ _ (Ext.drew w2) hb5)), (HBD.out.on hb5).below, fun h => absurd h hx0⟩
  have hcl : Calls Try.prog 81 #[.pointer (some ⟨p, 0, none⟩), I r] w2.drew fun e w' => ∃ v, e = .returned (.tuple #[v, I x.2.2]) ∧ Part w' w2.drew.heap.size v x.2.1 ∧ Below w2.drew.heap.size w2.drew w' := (HLD.out _ HBD.out.below).mono fun e w' h => by
    rcases h with h | h
    · exact absurd hx0 h.1
    · exact h.2
  have HCL := hid hcl
  have hk := HLOK.out hx0
  have HX2 := hid (show X = _ from by rw [HX1.out, if_neg (by rw [hx0]; simp)])
  clear hcl HX1 hx0 HLD HLOK
  obtain ⟨x1, b, K⟩ := x
  simp only at HCL hk HX2
  refine wp_region_order (Low (w0.heap.size+3)) [] [(0,0),(1,0),(2,0),(3,0),(4,0),(5,1),(6,0),(7,0),(8,0),(9,1),(10,0)] _ (by kernel_rfl) rfl Low.refl Low.trans (by kernel_rfl) (by simp only [pick, List.getElem?_toArray, List.getElem?_cons_zero, List.getElem?_cons_succ]; rfl) (fun c a d v w h => by cases d <;> exact h) ?_
  refine wpK_q (v := ?_) (a' := ?_) (by rfl) (fun w' hR => ?_) ?_ ?_
  rotate_left 2
  · go_simp; with_reducible rfl
  · simp only [Act.put, List.setIfInBounds_toArray, List.set_cons_zero, List.set_cons_succ]; rfl
  refine wpK_q (v := ?_) (a' := ?_) (by rfl) (fun w' hR => ?_) ?_ ?_
  rotate_left 2
  · go_simp; with_reducible rfl
  · simp only [Act.put, List.setIfInBounds_toArray, List.set_cons_zero, List.set_cons_succ]; rfl
  refine wpK_q (v := ?_) (a' := ?_) (by rfl) (fun w' hR => ?_) ?_ ?_
  rotate_left 2
  · go_simp; with_reducible rfl
  · simp only [Act.put, List.setIfInBounds_toArray, List.set_cons_zero, List.set_cons_succ]; rfl
  refine wpK_q (v := ?_) (a' := ?_) (by rfl) (fun w' hR => ?_) ?_ ?_
  rotate_left 2
  · go_simp; with_reducible rfl
  · simp only [Act.put, List.setIfInBounds_toArray, List.set_cons_zero, List.set_cons_succ]; rfl
  refine wpK_q (v := ?_) (a' := ?_) (by rfl) (fun w' hR => ?_) ?_ ?_
  rotate_left 2
  · go_simp; with_reducible rfl
  · simp only [Act.put, List.setIfInBounds_toArray, List.set_cons_zero, List.set_cons_succ]; rfl
  refine wpK_call Try.func81 (by kernel_rfl) rfl rfl (by rfl) #[.pointer (some ⟨p, 0, none⟩), I r] (by simp only [List.map_toArray, List.map_cons, List.map_nil]; rfl) ?_
  refine HCL.out.mono ?_
  rintro e w3 ⟨vb, rfl, hp3, hb3⟩
  refine ⟨_, rfl, fun _ => ⟨hb3.mono (Nat.le_trans (by omega) HBD.out.lt)⟩, ?_⟩
  obtain ⟨avb, cvb, rfl, -⟩ := hp3.sees.form0
  have HB3 := hid (HBD.out.on hb3)
  have HP3 := hid hp3
  have HM3 := hid (HM2.out.trans (Mod.of_below _ (Ext.trans _ _ _ (Ext.drew w2) hb3)))
  have hz3 : W.heap.size ≤ w2.drew.heap.size := HM2.out.size
  clear hp3 hb3
  refine wpK_q (v := ?_) (a' := ?_) (by rfl) (fun w' hR => ?_) ?_ ?_
  rotate_left 2
  · go_simp; with_reducible rfl
  · simp only [Act.put, List.setIfInBounds_toArray, List.set_cons_zero, List.set_cons_succ]; rfl
  refine wpK_q (v := ?_) (a' := ?_) (by rfl) (fun w' hR => ?_) ?_ ?_
  rotate_left 2
  · go_simp; with_reducible rfl
  · simp only [Act.put, List.setIfInBounds_toArray, List.set_cons_zero, List.set_cons_succ]; rfl
  refine wpK_q (v := ?_) (a' := ?_) (by rfl) (fun w' hR => ?_) ?_ ?_
  rotate_left 2
  · go_simp; with_reducible rfl
  · simp only [Act.put, List.setIfInBounds_toArray, List.set_cons_zero, List.set_cons_succ]; rfl
  refine wpK_s (by rfl) rfl (exec_store rfl (vx := .pointer (some ⟨w0.heap.size + 3, 0, none⟩)) (vy := .slice avb b.length cvb) rfl rfl (run_store1 (u := .slice none 0 0) (by kernel_rfl) rfl rfl HB3.out.c3 (frozen_row HB3.out.g3 0))) (fun _ => Low.set (Nat.le_refl _) (Nat.le_trans (by omega) HB3.out.lt)) ?_
  refine wpK_q (v := ?_) (a' := ?_) (by rfl) (fun w' hR => ?_) ?_ ?_
  rotate_left 2
  · go_simp; with_reducible rfl
  · simp only [Act.put, List.setIfInBounds_toArray, List.set_cons_zero, List.set_cons_succ]; rfl
  refine wpK_done ?_
  have HB4 := hid (HB3.out.snap' (.slice avb b.length cvb))
  have HP4 : Hid (Part (w3.setCell ⟨w0.heap.size + 3, 0, none⟩ (.slice avb b.length cvb)) W.heap.size (.slice avb b.length cvb) b) := hid (HP3.out.keepTo hz3 (fun k hk => heap_setCell_other w3 ⟨w0.heap.size + 3, 0, none⟩ k _ (by simp only; omega)) (by simp))
  have HM4 := hid (HM3.out.trans (Mod.set (own := fun k => w0.heap.size + 1 ≤ k ∧ k ≤ w0.heap.size + 4) (a := ⟨w0.heap.size + 3, 0, none⟩) (u := .slice avb b.length cvb) ⟨by simp, by simp⟩))
  generalize w3.setCell ⟨w0.heap.size + 3, 0, none⟩ (.slice avb b.length cvb) = w4 at *
  clear HB3 HP3 HM3 HCL k0 k2 kh HM2 HB2 HBD hz3 c2 ch
  have k0 : ∀ w', Ext w4.drew w' → w'.cell? ⟨w0.heap.size, 0, none⟩ = some (.pointer (some ⟨p, 0, none⟩)) := fun w' hh => (HB4.out.on (Ext.trans _ _ _ (Ext.drew w4) hh)).c0
  have k2 : ∀ w', Ext w4.drew w' → w'.cell? ⟨w0.heap.size + 2, 0, none⟩ = some (.pointer (some ⟨w0.heap.size + 1, 0, none⟩)) := fun w' hh => (HB4.out.on (Ext.trans _ _ _ (Ext.drew w4) hh)).c2
  have kh : ∀ w', Ext w4.drew w' → w'.cell? ⟨w0.heap.size + 1, 2, none⟩ = some (I r) := fun w' hh => (HB4.out.on (Ext.trans _ _ _ (Ext.drew w4) hh)).ch
  have HBD := hid (HB4.out.on (Ext.drew w4))
  go_wp2
  refine wp_region_order Ext [] [(0,0),(1,0),(2,0),(3,0),(4,0),(5,1),(6,0)] _ (by kernel_rfl) rfl Ext.refl Ext.trans (by kernel_rfl) (by simp only [pick, List.getElem?_toArray, List.getElem?_cons_zero, List.getElem?_cons_succ]; rfl) (fun c a d v w h => by cases d <;> exact h) ?_
  refine wpK_q (v := ?_) (a' := ?_) (by rfl) (fun w' hR => ?_) ?_ ?_
  rotate_left 2
  · go_simp; with_reducible rfl
  · simp only [Act.put, List.setIfInBounds_toArray, List.set_cons_zero, List.set_cons_succ]; rfl
  refine wpK_q (v := ?_) (a' := ?_) (by rfl) (fun w' hR => ?_) ?_ ?_
  rotate_left 2
  · go_simp; with_reducible rfl
  · simp only [Act.put, List.setIfInBounds_toArray, List.set_cons_zero, List.set_cons_succ]; rfl
  refine wpK_q (v := ?_) (a' := ?_) (by rfl) (fun w' hR => ?_) ?_ ?_
  rotate_left 2
  · go_simp; with_reducible rfl
  · simp only [Act.put, List.setIfInBounds_toArray, List.set_cons_zero, List.set_cons_succ]; rfl
  refine wpK_q (v := ?_) (a' := ?_) (by rfl) (fun w' hR => ?_) ?_ ?_
  rotate_left 2
  · go_simp; with_reducible rfl
  · simp only [Act.put, List.setIfInBounds_toArray, List.set_cons_zero, List.set_cons_succ]; rfl
  refine wpK_q (v := ?_) (a' := ?_) (by rfl) (fun w' hR => ?_) ?_ ?_
  rotate_left 2
  · go_simp; with_reducible rfl
  · simp only [Act.put, List.setIfInBounds_toArray, List.set_cons_zero, List.set_cons_succ]; rfl
  refine wpK_call Try.func82 (by kernel_rfl) rfl rfl (by rfl) #[.pointer (some ⟨p, 0, none⟩), I r] (by simp only [List.map_toArray, List.map_cons, List.map_nil]; rfl) ?_
  refine (HFI.out _ HBD.out.below).mono ?_
  rintro e w5 ⟨rfl, rfl⟩
  refine ⟨_, rfl, fun _ => Ext.refl _, ?_⟩
  refine wpK_q (v := ?_) (a' := ?_) (by rfl) (fun w' hR => ?_) ?_ ?_
  rotate_left 2
  · go_simp; with_reducible rfl
  · simp only [Act.put, List.setIfInBounds_toArray, List.set_cons_zero, List.set_cons_succ]; rfl
  refine wpK_done ?_
  have HB5 := hid (HBD.out)
  have HP5 := hid (HP4.out.below (Ext.drew w4))
  have HM5 := hid (HM4.out.trans (Mod.drew w4))
  generalize w4.drew = w5 at *
  clear HB4 HP4 HM4 k0 k2 kh HBD
  have k0 : ∀ w', Ext w5.drew w' → w'.cell? ⟨w0.heap.size, 0, none⟩ = some (.pointer (some ⟨p, 0, none⟩)) := fun w' hh => (HB5.out.on (Ext.trans _ _ _ (Ext.drew w5) hh)).c0
  have HBD := hid (HB5.out.on (Ext.drew w5))
  have hlo : IntKind.i64.wrap ((a0 : Int) + (K : Int)) = ((a0 + K : Nat) : Int) := by rw [IntWalk.i64_in _ (by omega)]; omega
  have hhi : IntKind.i64.wrap ((a0 : Int) + (q : Int)) = ((a0 + q : Nat) : Int) := by rw [IntWalk.i64_in _ (by omega)]; omega
  have hop := open_any w5.drew p own D ((a0 + K : Nat) : Int) ((a0 + q : Nat) : Int) (HDD.out _ HBD.out.below) (by omega) (by omega)
  obtain ⟨y, hy⟩ : ∃ y, y = TS.opn D ((a0 + K : Nat) : Int) ((a0 + q : Nat) : Int) := ⟨_, rfl⟩
  rw [← hy] at hop HX2
  rw [Int.toNat_natCast, Int.toNat_natCast] at hop
  obtain ⟨lo, hlo2⟩ : ∃ lo, lo = a0 + K := ⟨_, rfl⟩
  obtain ⟨hi, hhi2⟩ : ∃ hi, hi = a0 + q := ⟨_, rfl⟩
  rw [← hlo2] at hlo hop HX2
  rw [← hhi2] at hhi hop HX2
  have el : (lo : Int) = (a0 : Int) + (K : Int) := by omega
  have eh : (hi : Int) = (a0 : Int) + (q : Int) := by omega
  rw [el, eh] at hop
  have HOP := hid hop
  have hlo3 : IntKind.i64.wrap ((a0 : Int) + (K : Int)) = (a0 : Int) + (K : Int) := IntWalk.i64_in _ (by omega)
  have hhi3 : IntKind.i64.wrap ((a0 : Int) + (q : Int)) = (a0 : Int) + (q : Int) := IntWalk.i64_in _ (by omega)
  have EL := hid el
  have EH := hid eh
  have LO2 := hid hlo2
  have HI2 := hid hhi2
  clear hop hy el eh hlo hhi hlo2 hhi2
  go_wp2
  by_cases hy0 : y.1 = 0
  rotate_left
  · have hcl : Calls Try.prog 65 #[.pointer (some ⟨p, 0, none⟩), I ((a0 : Int) + (K : Int)), I ((a0 : Int) + (q : Int))] w5.drew fun e w' => e = .returned (.tuple #[.pointer none, .slice none 0 0, I y.1]) ∧ Below w5.drew.heap.size w5.drew w' := HOP.out.mono fun e w' h => by
      rcases h with h | h
      · exact h.2
      · exact absurd h.1 hy0
    have HXX : Hid (X.1 = y.1) := hid (by rw [HX2.out, if_pos hy0])
    have HCL := hid hcl
    have hne : (y.1 != 0) = true := by simpa using hy0
    clear hcl HOP
    refine wp_region_order Ext [] [(0,0),(1,0),(2,0),(3,0),(4,0),(5,0),(6,1),(7,0),(8,1),(9,0),(10,0),(11,0),(12,0),(13,0),(14,0),(15,0)] _ (by kernel_rfl) rfl Ext.refl Ext.trans (by kernel_rfl) (by simp only [pick, List.getElem?_toArray, List.getElem?_cons_zero, List.getElem?_cons_succ]; rfl) (fun c a d v w h => by cases d <;> exact h) ?_
    refine wpK_q (v := ?_) (a' := ?_) (by rfl) (fun w' hR => ?_) ?_ ?_
    rotate_left 2
    · go_simp; with_reducible rfl
    · simp only [Act.put, List.setIfInBounds_toArray, List.set_cons_zero, List.set_cons_succ]; rfl
    refine wpK_q (v := ?_) (a' := ?_) (by rfl) (fun w' hR => ?_) ?_ ?_
    rotate_left 2
    · go_simp; with_reducible rfl
    · simp only [Act.put, List.setIfInBounds_toArray, List.set_cons_zero, List.set_cons_succ]; rfl
    refine wpK_q (v := ?_) (a' := ?_) (by rfl) (fun w' hR => ?_) ?_ ?_
    rotate_left 2
    · go_simp; with_reducible rfl
    · simp only [Act.put, List.setIfInBounds_toArray, List.set_cons_zero, List.set_cons_succ]; rfl
    refine wpK_q (v := ?_) (a' := ?_) (by rfl) (fun w' hR => ?_) ?_ ?_
    rotate_left 2
    · go_simp; with_reducible rfl
    · simp only [Act.put, List.setIfInBounds_toArray, List.set_cons_zero, List.set_cons_succ]; rfl
    refine wpK_q (v := ?_) (a' := ?_) (by rfl) (fun w' hR => ?_) ?_ ?_
    rotate_left 2
    · go_simp; with_reducible rfl
    · simp only [Act.put, List.setIfInBounds_toArray, List.set_cons_zero, List.set_cons_succ]; rfl
    refine wpK_q (v := ?_) (a' := ?_) (by rfl) (fun w' hR => ?_) ?_ ?_
    rotate_left 2
    · go_simp; with_reducible rfl
    · simp only [Act.put, List.setIfInBounds_toArray, List.set_cons_zero, List.set_cons_succ]; rfl
    refine wpK_call Try.func83 (by kernel_rfl) rfl rfl (by rfl) #[.pointer (some ⟨p, 0, none⟩)] (by simp only [List.map_toArray, List.map_cons, List.map_nil]; rfl) ?_
    refine (HPP.out _ HBD.out.below).mono ?_
    rintro e w6 ⟨rfl, rfl⟩
    refine ⟨_, rfl, fun _ => Ext.refl _, ?_⟩
    refine wpK_q (v := ?_) (a' := ?_) (by rfl) (fun w' hR => ?_) ?_ ?_
    rotate_left 2
    · go_simp; with_reducible rfl
    · simp only [Act.put, List.setIfInBounds_toArray, List.set_cons_zero, List.set_cons_succ]; rfl
    refine wpK_call Try.func65 (by kernel_rfl) rfl rfl (by rfl) #[.pointer (some ⟨p, 0, none⟩), I ((a0 : Int) + (K : Int)), I ((a0 : Int) + (q : Int))] (by simp only [List.map_toArray, List.map_cons, List.map_nil]; rfl) ?_
    refine HCL.out.mono ?_
    rintro e w6 ⟨rfl, hb6⟩
    refine ⟨_, rfl, fun _ => hb6, ?_⟩
    have HB6 := hid hb6
    clear hb6
    refine wpK_q (v := ?_) (a' := ?_) (by rfl) (fun w' hR => ?_) ?_ ?_
    rotate_left 2
    · go_simp; with_reducible rfl
    · simp only [Act.put, List.setIfInBounds_toArray, List.set_cons_zero, List.set_cons_succ]; rfl
    refine wpK_q (v := ?_) (a' := ?_) (by rfl) (fun w' hR => ?_) ?_ ?_
    rotate_left 2
    · go_simp; with_reducible rfl
    · simp only [Act.put, List.setIfInBounds_toArray, List.set_cons_zero, List.set_cons_succ]; rfl
    refine wpK_q (v := ?_) (a' := ?_) (by rfl) (fun w' hR => ?_) ?_ ?_
    rotate_left 2
    · go_simp; with_reducible rfl
    · simp only [Act.put, List.setIfInBounds_toArray, List.set_cons_zero, List.set_cons_succ]; rfl
    refine wpK_q (v := ?_) (a' := ?_) (by rfl) (fun w' hR => ?_) ?_ ?_
    rotate_left 2
    · go_simp; with_reducible rfl
    · simp only [Act.put, List.setIfInBounds_toArray, List.set_cons_zero, List.set_cons_succ]; rfl
    refine wpK_q (v := ?_) (a' := ?_) (by rfl) (fun w' hR => ?_) ?_ ?_
    rotate_left 2
    · go_simp; with_reducible rfl
    · simp only [Act.put, List.setIfInBounds_toArray, List.set_cons_zero, List.set_cons_succ]; rfl
    refine wpK_q (v := ?_) (a' := ?_) (by rfl) (fun w' hR => ?_) ?_ ?_
    rotate_left 2
    · go_simp; with_reducible rfl
    · simp only [Act.put, List.setIfInBounds_toArray, List.set_cons_zero, List.set_cons_succ]; rfl
    refine wpK_q (v := ?_) (a' := ?_) (by rfl) (fun w' hR => ?_) ?_ ?_
    rotate_left 2
    · go_simp; with_reducible rfl
    · simp only [Act.put, List.setIfInBounds_toArray, List.set_cons_zero, List.set_cons_succ]; rfl
    refine wpK_done ?_
    go_wp2_with (first | (go_at_call 80; refine (fail_no y.1 hne _).mono ?_; rintro e w7 ⟨rfl, rfl⟩))
    refine ⟨rfl, ?_⟩
    rw [HXX.out]
    exact ⟨(endOr5_no hy0 _).symm, HM5.out.trans (Mod.of_below _ (Ext.trans _ _ _ (Ext.drew w5) HB6.out)), (HBD.out.on HB6.out).below, fun h => absurd h hy0⟩
  have hcl : Calls Try.prog 65 #[.pointer (some ⟨p, 0, none⟩), I ((a0 : Int) + (K : Int)), I ((a0 : Int) + (q : Int))] w5.drew fun e w' => ∃ t v, e = .returned (.tuple #[.pointer (some ⟨t, 0, none⟩), v, I 0]) ∧ w5.drew.heap.size ≤ t ∧ TapeIn w' t p D.safe.length ⟨lo, hi, y.2.2.1, y.2.2.2, 0⟩ ∧ Recs w' (t + 1) v y.2.1 ∧ Below w5.drew.heap.size w5.drew w' := HOP.out.mono fun e w' h => by
    rcases h with h | h
    · exact absurd hy0 h.1
    · exact h.2
  have HXX := hid (show X = _ from by rw [HX2.out, if_neg (by rw [hy0]; simp)])
  have HCL := hid hcl
  clear hcl HOP HX2 hy0
  refine wp_region_order Ext [] [(0,0),(1,0),(2,0),(3,0),(4,0),(5,0),(6,1),(7,0),(8,1),(9,0),(10,0),(11,0),(12,0),(13,0),(14,0),(15,0)] _ (by kernel_rfl) rfl Ext.refl Ext.trans (by kernel_rfl) (by simp only [pick, List.getElem?_toArray, List.getElem?_cons_zero, List.getElem?_cons_succ]; rfl) (fun c a d v w h => by cases d <;> exact h) ?_
  refine wpK_q (v := ?_) (a' := ?_) (by rfl) (fun w' hR => ?_) ?_ ?_
  rotate_left 2
  · go_simp; with_reducible rfl
  · simp only [Act.put, List.setIfInBounds_toArray, List.set_cons_zero, List.set_cons_succ]; rfl
  refine wpK_q (v := ?_) (a' := ?_) (by rfl) (fun w' hR => ?_) ?_ ?_
  rotate_left 2
  · go_simp; with_reducible rfl
  · simp only [Act.put, List.setIfInBounds_toArray, List.set_cons_zero, List.set_cons_succ]; rfl
  refine wpK_q (v := ?_) (a' := ?_) (by rfl) (fun w' hR => ?_) ?_ ?_
  rotate_left 2
  · go_simp; with_reducible rfl
  · simp only [Act.put, List.setIfInBounds_toArray, List.set_cons_zero, List.set_cons_succ]; rfl
  refine wpK_q (v := ?_) (a' := ?_) (by rfl) (fun w' hR => ?_) ?_ ?_
  rotate_left 2
  · go_simp; with_reducible rfl
  · simp only [Act.put, List.setIfInBounds_toArray, List.set_cons_zero, List.set_cons_succ]; rfl
  refine wpK_q (v := ?_) (a' := ?_) (by rfl) (fun w' hR => ?_) ?_ ?_
  rotate_left 2
  · go_simp; with_reducible rfl
  · simp only [Act.put, List.setIfInBounds_toArray, List.set_cons_zero, List.set_cons_succ]; rfl
  refine wpK_q (v := ?_) (a' := ?_) (by rfl) (fun w' hR => ?_) ?_ ?_
  rotate_left 2
  · go_simp; with_reducible rfl
  · simp only [Act.put, List.setIfInBounds_toArray, List.set_cons_zero, List.set_cons_succ]; rfl
  refine wpK_call Try.func83 (by kernel_rfl) rfl rfl (by rfl) #[.pointer (some ⟨p, 0, none⟩)] (by simp only [List.map_toArray, List.map_cons, List.map_nil]; rfl) ?_
  refine (HPP.out _ HBD.out.below).mono ?_
  rintro e w6 ⟨rfl, rfl⟩
  refine ⟨_, rfl, fun _ => Ext.refl _, ?_⟩
  refine wpK_q (v := ?_) (a' := ?_) (by rfl) (fun w' hR => ?_) ?_ ?_
  rotate_left 2
  · go_simp; with_reducible rfl
  · simp only [Act.put, List.setIfInBounds_toArray, List.set_cons_zero, List.set_cons_succ]; rfl
  refine wpK_call Try.func65 (by kernel_rfl) rfl rfl (by rfl) #[.pointer (some ⟨p, 0, none⟩), I ((a0 : Int) + (K : Int)), I ((a0 : Int) + (q : Int))] (by simp only [List.map_toArray, List.map_cons, List.map_nil]; rfl) ?_
  refine HCL.out.mono ?_
  rintro e w6 ⟨t, v, rfl, ht6, htp6, hrc6, hb6⟩
  refine ⟨_, rfl, fun _ => hb6, ?_⟩
  have HB6 := hid (HBD.out.on hb6)
  have HP6 := hid (HP5.out.below (Ext.trans _ _ _ (Ext.drew w5) hb6))
  have HM6 := hid (HM5.out.trans (Mod.of_below _ (Ext.trans _ _ _ (Ext.drew w5) hb6)))
  have HTP := hid htp6
  have HRC6 := hid hrc6
  have hzt : W.heap.size ≤ t := Nat.le_trans HM5.out.size ht6
  obtain ⟨avl, cvl, hvl⟩ : ∃ ao cap, v = .slice ao y.2.1.length cap := by obtain ⟨ao, cap, h, -⟩ := hrc6.shows.len; exact ⟨ao, cap, h⟩
  subst hvl
  clear hrc6 htp6 ht6 hb6
  refine wpK_q (v := ?_) (a' := ?_) (by rfl) (fun w' hR => ?_) ?_ ?_
  rotate_left 2
  · go_simp; with_reducible rfl
  · simp only [Act.put, List.setIfInBounds_toArray, List.set_cons_zero, List.set_cons_succ]; rfl
  refine wpK_q (v := ?_) (a' := ?_) (by rfl) (fun w' hR => ?_) ?_ ?_
  rotate_left 2
  · go_simp; with_reducible rfl
  · simp only [Act.put, List.setIfInBounds_toArray, List.set_cons_zero, List.set_cons_succ]; rfl
  refine wpK_q (v := ?_) (a' := ?_) (by rfl) (fun w' hR => ?_) ?_ ?_
  rotate_left 2
  · go_simp; with_reducible rfl
  · simp only [Act.put, List.setIfInBounds_toArray, List.set_cons_zero, List.set_cons_succ]; rfl
  refine wpK_q (v := ?_) (a' := ?_) (by rfl) (fun w' hR => ?_) ?_ ?_
  rotate_left 2
  · go_simp; with_reducible rfl
  · simp only [Act.put, List.setIfInBounds_toArray, List.set_cons_zero, List.set_cons_succ]; rfl
  refine wpK_q (v := ?_) (a' := ?_) (by rfl) (fun w' hR => ?_) ?_ ?_
  rotate_left 2
  · go_simp; with_reducible rfl
  · simp only [Act.put, List.setIfInBounds_toArray, List.set_cons_zero, List.set_cons_succ]; rfl
  refine wpK_q (v := ?_) (a' := ?_) (by rfl) (fun w' hR => ?_) ?_ ?_
  rotate_left 2
  · go_simp; with_reducible rfl
  · simp only [Act.put, List.setIfInBounds_toArray, List.set_cons_zero, List.set_cons_succ]; rfl
  refine wpK_q (v := ?_) (a' := ?_) (by rfl) (fun w' hR => ?_) ?_ ?_
  rotate_left 2
  · go_simp; with_reducible rfl
  · simp only [Act.put, List.setIfInBounds_toArray, List.set_cons_zero, List.set_cons_succ]; rfl
  refine wpK_done ?_
  have c2 := HB6.out.c2
  have c1 := HB6.out.c1
  have c4 := HB6.out.c4
  have f1 := frozen_row HB6.out.g1 1
  have f4 := frozen_row HB6.out.g4 0
  go_wp2_with (first | (go_at_call 80; refine (fail_ok _).mono ?_; rintro e w7 ⟨rfl, rfl⟩))
  ((try simp only [Exit.inBlock, Exit.then]); first | refine bodyPost_end (results_none rfl _ _ _) rfl ?_ | refine bodyPost_ret (results_none rfl _ _ _) rfl ?_)
  have hm7 : Mod (fun k => w0.heap.size + 1 ≤ k ∧ k ≤ w0.heap.size + 4) w6 ((w6.setCell ⟨w0.heap.size + 1, 1, none⟩ (.pointer (some ⟨t, 0, none⟩))).setCell ⟨w0.heap.size + 4, 0, none⟩ (.slice avl y.2.1.length cvl)) := (Mod.set (own := fun k => w0.heap.size + 1 ≤ k ∧ k ≤ w0.heap.size + 4) ⟨by simp, by simp⟩).trans (Mod.set ⟨by simp, by simp⟩)
  have HB7 := hid ((HB6.out.tape' (.pointer (some ⟨t, 0, none⟩))).recs' (.slice avl y.2.1.length cvl))
  have hoth : ∀ k, w0.heap.size + 5 ≤ k → ((w6.setCell ⟨w0.heap.size + 1, 1, none⟩ (.pointer (some ⟨t, 0, none⟩))).setCell ⟨w0.heap.size + 4, 0, none⟩ (.slice avl y.2.1.length cvl)).heap[k]? = w6.heap[k]? := fun k hk => (heap_setCell_other _ ⟨w0.heap.size + 4, 0, none⟩ k _ (by simp only; omega)).trans (heap_setCell_other _ ⟨w0.heap.size + 1, 1, none⟩ k _ (by simp only; omega))
  rw [HXX.out]
  refine ⟨rfl, HM6.out.trans hm7, HB7.out.below, fun _ => ⟨t, _, _, HB7.out, HTP.out.keep (hoth t (by omega)), HP6.out.keepTo (Nat.le_refl _) (fun k hk => hoth k (by omega)) hm7.size, ?_, hzt⟩⟩
  obtain ⟨vs, pb, hrr⟩ := HRC6.out
  exact ⟨vs, pb, hrr.keep (fun k hk _ => hoth k (by omega)) hm7.size⟩
end Go.Proofs.Ytoaeapnkefjpaaa

namespace Go.Proofs.Ytoaeapnkefjpaaa
open Go.RowKit
set_option linter.unusedVariables false
set_option linter.unusedSimpArgs false

/-- The pair at block q: its drum at p, its tape at t. -/
structure PairIn (w : World) (q t p n : Nat) (P : PS) : Prop where
  hq : w.heap[q]? = some (.cells #[.pointer (some ⟨p, 0, none⟩), .pointer (some ⟨t, 0, none⟩), I P.half, I P.sick] 114 (0, 0))
  tape : TapeIn w t p n P.T
  half : P.half ≤ 1
  sick : -9223372036854775808 ≤ P.sick ∧ P.sick ≤ 9223372036854775807
  lt : q < t
  n5 : 5 ≤ n
section
variable {w w' : World} {q t p n : Nat} {P : PS}
theorem PairIn.keep (h : PairIn w q t p n P) (hb : w'.heap[q]? = w.heap[q]?) (ht : w'.heap[t]? = w.heap[t]?) : PairIn w' q t p n P := ⟨hb.trans h.hq, h.tape.keep ht, h.half, h.sick, h.lt, h.n5⟩
theorem PairIn.below (h : PairIn w q t p n P) (hb : Below w.heap.size w w') : PairIn w' q t p n P := h.keep (hb.block q (Array.getElem?_eq_some_iff.1 h.hq).1) (hb.block t h.tape.lt)
theorem PairIn.c0 (h : PairIn w q t p n P) : w.cell? ⟨q, 0, none⟩ = some (.pointer (some ⟨p, 0, none⟩)) := by rw [cell_of_row w q _ _ _ _ h.hq]; rfl
theorem PairIn.c1 (h : PairIn w q t p n P) : w.cell? ⟨q, 1, none⟩ = some (.pointer (some ⟨t, 0, none⟩)) := by rw [cell_of_row w q _ _ _ _ h.hq]; rfl
theorem PairIn.c2 (h : PairIn w q t p n P) : w.cell? ⟨q, 2, none⟩ = some (I P.half) := by rw [cell_of_row w q _ _ _ _ h.hq]; rfl
theorem PairIn.c3 (h : PairIn w q t p n P) : w.cell? ⟨q, 3, none⟩ = some (I P.sick) := by rw [cell_of_row w q _ _ _ _ h.hq]; rfl
end
/-- What Open answers. -/
def POpened (w : World) (p n : Nat) (X : Int × List UInt8 × List (List UInt8) × PS) (e : Ending) (w' : World) : Prop :=
  (X.1 ≠ 0 ∧ e = .returned (.tuple #[.pointer none, .slice none 0 0, .slice none 0 0, I X.1]) ∧ Below w.heap.size w w') ∨
  (X.1 = 0 ∧ ∃ q t vb vl, e = .returned (.tuple #[.pointer (some ⟨q, 0, none⟩), vb, vl, I 0]) ∧ PairIn w' q t p n X.2.2.2 ∧ w.heap.size ≤ q ∧ Part w' (q + 1) vb X.2.1 ∧ Recs w' (t + 1) vl X.2.2.1 ∧ Below w.heap.size w w')
theorem results_tmp4 {fn : Func} {t u v x : Tmp} (h : fn.results = #[.tmp t, .tmp u, .tmp v, .tmp x]) (tmps : Array Value) (P : Program) (w : World) :
    (results fn tmps).run P w = .ok (.tuple #[tmps.getD t undef, tmps.getD u undef, tmps.getD v undef, tmps.getD x undef]) w := by
  simp [results, h]
set_option maxRecDepth 100000 in
theorem popen_nil (w : World) : Calls Try.prog 38 #[.pointer none] w fun e w' => e = .returned (.tuple #[.pointer none, .slice none 0 0, .slice none 0 0, I 2]) ∧ Below w.heap.size w w' := by
  go_enter Try.func38, Try.ntmps38
  go_wp2
  refine bodyPost_ret (results_tmp4 rfl _ _ _) rfl ?_
  exact ⟨rfl, (Below.refl _ _).alloc (Nat.le_refl _) _⟩
set_option maxRecDepth 100000 in
theorem popen_few (w : World) (p : Nat) (own : Nat → Prop) (D : DS) (hd : DrumAt w p own D) (h5 : D.safe.length < 5) : Calls Try.prog 38 #[.pointer (some ⟨p, 0, none⟩)] w fun e w' => e = .returned (.tuple #[.pointer none, .slice none 0 0, .slice none 0 0, I 1]) ∧ Below w.heap.size w w' := by
  have hpg := pages_any (w.alloc (.cells #[.pointer (some ⟨p, 0, none⟩)] 40)) p own D (hd.below ((Below.refl _ _).alloc (Nat.le_refl _) _))
  have hlt : (D.safe.length : Int) < 5 := by omega
  have HPG := hid hpg
  clear hpg hd h5
  generalize (D.safe.length : Int) = n at *
  go_enter Try.func38, Try.ntmps38
  go_wp2_with (first | (go_at_call 60; refine HPG.out.mono ?_; rintro e w1 ⟨rfl, rfl⟩))
  refine bodyPost_ret (results_tmp4 rfl _ _ _) rfl ?_
  exact ⟨rfl, (Below.refl _ _).alloc (Nat.le_refl _) _⟩
set_option maxRecDepth 100000 in
/-- Through Open's door. -/
theorem popen_door (w W : World) (p : Nat) (own : Nat → Prop) (D : DS) (hd : DrumAt w p own D) (h5 : 5 ≤ D.safe.length) (hst : PBorn w p 0 (.pointer none) (.slice none 0 0) (.slice none 0 0) W) (hz : W.heap.size = w.heap.size + 5) :
    Calls Try.prog 77 #[.func (.func 78) #[] #[.pointer (some ⟨w.heap.size, 0, none⟩), .pointer (some ⟨w.heap.size + 2, 0, none⟩), .pointer (some ⟨w.heap.size + 3, 0, none⟩), .pointer (some ⟨w.heap.size + 4, 0, none⟩)]] W fun e w' =>
      e = .returned (I (PS.open_ D).1) ∧ Below w.heap.size w w' ∧ ((PS.open_ D).1 = 0 → PEnd w (w.heap.size + 6) p D.safe.length (PS.open_ D) w') := by
  refine (guard_any W 78 _ (fun c w' => c = (PS.open_ D).1 ∧ Below w.heap.size w w' ∧ w.heap.size + 5 ≤ w'.heap.size ∧ (c = 0 → PEnd w (w.heap.size + 6) p D.safe.length (PS.open_ D) w')) (fun _ => rfl) (fun w1 hb hz1 => ?_)).mono ?_
  · have hb1 := hst.on hb
    cases ho : D.off with
    | true =>
      refine (popen_off w w1 p own D hb1 hd h5 ho).mono fun e w' h => ?_
      have he : (PS.open_ D).1 = 20 := by unfold PS.open_; rw [if_neg (by omega), ho, if_pos rfl]
      refine ⟨20, h.1, ⟨he.symm, hb1.below.trans (h.2.mono hb1.below.size), Nat.le_trans (by omega) h.2.size, fun h => by cases h⟩, h.2.block _ (by omega)⟩
    | false =>
      rw [PS.open_eq D h5 ho]
      refine (popen_on w w1 p own D hb1 hd h5 ho).mono fun e w' h => ?_
      obtain ⟨h1, h2, h3, h4⟩ := h
      rw [show w.heap.size + 6 = w1.heap.size by omega]
      exact ⟨_, h1, ⟨rfl, h3, Nat.le_trans (by omega) h2.size, h4⟩, h2.block _ (by omega) (by omega)⟩
  · rintro e w' ⟨c, w1, rfl, ⟨rfl, hb, hz1, hend⟩, hs, hm⟩
    refine ⟨rfl, hb.trans (hm.below hb.size (fun i hi e => by omega)), fun h0 => ?_⟩
    obtain ⟨t, vb, vl, h1, h2, h3, h4, h5'⟩ := hend h0
    have hoth : ∀ k, k ≠ w.heap.size + 5 → k < w1.heap.size → w'.heap[k]? = w1.heap[k]? := fun k hk hlt => hm.block k hlt (by omega)
    have hl := h1.lt
    refine ⟨t, vb, vl, ⟨(hoth _ (by omega) (by omega)).trans h1.g0, (hoth _ (by omega) (by omega)).trans h1.g1, (hoth _ (by omega) (by omega)).trans h1.g2, (hoth _ (by omega) (by omega)).trans h1.g3, (hoth _ (by omega) (by omega)).trans h1.g4, hb.trans (hm.below hb.size (fun i hi e => by omega))⟩, h2.keep (hoth t (by omega) h2.lt), ?_, ?_, h5'⟩
    · rcases h3 with h | ⟨h0, g, cap, A, hA, hv, ho⟩
      · exact .inl h
      · exact .inr ⟨h0, g, cap, A, hA, hv, own_mod ho (fun k hk => by have := own_lt ho k hk; exact hoth k (by omega) this.2)⟩
    · obtain ⟨vs, pb, hrr⟩ := h4
      exact ⟨vs, pb, hrr.keep (fun k hk hk2 => hoth k (by omega) hk2) hm.size⟩
theorem PBorn.start (w : World) (p : Nat) : PBorn w p 0 (.pointer none) (.slice none 0 0) (.slice none 0 0) (((((w.alloc (.cells #[.pointer (some ⟨p, 0, none⟩)] 40)).alloc (.cells #[.pointer (some ⟨p, 0, none⟩), .pointer none, I 0, I 0] 114)).alloc (.cells #[.pointer (some ⟨w.heap.size + 1, 0, none⟩)] 44)).alloc (.cells #[.slice none 0 0] 23)).alloc (.cells #[.slice none 0 0] 45)) := by
  refine ⟨?_, ?_, ?_, ?_, heap_alloc_at (by simp), ?_⟩
  · refine (Below.heap_alloc _ _ _ (by simp; omega)).trans ((Below.heap_alloc _ _ _ (by simp; omega)).trans ((Below.heap_alloc _ _ _ (by simp; omega)).trans ((Below.heap_alloc _ _ _ (by simp)).trans (heap_alloc_at rfl))))
  · refine (Below.heap_alloc _ _ _ (by simp)).trans ((Below.heap_alloc _ _ _ (by simp)).trans ((Below.heap_alloc _ _ _ (by simp)).trans (heap_alloc_at (by simp))))
  · refine (Below.heap_alloc _ _ _ (by simp)).trans ((Below.heap_alloc _ _ _ (by simp)).trans (heap_alloc_at (by simp)))
  · refine (Below.heap_alloc _ _ _ (by simp)).trans (heap_alloc_at (by simp))
  · exact (((((Below.refl _ _).alloc (Nat.le_refl _) _).alloc (by simp) _).alloc (by simp; omega) _).alloc (by simp; omega) _).alloc (by simp; omega) _
set_option maxRecDepth 100000 in
set_option maxHeartbeats 800000 in
theorem pair_open (w : World) (p : Nat) (own : Nat → Prop) (D : DS) (hd : DrumAt w p own D) (h5 : 5 ≤ D.safe.length) : Calls Try.prog 38 #[.pointer (some ⟨p, 0, none⟩)] w (POpened w p D.safe.length (PS.open_ D)) := by
  have hmf := closes
  have HST := hid (PBorn.start w p)
  have hpg := pages_any (w.alloc (.cells #[.pointer (some ⟨p, 0, none⟩)] 40)) p own D (hd.below ((Below.refl _ _).alloc (Nat.le_refl _) _))
  have hlt : ¬ (D.safe.length : Int) < 5 := by omega
  have hn := hd.ok.n2
  have HPG := hid hpg
  have HD := hid hd
  clear hpg hd
  go_enter Try.func38, Try.ntmps38
  go_wp2_with (first | (go_at_call 60; refine HPG.out.mono ?_; rintro e w1 ⟨rfl, rfl⟩))
  refine (popen_door w _ p own D HD.out h5 HST.out (by simp)).mono ?_
  rintro e w1 ⟨rfl, hb1, hend⟩
  have HB1 := hid hb1
  have HEN := hid hend
  clear hb1 hend HST hlt
  obtain ⟨X, hX⟩ : ∃ X, X = PS.open_ D := ⟨_, rfl⟩
  rw [← hX] at HEN ⊢
  have HX := hid hX
  clear hX
  by_cases h0 : X.1 = 0
  rotate_left
  · have hne : (X.1 != 0) = true := by simpa using h0
    go_wp2
    refine bodyPost_ret (results_tmp4 rfl _ _ _) rfl ?_
    rw [← HX.out]
    exact .inl ⟨h0, rfl, HB1.out⟩
  · have hne : (X.1 != 0) = false := by simpa using h0
    obtain ⟨t, vb, vl, e1, e2, e3, e4, e5⟩ := HEN.out h0
    have k2 : ∀ w', Ext w1.drew w' → w'.cell? ⟨w.heap.size + 2, 0, none⟩ = some (.pointer (some ⟨w.heap.size + 1, 0, none⟩)) := fun w' hh => (e1.on (Ext.trans _ _ _ (Ext.drew w1) hh)).c2
    have k3 : ∀ w', Ext w1.drew w' → w'.cell? ⟨w.heap.size + 3, 0, none⟩ = some vb := fun w' hh => (e1.on (Ext.trans _ _ _ (Ext.drew w1) hh)).c3
    have k4 : ∀ w', Ext w1.drew w' → w'.cell? ⟨w.heap.size + 4, 0, none⟩ = some vl := fun w' hh => (e1.on (Ext.trans _ _ _ (Ext.drew w1) hh)).c4
    have HE := hid (And.intro e1 (And.intro e2 (And.intro e3 (And.intro e4 e5))))
    clear e1 e2 e3 e4 e5 HEN
    go_wp2
    refine wp_region_order Ext [] [(0,0),(1,0),(2,0),(3,0),(4,0),(5,0),(6,0)] _ (by kernel_rfl) rfl Ext.refl Ext.trans (by kernel_rfl) (by simp only [pick, List.getElem?_toArray, List.getElem?_cons_zero, List.getElem?_cons_succ]; rfl) (fun c a d v w h => by cases d <;> exact h) ?_
    refine wpK_q (v := ?_) (a' := ?_) (by rfl) (fun w' hR => ?_) ?_ ?_
    rotate_left 2
    · go_simp; with_reducible rfl
    · simp only [Act.put, List.setIfInBounds_toArray, List.set_cons_zero, List.set_cons_succ]; rfl
    refine wpK_q (v := ?_) (a' := ?_) (by rfl) (fun w' hR => ?_) ?_ ?_
    rotate_left 2
    · go_simp; with_reducible rfl
    · simp only [Act.put, List.setIfInBounds_toArray, List.set_cons_zero, List.set_cons_succ]; rfl
    refine wpK_q (v := ?_) (a' := ?_) (by rfl) (fun w' hR => ?_) ?_ ?_
    rotate_left 2
    · go_simp; with_reducible rfl
    · simp only [Act.put, List.setIfInBounds_toArray, List.set_cons_zero, List.set_cons_succ]; rfl
    refine wpK_q (v := ?_) (a' := ?_) (by rfl) (fun w' hR => ?_) ?_ ?_
    rotate_left 2
    · go_simp; with_reducible rfl
    · simp only [Act.put, List.setIfInBounds_toArray, List.set_cons_zero, List.set_cons_succ]; rfl
    refine wpK_q (v := ?_) (a' := ?_) (by rfl) (fun w' hR => ?_) ?_ ?_
    rotate_left 2
    · go_simp; with_reducible rfl
    · simp only [Act.put, List.setIfInBounds_toArray, List.set_cons_zero, List.set_cons_succ]; rfl
    refine wpK_q (v := ?_) (a' := ?_) (by rfl) (fun w' hR => ?_) ?_ ?_
    rotate_left 2
    · go_simp; with_reducible rfl
    · simp only [Act.put, List.setIfInBounds_toArray, List.set_cons_zero, List.set_cons_succ]; rfl
    refine wpK_q (v := ?_) (a' := ?_) (by rfl) (fun w' hR => ?_) ?_ ?_
    rotate_left 2
    · go_simp; with_reducible rfl
    · simp only [Act.put, List.setIfInBounds_toArray, List.set_cons_zero, List.set_cons_succ]; rfl
    refine wpK_done ?_
    clear k2 k3 k4
    go_wp2
    refine bodyPost_ret (results_tmp4 rfl _ _ _) rfl ?_
    rw [← HX.out]
    obtain ⟨e1, e2, e3, e4, e5⟩ := HE.out
    refine .inr ⟨h0, w.heap.size + 1, t, vb, vl, rfl, ⟨?_, e2.keep rfl, ?_, ?_, by omega, h5⟩, by omega, ?_, ?_, HB1.out.trans ((Ext.drew w1).mono HB1.out.size)⟩
    · have hg := e1.g1
      have hs : X.2.2.2.sick = 0 := by rw [HX.out]; unfold PS.open_; simp only; split; rfl; split; rfl; split; rfl; split; rfl; split; rfl; rfl
      rw [hs]
      exact hg
    · rw [HX.out] at h0 ⊢
      revert h0
      unfold PS.open_
      simp only
      split; (intro h; cases h)
      split; (intro h; cases h)
      split; (intro h; cases h)
      split; (intro h; exact absurd h (by assumption))
      split; (intro h; exact absurd h (by assumption))
      intro _; show PS.root D ≤ 1; omega
    · have hs : X.2.2.2.sick = 0 := by rw [HX.out]; unfold PS.open_; simp only; split; rfl; split; rfl; split; rfl; split; rfl; split; rfl; rfl
      rw [hs]; omega
    · have := e3.below (Ext.drew w1)
      rcases this with h | ⟨h0', g, cap, A, hA, hv, ho⟩
      · exact .inl h
      · exact .inr ⟨h0', g, cap, A, hA, hv, own_anew ho (fun k hk => by have := (own_lt ho k hk).1; omega)⟩
    · obtain ⟨vs, pb, hrr⟩ := e4
      exact ⟨vs, pb, hrr.keep (fun k _ hk => rfl) (Nat.le_refl _)⟩
end Go.Proofs.Ytoaeapnkefjpaaa

namespace Go.Proofs.Ytoaeapnkefjpaaa
open Go.RowKit
set_option linter.unusedVariables false
set_option linter.unusedSimpArgs false

set_option maxRecDepth 100000 in
set_option maxHeartbeats 800000 in
theorem rframe_any (w : World) (k : UInt8) (c : Int) (hc : -9223372036854775808 ≤ c ∧ c ≤ 9223372036854775807) (v : Value) (r : List UInt8) (hv : Sees w v r) (hr : r.length ≤ 65536) : Calls Try.prog 95 #[B k, I c, v] w (Fresh w (k :: (TS.size3 r.length ++ Sum.be8 (Sum.add (Sum.of c (TS.size3 r.length)) r)) ++ r)) := by
  obtain ⟨ao, cap, rfl, -⟩ := hv.form0
  obtain ⟨Y, hY⟩ : ∃ Y, Y = k :: (TS.size3 r.length ++ Sum.be8 (Sum.add (Sum.of c (TS.size3 r.length)) r)) ++ r := ⟨_, rfl⟩
  rw [← hY]
  have HY := hid hY
  have HV := hid hv
  clear hv hY
  go_enter Try.func95, Try.ntmps95
  go_wp2_with fail
  have hcells : (#[Value.int .u8 ((r.length : Int) / 65536), Value.int .u8 ((r.length : Int) / 256 % 256), Value.int .u8 ((r.length : Int) % 256)] : Array Value) = ((TS.size3 r.length).map B).toArray := by
    have e1 : ((UInt8.ofNat (r.length / 65536 % 256)).toNat : Int) = (r.length : Int) / 65536 := by rw [UInt8.toNat_ofNat']; omega
    have e2 : ((UInt8.ofNat (r.length / 256 % 256)).toNat : Int) = (r.length : Int) / 256 % 256 := by rw [UInt8.toNat_ofNat']; omega
    have e3 : ((UInt8.ofNat (r.length % 256)).toNat : Int) = (r.length : Int) % 256 := by rw [UInt8.toNat_ofNat']; omega
    unfold TS.size3 B
    rw [List.map_cons, List.map_cons, List.map_cons, List.map_nil, e1, e2, e3]
  rw [hcells]
  have hS := Sees.lit w (TS.size3 r.length) (0, 0) (by show 3 ≤ maxLen; unfold maxLen; omega)
  have hb : Below w.heap.size w (w.alloc (.cells ((TS.size3 r.length).map B).toArray 5)) := (Below.refl _ _).alloc (Nat.le_refl _) _
  have HVa := hid (HV.out.below hb)
  have HS : Hid (Sees (w.alloc (.cells ((TS.size3 r.length).map B).toArray 5)) (.slice (some ⟨w.heap.size, 0, none⟩) 3 3) (TS.size3 r.length)) := hid hS
  have HB := hid hb
  generalize w.alloc (.cells ((TS.size3 r.length).map B).toArray 5) = wa at *
  clear hcells hS hb
  have r1 : 0 ≤ Sum.of c (TS.size3 r.length) ∧ Sum.of c (TS.size3 r.length) < 18446744073709551616 := by
    have := Sum.add_range (Sum.start c) (TS.size3 r.length)
    unfold Sum.of; omega
  have r2 : 0 ≤ Sum.add (Sum.of c (TS.size3 r.length)) r ∧ Sum.add (Sum.of c (TS.size3 r.length)) r < 18446744073709551616 := by
    have := Sum.add_range (Sum.of c (TS.size3 r.length)) r
    omega
  refine (rof_any c hc.1 hc.2 _ (TS.size3 r.length) _ HS.out).mono ?_
  rintro e w1 ⟨rfl, rfl⟩
  go_wp2_with (first | (go_at_call 27; refine (radd_any _ r1.1 r1.2 _ r _ HVa.out).mono ?_; rintro e w2 ⟨rfl, rfl⟩))
  have hbB : Below wa.heap.size wa (wa.alloc (.cells #[B k] 5)) := (Below.refl wa.heap.size wa).alloc (Nat.le_refl _) _
  have HVB := hid (HVa.out.below hbB)
  have HSB := hid (HS.out.below hbB)
  have HO0 := hid (own_born wa 5 (B k))
  have HBB := hid hbB
  clear hbB
  generalize wa.alloc (.cells #[B k] 5) = wB at *
  obtain ⟨F, hF⟩ : ∃ F, F = TS.size3 r.length ++ Sum.be8 (Sum.add (Sum.of c (TS.size3 r.length)) r) := ⟨_, rfl⟩
  have hFl : F.length = 11 := by rw [hF, List.length_append, Sum.be8_length]; rfl
  refine (rput_any _ (TS.size3 r.length) _ r2.1 r2.2 wB HSB.out (by show 3 ≤ 1099511627776; omega)).mono ?_
  rw [← hF]
  rintro e w1 ⟨v1, rfl, ho1, hb1⟩
  rw [hFl] at ho1
  obtain ⟨av1, cv1, rfl⟩ := own_form ho1
  have HS1 := hid (own_sees' ho1 hFl)
  have HO1 := hid (own_below HO0.out hb1)
  have HB1 := hid (Ext.trans _ _ _ HBB.out hb1)
  have HF := hid hF
  have HFL := hid hFl
  clear ho1 hb1 HVB HSB HO0 HBB hF hFl r1 r2
  have hs1 : wa.heap.size ≤ w1.heap.size := HB1.out.size
  go_wp2_with (at_builtin; refine wpList_app rfl (.tmp 29) (.tmp 32) 23 rfl wa.heap.size 5 (.int .u8 0) 1 1 Try.underlying23 info5 rfl (by decide) 1 [B k] 11 (F.map B) HO1.out ?src ?h63 ?hb hs1 ?_)
  case src => have := HS1.out.src; rw [HFL.out] at this; exact this
  case h63 => decide
  case hb => omega
  intro v2 w2 hown hgrow hat
  obtain ⟨av2, cv2, rfl⟩ := own_form hown
  have HO2 := hid hown
  have HB2 := hid (HB1.out.grown hgrow hs1 (fun k hk => by have := (own_lt HO1.out k hk).1; omega))
  have HV2 := hid (HVa.out.below HB2.out)
  clear hown hgrow hat HO1 HB1 HS1
  have hs2 : wa.heap.size ≤ w2.heap.size := HB2.out.size
  go_wp2_with (at_builtin; refine wpList_app rfl (.tmp 33) (.tmp 34) 23 rfl wa.heap.size 5 (.int .u8 0) 1 1 Try.underlying23 info5 rfl (by decide) 12 (B k :: F.map B) r.length (r.map B) HO2.out ?src ?h63 ?hb hs2 ?_)
  case src => exact HV2.out.src
  case h63 => unfold maxLen; omega
  case hb => omega
  intro v3 w3 hown hgrow hat
  have HO3 := hid hown
  have HB3 := hid (HB2.out.grown hgrow hs2 (fun k hk => by have := (own_lt HO2.out k hk).1; omega))
  clear hown hgrow hat HO2 HB2 HV2
  go_wp2_with fail
  go_ret
  refine ⟨v3, rfl, own_anew (own_len HO3.out ?_ ?_) (fun k hk => Nat.le_trans HB.out.size (own_lt HO3.out k hk).1), HB.out.trans (HB3.out.mono HB.out.size)⟩
  · rw [HY.out, ← HF.out, List.cons_append, List.length_cons, List.length_append, HFL.out]; omega
  · rw [HY.out, ← HF.out]; simp
theorem rframe_of (w : World) (k : UInt8) (c : Nat) (hc : c ≤ 1000000000) (v : Value) (r : List UInt8) (hv : Sees w v r) (hr : r.length ≤ 65536) : Calls Try.prog 95 #[B k, I c, v] w (Fresh w (k :: TS.framed c r ++ r)) := rframe_any w k c (by omega) v r hv hr
end Go.Proofs.Ytoaeapnkefjpaaa

namespace Go.Proofs.Ytoaeapnkefjpaaa
open Go.RowKit
set_option linter.unusedVariables false
set_option linter.unusedSimpArgs false

theorem TS.doIt_len (D : DS) (T : TS) (r : List UInt8) : (TS.doIt D T r).2.1.safe.length = D.safe.length := by
  rw [TS.doIt_eq]
  have h1 := TS.layR_len D T T.pos (TS.body T r)
  generalize TS.layR D T T.pos (TS.body T r) = X1 at *
  obtain ⟨e1, D1⟩ := X1
  simp only at h1 ⊢
  have h2 := DS.Flush_len D1
  generalize D1.Flush = X2 at *
  obtain ⟨e2, D2⟩ := X2
  have h3 := DS.write_len D2 (T.lo + T.pos / 256 : Nat) (TS.marked D2 T)
  simp only at h2 ⊢
  generalize D2.write (T.lo + T.pos / 256 : Nat) (TS.marked D2 T) = X3 at *
  obtain ⟨e3, D3⟩ := X3
  have h4 := DS.Flush_len D3
  simp only at h3 ⊢
  generalize D3.Flush = X4 at *
  obtain ⟨e4, D4⟩ := X4
  simp only at h4 ⊢
  split
  · exact h1
  · split
    · exact h2.trans h1
    · split
      · exact h3.trans (h2.trans h1)
      · split
        · exact h4.trans (h3.trans (h2.trans h1))
        · exact h4.trans (h3.trans (h2.trans h1))
theorem TS.append_len (D : DS) (T : TS) (r : List UInt8) : (TS.append D T r).2.1.safe.length = D.safe.length := by
  unfold TS.append
  split
  · rfl
  · split
    · rfl
    · split
      · rfl
      · exact TS.doIt_len D T r
theorem TS.doIt_waits (D : DS) (T : TS) (r : List UInt8) (hr : r.length ≤ 65536) : (TS.doIt D T r).2.1.waits.length ≤ D.waits.length + 400 := by
  rw [TS.doIt_eq]
  have h1 := TS.layR_waits D T T.pos (TS.body T r) (by have := TS.body_len T r; omega)
  generalize TS.layR D T T.pos (TS.body T r) = X1 at *
  obtain ⟨e1, D1⟩ := X1
  simp only at h1 ⊢
  have h2 := DS.Flush_waits D1
  generalize D1.Flush = X2 at *
  obtain ⟨e2, D2⟩ := X2
  have h3 := DS.write_waits' D2 (T.lo + T.pos / 256 : Nat) (TS.marked D2 T)
  simp only at h2 ⊢
  generalize D2.write (T.lo + T.pos / 256 : Nat) (TS.marked D2 T) = X3 at *
  obtain ⟨e3, D3⟩ := X3
  have h4 := DS.Flush_waits D3
  simp only at h3 ⊢
  generalize D3.Flush = X4 at *
  obtain ⟨e4, D4⟩ := X4
  simp only at h4 ⊢
  split
  · simp only; omega
  · split
    · simp only; omega
    · split
      · simp only; omega
      · split <;> (simp only; omega)
theorem TS.append_waits (D : DS) (T : TS) (r : List UInt8) : (TS.append D T r).2.1.waits.length ≤ D.waits.length + 400 := by
  unfold TS.append
  split
  · simp
  · split
    · simp
    · split
      · simp
      · exact TS.doIt_waits D T r (by omega)
/-- A drum and a tape over it, newer than w0. -/
structure TSt (w0 : World) (own : Nat → Prop) (p t : Nat) (T : TS) (D : DS) (w : World) : Prop where
  drum : St w0 own p D w
  tape : TapeIn w t p D.safe.length T
  nt : ¬ own t
  tf : w0.heap.size ≤ t
theorem TSt.on {w0 w w' : World} {own : Nat → Prop} {p t : Nat} {T : TS} {D : DS} (h : TSt w0 own p t T D w) (hb : Below w.heap.size w w') : TSt w0 own p t T D w' := ⟨h.drum.on hb, h.tape.below hb, h.nt, h.tf⟩
theorem tst_open {w0 w : World} {own : Nat → Prop} {p : Nat} {D : DS} (h : St w0 own p D w) (lo hi : Int) (hl : -9223372036854775808 ≤ lo ∧ lo ≤ 9223372036854775807) (hh : -9223372036854775808 ≤ hi ∧ hi ≤ 9223372036854775807) :
    Calls Try.prog 65 #[.pointer (some ⟨p, 0, none⟩), I lo, I hi] w fun e w' =>
      ((TS.opn D lo hi).1 ≠ 0 ∧ e = .returned (.tuple #[.pointer none, .slice none 0 0, I (TS.opn D lo hi).1]) ∧ Below w.heap.size w w') ∨
      ((TS.opn D lo hi).1 = 0 ∧ ∃ t v, e = .returned (.tuple #[.pointer (some ⟨t, 0, none⟩), v, I 0]) ∧ TSt w0 own p t ⟨lo.toNat, hi.toNat, (TS.opn D lo hi).2.2.1, (TS.opn D lo hi).2.2.2, 0⟩ D w' ∧ w.heap.size ≤ t ∧ Recs w' (t + 1) v (TS.opn D lo hi).2.1 ∧ Below w.heap.size w w') := by
  refine (open_any w p own D lo hi h.at' hl hh).mono fun e w' hx => ?_
  rcases hx with ⟨h1, h2, h3⟩ | ⟨h1, t, v, h2, h3, h4, h5, h6⟩
  · exact .inl ⟨h1, h2, h3⟩
  · exact .inr ⟨h1, t, v, h2, ⟨h.on h6, h4, fun e => by have := h.at'.lt t e; omega, Nat.le_trans h.below.size h3⟩, h3, h5, h6⟩
theorem tst_append {w0 w : World} {own : Nat → Prop} {p t : Nat} {T : TS} {D : DS} (h : TSt w0 own p t T D w) {v : Value} {r : List UInt8} (hv : Sees w v r) (hN : D.waits.length ≤ 800000000) :
    Calls Try.prog 66 #[.pointer (some ⟨t, 0, none⟩), v] w fun e w' => e = .returned (I (TS.append D T r).1) ∧ ∃ own', TSt w0 own' p t (TS.append D T r).2.2 (TS.append D T r).2.1 w' ∧ (∀ k, own' k → own k ∨ w.heap.size ≤ k) ∧ Mod (fun k => own k ∨ k = t) w w' := by
  refine (tappend_any w t p own T D v r h.tape h.drum.at' h.nt hv hN).mono fun e w' hx => ?_
  obtain ⟨h1, h2, own', h3, h4, h5⟩ := hx
  have htl := h.tape.lt
  refine ⟨h1, own', ⟨⟨h3, fun k hk => ?_, h.drum.below.trans (h5.below h.drum.below.size (fun i hi ho => ?_))⟩, by rw [TS.append_len]; exact h2, fun e => ?_, h.tf⟩, h4, h5⟩
  · rcases h4 k hk with h' | h'
    · exact h.drum.fresh k h'
    · exact Nat.le_trans h.drum.below.size h'
  · rcases ho with ho | ho
    · have := h.drum.fresh i ho; omega
    · have := h.tf; omega
  · rcases h4 t e with h' | h'
    · exact h.nt h'
    · omega
namespace Wk4
def D0 : DS := DS.new 3
def T0 : TS := ⟨1, 3, 0, 0, 0⟩
def hi2 : List UInt8 := [104, 105]
def X1 : Int × DS × TS := TS.append D0 T0 hi2
def D1 : DS := X1.2.1
def T1 : TS := X1.2.2
def P1 : List UInt8 := (D1.read 1).2
set_option maxRecDepth 100000
theorem opn0 : TS.opn D0 1 3 = (0, [], 0, 0) := by kernel_rfl
theorem x1 : X1.1 = 0 := by kernel_rfl
theorem ops1 : D1.ops = 4 := by kernel_rfl
theorem rd1 : (D1.read 1).1 = 0 := by kernel_rfl
theorem len1 : P1.length = 256 := by kernel_rfl
theorem frame1 : P1.take 14 = 1 :: TS.framed 0 hi2 ++ hi2 := by kernel_rfl
end Wk4
end Go.Proofs.Ytoaeapnkefjpaaa

namespace Go.Proofs.Ytoaeapnkefjpaaa
open Go.RowKit
set_option linter.unusedVariables false
set_option linter.unusedSimpArgs false

/-- What a call on a pair leaves: its answer, the pair, its drum. -/
def PDone (w : World) (q t p n : Nat) (own : Nat → Prop) (X : Int × DS × PS) (e : Ending) (w' : World) : Prop :=
  e = .returned (I X.1) ∧ PairIn w' q t p n X.2.2 ∧ ∃ own', DrumAt w' p own' X.2.1 ∧ (∀ k, own' k → own k ∨ w.heap.size ≤ k) ∧ Mod (fun k => own k ∨ k = t) w w'
theorem pair_append_nil (w : World) (v : Value) : Calls Try.prog 40 #[.pointer none, v] w fun e w' => e = .returned (I 2) ∧ w = w' := by
  go_enter Try.func40, Try.ntmps40
  go_wp2
  go_ret
  exact ⟨rfl, rfl⟩
theorem pair_count_nil (w : World) : Calls Try.prog 54 #[.pointer none] w fun e w' => e = .returned (I 0) ∧ w = w' := by
  go_enter Try.func54, Try.ntmps54
  go_wp2
  go_ret
  exact ⟨rfl, rfl⟩
theorem pair_count (w : World) (q t p n : Nat) (P : PS) (h : PairIn w q t p n P) : Calls Try.prog 54 #[.pointer (some ⟨q, 0, none⟩)] w fun e w' => e = .returned (I P.T.count) ∧ w = w' := by
  have c1 := h.c1
  have hc := tcount_any w t p n P.T h.tape
  have HC := hid hc
  clear hc h
  go_enter Try.func54, Try.ntmps54
  go_wp2_with (first | (go_at_call 74; refine HC.out.mono ?_; rintro e w1 ⟨rfl, rfl⟩))
  go_ret
  exact ⟨rfl, rfl⟩
set_option maxRecDepth 100000 in
theorem pair_append (w : World) (q t p : Nat) (own : Nat → Prop) (P : PS) (D : DS) (v : Value) (r : List UInt8) (h : PairIn w q t p D.safe.length P) (hd : DrumAt w p own D) (hq : ¬ own q) (ht : ¬ own t) (hv : Sees w v r) (hN : D.waits.length ≤ 800000000) :
    Calls Try.prog 40 #[.pointer (some ⟨q, 0, none⟩), v] w (PDone w q t p D.safe.length own (PS.append D P r)) := by
  have c1 := h.c1
  have c3 := h.c3
  have hap := tappend_any w t p own P.T D v r h.tape hd ht hv hN
  obtain ⟨X, hX⟩ : ∃ X, X = PS.append D P r := ⟨_, rfl⟩
  rw [← hX]
  unfold PS.append at hX
  have HX := hid hX
  have H := hid h
  have HAP := hid hap
  have HD := hid hd
  have HQ := hid hq
  clear hX h hap hd ht hv hq
  by_cases hs : P.sick = 0
  · have hb : (P.sick != 0) = false := by simpa using hs
    have HXX := hid (show X = _ from by rw [HX.out, if_neg (by simpa using hs)])
    clear HX hs
    go_enter Try.func40, Try.ntmps40
    go_wp2_with (first | (go_at_call 66; refine HAP.out.mono ?_; rintro e w1 ⟨rfl, ht1, own', hd1, ho1, hm1⟩; have HZ := hid (And.intro ht1 (And.intro hd1 (And.intro ho1 hm1))); clear ht1 hd1 ho1 hm1))
    go_ret
    obtain ⟨ht1, hd1, ho1, hm1⟩ := HZ.out
    have hql := (Array.getElem?_eq_some_iff.1 H.out.hq).1
    have hlt := H.out.lt
    rw [HXX.out]
    refine ⟨rfl, ⟨(hm1.block q hql (fun e => ?_)).trans H.out.hq, ht1, H.out.half, H.out.sick, H.out.lt, H.out.n5⟩, own', hd1, ho1, hm1⟩
    rcases e with e | e
    · exact HQ.out e
    · omega
  · have hb : (P.sick != 0) = true := by simpa using hs
    have HXX := hid (show X = _ from by rw [HX.out, if_pos (by simpa using hs)])
    clear HX
    go_enter Try.func40, Try.ntmps40
    go_wp2
    go_ret
    rw [HXX.out]
    exact ⟨rfl, H.out, own, HD.out, fun k hk => .inl hk, Mod.refl _ _⟩
end Go.Proofs.Ytoaeapnkefjpaaa

namespace Go.Proofs.Ytoaeapnkefjpaaa
open Go.RowKit
set_option linter.unusedVariables false
set_option linter.unusedSimpArgs false

/-- Save's own blocks. -/
structure SIn (z q : Nat) (vb : Value) (hf a k : Nat) (ba bn : Nat) (W : World) : Prop where
  g0 : W.heap[z]? = some (.cells #[.pointer (some ⟨q, 0, none⟩)] 44 (0, 0))
  g1 : W.heap[z + 1]? = some (.cells #[vb] 23 (0, 0))
  g2 : W.heap[z + 2]? = some (.cells #[I hf] 3 (0, 0))
  ga : W.heap[ba]? = some (.cells #[I a] 3 (0, 0))
  gn : W.heap[bn]? = some (.cells #[I k] 3 (0, 0))
  la : z + 3 ≤ ba ∧ ba ≤ z + 4
  ln : z + 3 ≤ bn ∧ bn ≤ z + 4
section
variable {z q : Nat} {vb : Value} {hf a k ba bn : Nat} {W W' : World}
theorem SIn.keep (h : SIn z q vb hf a k ba bn W) (hk : ∀ j, z ≤ j → j ≤ z + 4 → W'.heap[j]? = W.heap[j]?) : SIn z q vb hf a k ba bn W' :=
  ⟨(hk _ (by omega) (by omega)).trans h.g0, (hk _ (by omega) (by omega)).trans h.g1, (hk _ (by omega) (by omega)).trans h.g2, (hk _ (by have := h.la; omega) (by have := h.la; omega)).trans h.ga, (hk _ (by have := h.ln; omega) (by have := h.ln; omega)).trans h.gn, h.la, h.ln⟩
theorem SIn.c0 (h : SIn z q vb hf a k ba bn W) : W.cell? ⟨z, 0, none⟩ = some (.pointer (some ⟨q, 0, none⟩)) := by rw [cell_of_row W _ _ _ _ _ h.g0]; rfl
theorem SIn.c1 (h : SIn z q vb hf a k ba bn W) : W.cell? ⟨z + 1, 0, none⟩ = some vb := by rw [cell_of_row W _ _ _ _ _ h.g1]; rfl
theorem SIn.c2 (h : SIn z q vb hf a k ba bn W) : W.cell? ⟨z + 2, 0, none⟩ = some (I hf) := by rw [cell_of_row W _ _ _ _ _ h.g2]; rfl
theorem SIn.ca (h : SIn z q vb hf a k ba bn W) : W.cell? ⟨ba, 0, none⟩ = some (I a) := by rw [cell_of_row W _ _ _ _ _ h.ga]; rfl
theorem SIn.cn (h : SIn z q vb hf a k ba bn W) : W.cell? ⟨bn, 0, none⟩ = some (I k) := by rw [cell_of_row W _ _ _ _ _ h.gn]; rfl
end
/-- The state within Save's inner function: begun at W0, over drum blocks own0; the drum's newer blocks lie from bz on. -/
structure SAt (z : Nat) (W0 : World) (q t p n : Nat) (own0 : Nat → Prop) (P : PS) (vb : Value) (hf a k ba bn bz : Nat) (D : DS) (W : World) : Prop where
  sin : SIn z q vb hf a k ba bn W
  pair : PairIn W q t p n P
  drum : ∃ own, DrumAt W p own D ∧ ∀ j, own j → own0 j ∨ bz ≤ j
  mod : Mod own0 W0 W
  lt0 : ∀ j, own0 j → j < z
  ql : q < z
  tl : t < z
  nq : ¬ own0 q
  nt : ¬ own0 t
  zl : z + 5 ≤ W0.heap.size
  bl : W0.heap.size ≤ bz
  len : D.safe.length = n
section
variable {z : Nat} {W0 : World} {q t p n : Nat} {own0 : Nat → Prop} {P : PS} {vb : Value} {hf a k ba bn bz : Nat} {D D' : DS} {W W' : World}
theorem SAt.size (h : SAt z W0 q t p n own0 P vb hf a k ba bn bz D W) : z + 5 ≤ W.heap.size := Nat.le_trans h.zl h.mod.size
theorem SAt.on (h : SAt z W0 q t p n own0 P vb hf a k ba bn bz D W) (hb : Below W.heap.size W W') : SAt z W0 q t p n own0 P vb hf a k ba bn bz D W' := by
  obtain ⟨own, h1, h2⟩ := h.drum
  have hs := h.size
  exact ⟨h.sin.keep (fun j _ hj => hb.block j (by omega)), h.pair.below hb, ⟨own, h1.below hb, h2⟩, h.mod.trans (Mod.of_below _ hb), h.lt0, h.ql, h.tl, h.nq, h.nt, h.zl, h.bl, h.len⟩
theorem SAt.step (h : SAt z W0 q t p n own0 P vb hf a k ba bn bz D W) {own own' : Nat → Prop} (ho : ∀ j, own j → own0 j ∨ bz ≤ j) (hd : DrumAt W' p own' D') (ho' : ∀ j, own' j → own j ∨ W.heap.size ≤ j) (hm : Mod own W W') (hl : D'.safe.length = n) (hz : bz ≤ W.heap.size) : SAt z W0 q t p n own0 P vb hf a k ba bn bz D' W' := by
  have hs := h.size
  have hzl := h.zl
  have hbl := h.bl
  have hql := h.ql
  have htl := h.tl
  have hno : ∀ j, j < bz → ¬ own0 j → ¬ own j := fun j hj h0 ho2 => by rcases ho j ho2 with h3 | h3; exact h0 h3; omega
  have hin : ∀ j, z ≤ j → j ≤ z + 4 → ¬ own j := fun j h1 h2 => hno j (by omega) (fun h0 => by have := h.lt0 j h0; omega)
  refine ⟨h.sin.keep (fun j h1 h2 => hm.block j (by omega) (hin j h1 h2)), h.pair.keep (hm.block q (by omega) (hno q (by omega) h.nq)) (hm.block t (by omega) (hno t (by omega) h.nt)), ⟨own', hd, fun j hj => ?_⟩, ?_, h.lt0, h.ql, h.tl, h.nq, h.nt, h.zl, h.bl, hl⟩
  · rcases ho' j hj with h3 | h3
    · exact ho j h3
    · exact .inr (Nat.le_trans hz h3)
  · refine h.mod.then hm (fun i hi ho2 => ?_)
    rcases ho i ho2 with h3 | h3
    · exact h3
    · omega
end
/-- All the pages' bytes. -/
def PS.all (b : List UInt8) : List UInt8 := PS.framed b ++ List.replicate (PS.takes b.length * 256 - 12 - b.length) 0
theorem PS.all_len (b : List UInt8) : (PS.all b).length = PS.takes b.length * 256 := by
  unfold PS.all
  rw [List.length_append, PS.framed_len, List.length_replicate]
  unfold PS.takes
  omega
theorem PS.paged_eq (b : List UInt8) : PS.paged b = TS.pagesOf (PS.all b) (PS.takes b.length) := rfl
theorem PS.paged_len (b : List UInt8) : (PS.paged b).length = PS.takes b.length := by rw [PS.paged_eq]; unfold TS.pagesOf; simp
theorem PS.paged_at (b : List UInt8) {j : Nat} (hj : j < PS.takes b.length) : (PS.paged b)[j]? = some (((PS.all b).drop (256 * j)).take 256) := by
  rw [PS.paged_eq]; unfold TS.pagesOf
  rw [List.getElem?_map, List.getElem?_range hj]
  rfl
theorem PS.page_len (b : List UInt8) {j : Nat} (hj : j < PS.takes b.length) : (((PS.all b).drop (256 * j)).take 256).length = 256 := by
  rw [List.length_take, List.length_drop, PS.all_len]; omega
/-- What is there when Save's inner function has answered. -/
def SEnd (z : Nat) (W0 : World) (q t p n : Nat) (own0 : Nat → Prop) (P : PS) (X : Int × DS × PS) (W : World) : Prop :=
  ∃ t' own', (t' = t ∨ W0.heap.size ≤ t') ∧ PairIn W q t' p n { X.2.2 with sick := P.sick } ∧ DrumAt W p own' X.2.1 ∧ (∀ j, own' j → own0 j ∨ W0.heap.size ≤ j) ∧ ¬ own' t' ∧ Mod (fun j => own0 j ∨ j = q) W0 W
theorem SAt.bad {z : Nat} {W0 : World} {q t p n : Nat} {own0 : Nat → Prop} {P : PS} {vb : Value} {hf a k ba bn bz : Nat} {D : DS} {W : World} (h : SAt z W0 q t p n own0 P vb hf a k ba bn bz D W) (c : Int) : SEnd z W0 q t p n own0 P (c, D, { P with sick := c }) W := by
  obtain ⟨own, hd, ho⟩ := h.drum
  have h1 := h.zl
  have h2 := h.bl
  have h3 := h.tl
  refine ⟨t, own, .inl rfl, h.pair, hd, fun j hj => (ho j hj).imp id (Nat.le_trans h.bl), fun ht => ?_, h.mod.mono (fun i _ hi => .inl hi)⟩
  rcases ho t ht with h4 | h4
  · exact h.nt h4
  · omega
namespace PS
variable {D D1 D2 D3 D4 D5 : DS} {a hf : Nat} {b : List UInt8} {c : Int}
theorem lay_1 (h1 : TS.wr D a (paged b) = (c, D1)) (hc : c ≠ 0) : lay D a hf b = (c, D1) := by
  unfold lay; simp only [h1]; rw [if_pos hc]
theorem lay_2 (h1 : TS.wr D a (paged b) = (0, D1)) (h2 : D1.write (a + takes b.length : Nat) (List.replicate 256 0) = (c, D2)) (hc : c ≠ 0) : lay D a hf b = (c, D2) := by
  unfold lay; simp only [h1, h2]; rw [if_neg (by simp), if_pos hc]
theorem lay_3 (h1 : TS.wr D a (paged b) = (0, D1)) (h2 : D1.write (a + takes b.length : Nat) (List.replicate 256 0) = (0, D2)) (h3 : D2.Flush = (c, D3)) (hc : c ≠ 0) : lay D a hf b = (c, D3) := by
  unfold lay; simp only [h1, h2, h3]; rw [if_neg (by simp), if_neg (by simp), if_pos hc]
theorem lay_4 (h1 : TS.wr D a (paged b) = (0, D1)) (h2 : D1.write (a + takes b.length : Nat) (List.replicate 256 0) = (0, D2)) (h3 : D2.Flush = (0, D3)) (h4 : D3.write 0 (rootPage hf) = (c, D4)) (hc : c ≠ 0) : lay D a hf b = (c, D4) := by
  unfold lay; simp only [h1, h2, h3, h4]; rw [if_neg (by simp), if_neg (by simp), if_neg (by simp), if_pos hc]
theorem lay_5 (h1 : TS.wr D a (paged b) = (0, D1)) (h2 : D1.write (a + takes b.length : Nat) (List.replicate 256 0) = (0, D2)) (h3 : D2.Flush = (0, D3)) (h4 : D3.write 0 (rootPage hf) = (0, D4)) (h5 : D4.Flush = (c, D5)) : lay D a hf b = (c, D5) := by
  unfold lay; simp only [h1, h2, h3, h4, h5]; rw [if_neg (by simp), if_neg (by simp), if_neg (by simp), if_neg (by simp)]
end PS
end Go.Proofs.Ytoaeapnkefjpaaa

namespace Go.Proofs.Ytoaeapnkefjpaaa
open Go.RowKit
set_option linter.unusedVariables false
set_option linter.unusedSimpArgs false

set_option maxRecDepth 100000 in
set_option maxHeartbeats 3200000 in
theorem psave_in (z : Nat) (W : World) (q t p : Nat) (own0 : Nat → Prop) (P : PS) (vb : Value) (b : List UInt8) (ba bn : Nat) (D : DS) (X : Int × DS × PS)
    (hs : SIn z q vb (1 - P.half) (1 + (1 - P.half) * PS.hp D.safe.length) (PS.takes b.length) ba bn W) (hp : PairIn W q t p D.safe.length P) (hd : DrumAt W p own0 D) (hlt : ∀ j, own0 j → j < z) (hq : q < z) (ht : t < z) (hnq : ¬ own0 q) (hnt : ¬ own0 t) (hz : z + 5 ≤ W.heap.size)
    (hv : Sees W vb b) (hK : PS.takes b.length < PS.hp D.safe.length) (hP0 : P.sick = 0) (hX : X = PS.save D P b) (hN : D.waits.length ≤ 700000000) :
    Calls Try.prog 88 #[.pointer (some ⟨z + 1, 0, none⟩), .pointer (some ⟨bn, 0, none⟩), .pointer (some ⟨z, 0, none⟩), .pointer (some ⟨ba, 0, none⟩), .pointer (some ⟨z + 2, 0, none⟩)] W fun e w' => e = endOr5 X.1 (.tuple #[]) ∧ SEnd z W q t p D.safe.length own0 P X w' := by
  have hn := hd.ok.n2
  have hok := hd.ok
  obtain ⟨ao, co, rfl, -⟩ := hv.form0
  obtain ⟨K, hKe⟩ : ∃ K, K = PS.takes b.length := ⟨_, rfl⟩
  obtain ⟨Q, hQe⟩ : ∃ Q, Q = PS.hp D.safe.length := ⟨_, rfl⟩
  obtain ⟨hf, hhf⟩ : ∃ hf, hf = 1 - P.half := ⟨_, rfl⟩
  have hh1 : hf ≤ 1 := by omega
  rw [← hhf] at hs
  obtain ⟨A0, hA0⟩ : ∃ A0, A0 = 1 + hf * PS.hp D.safe.length := ⟨_, rfl⟩
  have hAQ : A0 + Q ≤ D.safe.length ∧ 1 ≤ A0 := by
    have h1 : hf * PS.hp D.safe.length ≤ 1 * PS.hp D.safe.length := Nat.mul_le_mul_right _ hh1
    have h2 : 2 * PS.hp D.safe.length + 1 ≤ D.safe.length := by have := hp.n5; unfold PS.hp; omega
    omega
  have hKb : b.length + 12 ≤ 256 * K ∧ 256 * K ≤ b.length + 267 ∧ 1 ≤ K := by rw [hKe]; unfold PS.takes; omega
  unfold PS.save at hX
  rw [if_neg (by omega), if_neg (by simpa using hP0)] at hX
  rw [← hKe, ← hA0] at hs
  simp only [← hhf] at hX
  rw [← hA0, ← hQe, ← hKe] at hX
  have HHF := hid hhf
  clear hhf
  rw [← hKe, ← hQe] at hK
  have hfr := pframed_any W.drew (.slice ao b.length co) b hv.drew (by omega)
  have k1 : ∀ w', Low W.heap.size W.drew w' → w'.cell? ⟨z + 1, 0, none⟩ = some (.slice ao b.length co) := fun w' hh => (hs.keep (fun j _ hj => (hh.b.block j (by omega)))).c1
  have kn : ∀ w', Low W.heap.size W.drew w' → w'.cell? ⟨bn, 0, none⟩ = some (I K) := fun w' hh => (hs.keep (fun j _ hj => (hh.b.block j (by omega)))).cn
  have HS := hid hs
  have HPR := hid hp
  have HD := hid hd
  have HV := hid hv
  have HX := hid hX
  have HFR := hid hfr
  have HLT := hid hlt
  have HNQ := hid hnq
  have HNT := hid hnt
  have HOK := hid hok
  have HKE := hid hKe
  have HQE := hid hQe
  have HA0 := hid hA0
  have HP0 := hid hP0
  clear hs hp hd hv hX hfr hlt hnq hnt hok hKe hQe hA0 hP0
  have hw1 : IntKind.i64.wrap ((K : Int) * 256) = (K : Int) * 256 := IntWalk.i64_in _ (by omega)
  have hw2 : IntKind.i64.wrap ((K : Int) * 256 - 12) = (K : Int) * 256 - 12 := IntWalk.i64_in _ (by omega)
  obtain ⟨kz, hkz⟩ : ∃ kz, kz = K * 256 - 12 - b.length := ⟨_, rfl⟩
  have hw3 : IntKind.i64.wrap ((K : Int) * 256 - 12 - (b.length : Int)) = ((kz : Nat) : Int) := by rw [IntWalk.i64_in _ (by omega)]; omega
  have HKZ := hid hkz
  have hkzb : kz ≤ 267 := by omega
  clear hkz
  go_enter Try.func88, Try.ntmps88
  go_wp2
  refine wp_region_order (Low W.heap.size) [] [(0,0),(2,0),(3,0),(4,0),(5,0),(6,0),(7,0),(1,1),(8,1),(9,0)] _ (by kernel_rfl) rfl Low.refl Low.trans (by kernel_rfl) (by simp only [pick, List.getElem?_toArray, List.getElem?_cons_zero, List.getElem?_cons_succ]; rfl) (fun c a d v w h => by cases d <;> exact h) ?_
  refine wpK_q (v := ?_) (a' := ?_) (by rfl) (fun w' hR => ?_) ?_ ?_
  rotate_left 2
  · go_simp; with_reducible rfl
  · simp only [Act.put, List.setIfInBounds_toArray, List.set_cons_zero, List.set_cons_succ]; rfl
  refine wpK_q (v := ?_) (a' := ?_) (by rfl) (fun w' hR => ?_) ?_ ?_
  rotate_left 2
  · go_simp; with_reducible rfl
  · simp only [Act.put, List.setIfInBounds_toArray, List.set_cons_zero, List.set_cons_succ]; rfl
  refine wpK_q (v := ?_) (a' := ?_) (by rfl) (fun w' hR => ?_) ?_ ?_
  rotate_left 2
  · go_simp; with_reducible rfl
  · simp only [Act.put, List.setIfInBounds_toArray, List.set_cons_zero, List.set_cons_succ]; rfl
  refine wpK_q (v := ?_) (a' := ?_) (by rfl) (fun w' hR => ?_) ?_ ?_
  rotate_left 2
  · go_simp; with_reducible rfl
  · simp only [Act.put, List.setIfInBounds_toArray, List.set_cons_zero, List.set_cons_succ]; rfl
  refine wpK_q (v := ?_) (a' := ?_) (by rfl) (fun w' hR => ?_) ?_ ?_
  rotate_left 2
  · go_simp; with_reducible rfl
  · simp only [Act.put, List.setIfInBounds_toArray, List.set_cons_zero, List.set_cons_succ]; rfl
  refine wpK_q (v := ?_) (a' := ?_) (by rfl) (fun w' hR => ?_) ?_ ?_
  rotate_left 2
  · go_simp; with_reducible rfl
  · simp only [Act.put, List.setIfInBounds_toArray, List.set_cons_zero, List.set_cons_succ]; rfl
  refine wpK_q (v := ?_) (a' := ?_) (by rfl) (fun w' hR => ?_) ?_ ?_
  rotate_left 2
  · go_simp; with_reducible rfl
  · simp only [Act.put, List.setIfInBounds_toArray, List.set_cons_zero, List.set_cons_succ]; rfl
  refine wpK_call Try.func89 (by kernel_rfl) rfl rfl (by rfl) #[.slice ao b.length co] (by simp only [List.map_toArray, List.map_cons, List.map_nil]; rfl) ?_
  refine HFR.out.mono ?_
  rintro e w1 ⟨v1, rfl, ho1, hb1⟩
  refine ⟨_, rfl, fun _ => ⟨hb1⟩, ?_⟩
  have hfl := PS.framed_len b
  obtain ⟨v2, w2, hr2, ho2, hg2, hat2⟩ := run_app_zeros w1 W.drew.heap.size 23 v1 _ _ ho1 kz (by omega) (by omega) hb1.size
  have hx2 : Below W.drew.heap.size W.drew w2 := hb1.grown hg2 hb1.size (fun k hk => (own_lt ho1 k hk).1)
  have hx3 : Below W.heap.size w1 w2 := (Below.refl _ _).grown hg2 hb1.size (fun k hk => (own_lt ho1 k hk).1)
  refine wpK_v (by rfl) (exec_append rfl _ (by simp only [List.map_toArray, List.map_cons, List.map_nil]; rfl) hr2) (fun _ => ⟨hx3⟩) (by simp only [Act.put, List.setIfInBounds_toArray, List.set_cons_zero, List.set_cons_succ]; rfl) ?_
  refine wpK_q (v := ?_) (a' := ?_) (by rfl) (fun w' hR => ?_) ?_ ?_
  rotate_left 2
  · go_simp; with_reducible rfl
  · simp only [Act.put, List.setIfInBounds_toArray, List.set_cons_zero, List.set_cons_succ]; rfl
  refine wpK_done ?_
  clear k1 kn
  have HW2 : Hid (Below W.heap.size W w2) := hid (Ext.trans _ _ _ (Ext.drew W) hx2)
  have hall : PS.framed b ++ List.replicate kz 0 = PS.all b := by unfold PS.all; rw [HKZ.out, ← HKE.out]
  have hall2 : w2.ownsRow W.heap.size 5 1 v2 (K * 256) ((PS.all b).map B) := own_len ho2 (by rw [hfl]; have := HKZ.out; omega) (by rw [← hall, List.map_append, List.map_replicate])
  have hal : (PS.all b).length = K * 256 := by rw [PS.all_len, ← HKE.out]
  obtain ⟨gA, cA, rfl, h1A, h2A, h3A⟩ := own_slice hall2 (by omega)
  unfold maxLen at h2A
  have HALL := hid hall2
  have HAL := hid hal
  have hbz : W.heap.size ≤ w2.heap.size := HW2.out.size
  have HAT : Hid (SAt z W q t p D.safe.length own0 P (.slice ao b.length co) hf A0 K ba bn w2.heap.size D w2) := hid ⟨HS.out.keep (fun j _ hj => HW2.out.block j (by omega)), HPR.out.below HW2.out, ⟨own0, HD.out.below HW2.out, fun j hj => .inl hj⟩, Mod.of_below _ HW2.out, HLT.out, hq, ht, HNQ.out, HNT.out, hz, hbz, rfl⟩
  clear hr2 ho2 hg2 hat2 hx2 hx3 ho1 hb1 hfl hall hall2 hal HS HPR HFR HV hw1 hw2 hw3 HKZ hkzb
  obtain ⟨bz, hbz2⟩ : ∃ bz, bz = w2.heap.size := ⟨_, rfl⟩
  rw [← hbz2] at HAT
  have hgb : W.heap.size ≤ gA ∧ gA < bz := by rw [hbz2]; exact h3A
  have hb2 : bz ≤ w2.heap.size := Nat.le_of_eq hbz2
  have cn := HAT.out.sin.cn
  clear hbz2 h3A
  go_wp2
  go_loopw [21] (fun i wr => ∃ (j : Nat) (Dj : DS), j ≤ K ∧ i = I j ∧ Hid (TS.wr D A0 ((PS.paged b).take j) = (0, Dj)) ∧ Hid (SAt z W q t p D.safe.length own0 P (.slice ao b.length co) hf A0 K ba bn bz Dj wr) ∧ Hid (wr.ownsRow W.heap.size 5 1 (.slice (some ⟨gA, 0, none⟩) (K * 256) cA) (K * 256) ((PS.all b).map B)) ∧ bz ≤ wr.heap.size) (fun i _ => K - (intOf i).toNat)
  case atStart => exact ⟨0, D, by omega, rfl, hid rfl, HAT, HALL, hb2⟩
  case round =>
    obtain ⟨j, Dj, hj, rfl, HWR, HSJ, HAJ, hbj⟩ := hrel
    clear cn HAT HALL hb2
    have c0 := HSJ.out.sin.c0
    have ca := HSJ.out.sin.ca
    by_cases hlt : j < K
    · obtain ⟨own, hdj, hoj⟩ := HSJ.out.drum
      have f1 : decide ((j : Int) < (K : Int)) = true := decide_eq_true (by omega)
      obtain ⟨lo, hlo⟩ : ∃ lo, lo = j * 256 := ⟨_, rfl⟩
      obtain ⟨hi, hhi⟩ : ∃ hi, hi = (j + 1) * 256 := ⟨_, rfl⟩
      have w33 : IntKind.i64.wrap ((j : Int) * 256) = (lo : Int) := by rw [IntWalk.i64_in _ (by omega)]; omega
      have w35 : IntKind.i64.wrap ((j : Int) + 1) = (j : Int) + 1 := IntWalk.i64_in _ (by omega)
      have w36 : IntKind.i64.wrap (((j : Int) + 1) * 256) = (hi : Int) := by rw [IntWalk.i64_in _ (by omega)]; omega
      have w30 : IntKind.i64.wrap ((A0 : Int) + (j : Int)) = (A0 : Int) + (j : Int) := IntWalk.i64_in _ (by omega)
      have b1 : (lo : Int) ≤ (hi : Int) := by omega
      have b2 : hi ≤ cA := by omega
      have b2i : (hi : Int) ≤ (cA : Int) := by omega
      have b3 : hi - lo = 256 := by omega
      have b4 : ¬ cA = lo := by omega
      have b5 : lo ≤ hi := by omega
      obtain ⟨pg, hpg⟩ : ∃ pg, pg = ((PS.all b).drop (256 * j)).take 256 := ⟨_, rfl⟩
      have hpl : pg.length = 256 := by rw [hpg]; exact PS.page_len b (by rw [← HKE.out]; exact hlt)
      have hsee := (own_sees' HAJ.out HAL.out).sl (lo := lo) (hi := hi) b5 (by omega)
      have hsl : sl (some ⟨gA, 0, none⟩) cA lo hi = .slice (some ⟨gA, lo, none⟩) 256 (cA - lo) := by unfold sl; rw [if_neg (by omega), b3, Option.map_some, add_off, Nat.zero_add]
      have hpe : ((PS.all b).take hi).drop lo = pg := by rw [hpg, List.drop_take, b3, hlo, Nat.mul_comm]
      rw [hsl, hpe] at hsee
      have hpat : (PS.paged b)[j]? = some pg := by rw [hpg]; exact PS.paged_at b (by rw [← HKE.out]; exact hlt)
      have hNj : Dj.waits.length ≤ 1000000000 := by
        have h1 := TS.wr_waits ((PS.paged b).take j) D A0
        rw [HWR.out] at h1
        have h2 : ((PS.paged b).take j).length ≤ j := List.length_take_le _ _
        simp only at h1; omega
      have hng : ∀ k, (Value.slice (some ⟨gA, lo, none⟩) 256 (cA - lo)).ownBlock = some k → ¬ own k := fun k hk ho => by
        obtain rfl : gA = k := Option.some.inj hk
        rcases hoj gA ho with h3 | h3
        · have := HLT.out gA h3; omega
        · omega
      have hwr := write_any wr.drew p own Dj ((A0 + j : Nat) : Int) _ pg (hdj.below (Ext.drew wr)) hsee.drew (by omega) hng hNj
      have hsn : TS.wr D A0 ((PS.paged b).take (j + 1)) = Dj.write ((A0 + j : Nat) : Int) pg := by
        have hl : ((PS.paged b).take j).length = j := by rw [List.length_take, PS.paged_len, ← HKE.out]; omega
        have := TS.wr_snoc D A0 ((PS.paged b).take j) pg HWR.out
        rw [hl] at this
        rw [← this, take_snoc hpat]
      have hlenw := DS.write_len Dj ((A0 + j : Nat) : Int) pg
      have ecast : ((A0 + j : Nat) : Int) = (A0 : Int) + (j : Int) := by omega
      rw [ecast] at hwr hsn hlenw
      have hdj0 := HSJ.out.pair.c0
      have k0 : ∀ w', Ext wr.drew w' → w'.cell? ⟨z, 0, none⟩ = some (.pointer (some ⟨q, 0, none⟩)) := fun w' hh => (HSJ.out.on (Ext.trans _ _ _ (Ext.drew wr) hh)).sin.c0
      have ka : ∀ w', Ext wr.drew w' → w'.cell? ⟨ba, 0, none⟩ = some (I A0) := fun w' hh => (HSJ.out.on (Ext.trans _ _ _ (Ext.drew wr) hh)).sin.ca
      have kp : ∀ w', Ext wr.drew w' → w'.cell? ⟨q, 0, none⟩ = some (.pointer (some ⟨p, 0, none⟩)) := fun w' hh => (HSJ.out.on (Ext.trans _ _ _ (Ext.drew wr) hh)).pair.c0
      have HWA := hid hwr
      have HSN := hid hsn
      have HLW := hid hlenw
      have HOJ := hid hoj
      obtain ⟨R, hR⟩ : ∃ R, R = Dj.write ((A0 : Int) + (j : Int)) pg := ⟨_, rfl⟩
      rw [← hR] at HWA HSN HLW
      obtain ⟨c, D1⟩ := R
      have hcd := DS.write_code Dj ((A0 : Int) + (j : Int)) pg
      rw [← hR] at hcd
      have HCD := hid hcd
      have HLO := hid hlo
      have HHI := hid hhi
      clear hwr hsn hlenw hoj hR hcd hlo hhi hsl hpe hpat hNj hng hsee hpl ecast hdj0 hdj hpg c0 ca
      go_wp2
      by_cases hc0 : c = 0
      · subst hc0
        refine wp_region_order Ext [14,15] [(0,0),(1,0),(2,0),(3,0),(4,0),(5,0),(6,0),(7,0),(8,0),(9,0),(10,0),(11,0),(12,0),(13,0),(14,2),(15,2)] _ (by kernel_rfl) rfl Ext.refl Ext.trans (by kernel_rfl) (by simp only [pick, List.getElem?_toArray, List.getElem?_cons_zero, List.getElem?_cons_succ]; rfl) (fun c a d v w h => by cases d <;> exact h) ?_
        refine wpK_q (v := ?_) (a' := ?_) (by rfl) (fun w' hR => ?_) ?_ ?_
        rotate_left 2
        · go_simp; with_reducible rfl
        · simp only [Act.put, List.setIfInBounds_toArray, List.set_cons_zero, List.set_cons_succ]; rfl
        refine wpK_q (v := ?_) (a' := ?_) (by rfl) (fun w' hR => ?_) ?_ ?_
        rotate_left 2
        · go_simp; with_reducible rfl
        · simp only [Act.put, List.setIfInBounds_toArray, List.set_cons_zero, List.set_cons_succ]; rfl
        refine wpK_q (v := ?_) (a' := ?_) (by rfl) (fun w' hR => ?_) ?_ ?_
        rotate_left 2
        · go_simp; with_reducible rfl
        · simp only [Act.put, List.setIfInBounds_toArray, List.set_cons_zero, List.set_cons_succ]; rfl
        refine wpK_q (v := ?_) (a' := ?_) (by rfl) (fun w' hR => ?_) ?_ ?_
        rotate_left 2
        · go_simp; with_reducible rfl
        · simp only [Act.put, List.setIfInBounds_toArray, List.set_cons_zero, List.set_cons_succ]; rfl
        refine wpK_q (v := ?_) (a' := ?_) (by rfl) (fun w' hR => ?_) ?_ ?_
        rotate_left 2
        · go_simp; with_reducible rfl
        · simp only [Act.put, List.setIfInBounds_toArray, List.set_cons_zero, List.set_cons_succ]; rfl
        refine wpK_q (v := ?_) (a' := ?_) (by rfl) (fun w' hR => ?_) ?_ ?_
        rotate_left 2
        · go_simp; with_reducible rfl
        · simp only [Act.put, List.setIfInBounds_toArray, List.set_cons_zero, List.set_cons_succ]; rfl
        refine wpK_q (v := ?_) (a' := ?_) (by rfl) (fun w' hR => ?_) ?_ ?_
        rotate_left 2
        · go_simp; with_reducible rfl
        · simp only [Act.put, List.setIfInBounds_toArray, List.set_cons_zero, List.set_cons_succ]; rfl
        refine wpK_q (v := ?_) (a' := ?_) (by rfl) (fun w' hR => ?_) ?_ ?_
        rotate_left 2
        · go_simp; with_reducible rfl
        · simp only [Act.put, List.setIfInBounds_toArray, List.set_cons_zero, List.set_cons_succ]; rfl
        refine wpK_q (v := ?_) (a' := ?_) (by rfl) (fun w' hR => ?_) ?_ ?_
        rotate_left 2
        · go_simp; with_reducible rfl
        · simp only [Act.put, List.setIfInBounds_toArray, List.set_cons_zero, List.set_cons_succ]; rfl
        refine wpK_q (v := ?_) (a' := ?_) (by rfl) (fun w' hR => ?_) ?_ ?_
        rotate_left 2
        · go_simp; with_reducible rfl
        · simp only [Act.put, List.setIfInBounds_toArray, List.set_cons_zero, List.set_cons_succ]; rfl
        refine wpK_q (v := ?_) (a' := ?_) (by rfl) (fun w' hR => ?_) ?_ ?_
        rotate_left 2
        · go_simp; with_reducible rfl
        · simp only [Act.put, List.setIfInBounds_toArray, List.set_cons_zero, List.set_cons_succ]; rfl
        refine wpK_q (v := ?_) (a' := ?_) (by rfl) (fun w' hR => ?_) ?_ ?_
        rotate_left 2
        · go_simp; with_reducible rfl
        · simp only [Act.put, List.setIfInBounds_toArray, List.set_cons_zero, List.set_cons_succ]; rfl
        refine wpK_q (v := ?_) (a' := ?_) (by rfl) (fun w' hR => ?_) ?_ ?_
        rotate_left 2
        · go_simp; with_reducible rfl
        · simp only [Act.put, List.setIfInBounds_toArray, List.set_cons_zero, List.set_cons_succ]; rfl
        refine wpK_q (v := ?_) (a' := ?_) (by rfl) (fun w' hR => ?_) ?_ ?_
        rotate_left 2
        · go_simp; with_reducible rfl
        · simp only [Act.put, List.setIfInBounds_toArray, List.set_cons_zero, List.set_cons_succ]; rfl
        refine wpK_call Try.func50 (by kernel_rfl) rfl rfl (by rfl) #[.pointer (some ⟨p, 0, none⟩), I ((A0 : Int) + (j : Int)), .slice (some ⟨gA, lo, none⟩) 256 (cA - lo)] (by simp only [List.map_toArray, List.map_cons, List.map_nil]; rfl) ?_
        refine HWA.out.mono ?_
        rintro e w5 ⟨rfl, own', hd5, ho5, hm5⟩
        refine ⟨_, rfl, (fun h => by cases h), ?_⟩
        refine wpK_call Try.func80 (by kernel_rfl) rfl rfl (by rfl) #[I 0] (by simp only [List.map_toArray, List.map_cons, List.map_nil]; rfl) ?_
        refine (fail_ok _).mono ?_
        rintro e w6 ⟨rfl, rfl⟩
        refine ⟨_, rfl, (fun h => by cases h), ?_⟩
        refine wpK_done ?_
        have hbj2 : bz ≤ wr.drew.heap.size := hbj
        have HS5 := hid ((HSJ.out.on (Ext.drew wr)).step HOJ.out hd5 ho5 hm5 (HLW.out.trans HSJ.out.len) hbj2)
        have HA5 := hid (own_mod (own_below HAJ.out (Ext.drew wr)) (fun k hk => hm5.block k (own_lt (own_below HAJ.out (Ext.drew wr)) k hk).2 (fun ho => by
          obtain rfl : gA = k := Option.some.inj hk
          rcases HOJ.out gA ho with h3 | h3
          · have := HLT.out gA h3; omega
          · omega)))
        have hb5 : bz ≤ w5.heap.size := Nat.le_trans hbj2 hm5.size
        clear hd5 ho5 hm5 k0 ka kp
        go_wp2
        go_roundw
        case rel => exact ⟨j + 1, D1, by omega, by go_num, HSN, HS5, HA5, hb5⟩
        case measure => simp [intOf]; omega
      · skip
        refine wp_region_order Ext [14,15] [(0,0),(1,0),(2,0),(3,0),(4,0),(5,0),(6,0),(7,0),(8,0),(9,0),(10,0),(11,0),(12,0),(13,0),(14,2),(15,2)] _ (by kernel_rfl) rfl Ext.refl Ext.trans (by kernel_rfl) (by simp only [pick, List.getElem?_toArray, List.getElem?_cons_zero, List.getElem?_cons_succ]; rfl) (fun c a d v w h => by cases d <;> exact h) ?_
        refine wpK_q (v := ?_) (a' := ?_) (by rfl) (fun w' hR => ?_) ?_ ?_
        rotate_left 2
        · go_simp; with_reducible rfl
        · simp only [Act.put, List.setIfInBounds_toArray, List.set_cons_zero, List.set_cons_succ]; rfl
        refine wpK_q (v := ?_) (a' := ?_) (by rfl) (fun w' hR => ?_) ?_ ?_
        rotate_left 2
        · go_simp; with_reducible rfl
        · simp only [Act.put, List.setIfInBounds_toArray, List.set_cons_zero, List.set_cons_succ]; rfl
        refine wpK_q (v := ?_) (a' := ?_) (by rfl) (fun w' hR => ?_) ?_ ?_
        rotate_left 2
        · go_simp; with_reducible rfl
        · simp only [Act.put, List.setIfInBounds_toArray, List.set_cons_zero, List.set_cons_succ]; rfl
        refine wpK_q (v := ?_) (a' := ?_) (by rfl) (fun w' hR => ?_) ?_ ?_
        rotate_left 2
        · go_simp; with_reducible rfl
        · simp only [Act.put, List.setIfInBounds_toArray, List.set_cons_zero, List.set_cons_succ]; rfl
        refine wpK_q (v := ?_) (a' := ?_) (by rfl) (fun w' hR => ?_) ?_ ?_
        rotate_left 2
        · go_simp; with_reducible rfl
        · simp only [Act.put, List.setIfInBounds_toArray, List.set_cons_zero, List.set_cons_succ]; rfl
        refine wpK_q (v := ?_) (a' := ?_) (by rfl) (fun w' hR => ?_) ?_ ?_
        rotate_left 2
        · go_simp; with_reducible rfl
        · simp only [Act.put, List.setIfInBounds_toArray, List.set_cons_zero, List.set_cons_succ]; rfl
        refine wpK_q (v := ?_) (a' := ?_) (by rfl) (fun w' hR => ?_) ?_ ?_
        rotate_left 2
        · go_simp; with_reducible rfl
        · simp only [Act.put, List.setIfInBounds_toArray, List.set_cons_zero, List.set_cons_succ]; rfl
        refine wpK_q (v := ?_) (a' := ?_) (by rfl) (fun w' hR => ?_) ?_ ?_
        rotate_left 2
        · go_simp; with_reducible rfl
        · simp only [Act.put, List.setIfInBounds_toArray, List.set_cons_zero, List.set_cons_succ]; rfl
        refine wpK_q (v := ?_) (a' := ?_) (by rfl) (fun w' hR => ?_) ?_ ?_
        rotate_left 2
        · go_simp; with_reducible rfl
        · simp only [Act.put, List.setIfInBounds_toArray, List.set_cons_zero, List.set_cons_succ]; rfl
        refine wpK_q (v := ?_) (a' := ?_) (by rfl) (fun w' hR => ?_) ?_ ?_
        rotate_left 2
        · go_simp; with_reducible rfl
        · simp only [Act.put, List.setIfInBounds_toArray, List.set_cons_zero, List.set_cons_succ]; rfl
        refine wpK_q (v := ?_) (a' := ?_) (by rfl) (fun w' hR => ?_) ?_ ?_
        rotate_left 2
        · go_simp; with_reducible rfl
        · simp only [Act.put, List.setIfInBounds_toArray, List.set_cons_zero, List.set_cons_succ]; rfl
        refine wpK_q (v := ?_) (a' := ?_) (by rfl) (fun w' hR => ?_) ?_ ?_
        rotate_left 2
        · go_simp; with_reducible rfl
        · simp only [Act.put, List.setIfInBounds_toArray, List.set_cons_zero, List.set_cons_succ]; rfl
        refine wpK_q (v := ?_) (a' := ?_) (by rfl) (fun w' hR => ?_) ?_ ?_
        rotate_left 2
        · go_simp; with_reducible rfl
        · simp only [Act.put, List.setIfInBounds_toArray, List.set_cons_zero, List.set_cons_succ]; rfl
        refine wpK_q (v := ?_) (a' := ?_) (by rfl) (fun w' hR => ?_) ?_ ?_
        rotate_left 2
        · go_simp; with_reducible rfl
        · simp only [Act.put, List.setIfInBounds_toArray, List.set_cons_zero, List.set_cons_succ]; rfl
        refine wpK_call Try.func50 (by kernel_rfl) rfl rfl (by rfl) #[.pointer (some ⟨p, 0, none⟩), I ((A0 : Int) + (j : Int)), .slice (some ⟨gA, lo, none⟩) 256 (cA - lo)] (by simp only [List.map_toArray, List.map_cons, List.map_nil]; rfl) ?_
        refine HWA.out.mono ?_
        rintro e w5 ⟨rfl, own', hd5, ho5, hm5⟩
        refine ⟨_, rfl, (fun h => by cases h), ?_⟩
        refine wpK_callp Try.func80 (by kernel_rfl) rfl rfl (by rfl) #[I c] (by simp only [List.map_toArray, List.map_cons, List.map_nil]; rfl) ?_
        refine (fail_no c (by simpa using hc0) _).mono ?_
        rintro e w6 ⟨rfl, rfl⟩
        refine ⟨_, rfl, ?_⟩
        have hst : TS.wr D A0 (PS.paged b) = (c, D1) := by
          have := TS.wr_stop D A0 ((PS.paged b).take (j + 1)) ((PS.paged b).drop (j + 1)) (by rw [HSN.out]; exact hc0)
          rw [List.take_append_drop] at this
          rw [this, HSN.out]
        have hXX : X = (c, D1, { P with sick := c }) := by
          rw [HX.out, PS.lay_1 hst hc0, if_pos hc0]
        have hS5 := (HSJ.out.on (Ext.drew wr)).step HOJ.out hd5 ho5 hm5 (HLW.out.trans HSJ.out.len) hbj
        refine And.intro rfl ?_
        rw [hXX]
        exact ⟨(endOr5_no hc0 _).symm, hS5.bad c⟩
    · have f1 : decide ((j : Int) < (K : Int)) = false := decide_eq_false (by omega)
      have hW1 : TS.wr D A0 (PS.paged b) = (0, Dj) := by
        have := HWR.out
        rwa [List.take_of_length_le (by rw [PS.paged_len, ← HKE.out]; omega)] at this
      have HW1 := hid hW1
      have hNj : Dj.waits.length ≤ 700010000 := by
        have h1 := TS.wr_waits (PS.paged b) D A0
        rw [hW1, PS.paged_len, ← HKE.out] at h1
        simp only at h1; omega
      clear hW1 HWR c0 ca hj
      have HNJ := hid hNj
      obtain ⟨ow, hdk, hok'⟩ := HSJ.out.drum
      have hcl := tclear_any wr.drew p ow Dj ((A0 + K : Nat) : Int) (hdk.below (Ext.drew wr)) (by omega) (by omega)
      have hl2 := DS.write_len Dj ((A0 + K : Nat) : Int) page0
      have hn2 := DS.write_waits' Dj ((A0 + K : Nat) : Int) page0
      obtain ⟨R2, hR2⟩ : ∃ R2, R2 = Dj.write ((A0 + K : Nat) : Int) page0 := ⟨_, rfl⟩
      rw [← hR2] at hcl hl2 hn2
      obtain ⟨c2, D2⟩ := R2
      have HR2 : Hid (Dj.write (A0 + PS.takes b.length : Nat) (List.replicate 256 0) = (c2, D2)) := hid (by rw [← HKE.out]; exact hR2.symm)
      have ecast : ((A0 + K : Nat) : Int) = (A0 : Int) + (K : Int) := by omega
      rw [ecast] at hcl
      have w30 : IntKind.i64.wrap ((A0 : Int) + (K : Int)) = (A0 : Int) + (K : Int) := IntWalk.i64_in _ (by omega)
      have HCL := hid hcl
      have HL2 := hid (hl2.trans HSJ.out.len)
      have HN2 := hid hn2
      have HOK2 := hid hok'
      have k0 : ∀ w', Ext wr.drew w' → w'.cell? ⟨z, 0, none⟩ = some (.pointer (some ⟨q, 0, none⟩)) := fun w' hh => (HSJ.out.on (Ext.trans _ _ _ (Ext.drew wr) hh)).sin.c0
      have ka : ∀ w', Ext wr.drew w' → w'.cell? ⟨ba, 0, none⟩ = some (I A0) := fun w' hh => (HSJ.out.on (Ext.trans _ _ _ (Ext.drew wr) hh)).sin.ca
      have kn : ∀ w', Ext wr.drew w' → w'.cell? ⟨bn, 0, none⟩ = some (I K) := fun w' hh => (HSJ.out.on (Ext.trans _ _ _ (Ext.drew wr) hh)).sin.cn
      have kp : ∀ w', Ext wr.drew w' → w'.cell? ⟨q, 0, none⟩ = some (.pointer (some ⟨p, 0, none⟩)) := fun w' hh => (HSJ.out.on (Ext.trans _ _ _ (Ext.drew wr) hh)).pair.c0
      clear hcl hl2 hn2 hR2 hdk hok' hNj ecast
      go_wp2
      by_cases hc2 : c2 = 0
      rotate_left
      · skip
        refine wp_region_order Ext [7,8] [(0,0),(1,0),(2,0),(3,0),(4,0),(5,0),(6,0),(7,2),(8,2)] _ (by kernel_rfl) rfl Ext.refl Ext.trans (by kernel_rfl) (by simp only [pick, List.getElem?_toArray, List.getElem?_cons_zero, List.getElem?_cons_succ]; rfl) (fun c a d v w h => by cases d <;> exact h) ?_
        refine wpK_q (v := ?_) (a' := ?_) (by rfl) (fun w' hR => ?_) ?_ ?_
        rotate_left 2
        · go_simp; with_reducible rfl
        · simp only [Act.put, List.setIfInBounds_toArray, List.set_cons_zero, List.set_cons_succ]; rfl
        refine wpK_q (v := ?_) (a' := ?_) (by rfl) (fun w' hR => ?_) ?_ ?_
        rotate_left 2
        · go_simp; with_reducible rfl
        · simp only [Act.put, List.setIfInBounds_toArray, List.set_cons_zero, List.set_cons_succ]; rfl
        refine wpK_q (v := ?_) (a' := ?_) (by rfl) (fun w' hR => ?_) ?_ ?_
        rotate_left 2
        · go_simp; with_reducible rfl
        · simp only [Act.put, List.setIfInBounds_toArray, List.set_cons_zero, List.set_cons_succ]; rfl
        refine wpK_q (v := ?_) (a' := ?_) (by rfl) (fun w' hR => ?_) ?_ ?_
        rotate_left 2
        · go_simp; with_reducible rfl
        · simp only [Act.put, List.setIfInBounds_toArray, List.set_cons_zero, List.set_cons_succ]; rfl
        refine wpK_q (v := ?_) (a' := ?_) (by rfl) (fun w' hR => ?_) ?_ ?_
        rotate_left 2
        · go_simp; with_reducible rfl
        · simp only [Act.put, List.setIfInBounds_toArray, List.set_cons_zero, List.set_cons_succ]; rfl
        refine wpK_q (v := ?_) (a' := ?_) (by rfl) (fun w' hR => ?_) ?_ ?_
        rotate_left 2
        · go_simp; with_reducible rfl
        · simp only [Act.put, List.setIfInBounds_toArray, List.set_cons_zero, List.set_cons_succ]; rfl
        refine wpK_q (v := ?_) (a' := ?_) (by rfl) (fun w' hR => ?_) ?_ ?_
        rotate_left 2
        · go_simp; with_reducible rfl
        · simp only [Act.put, List.setIfInBounds_toArray, List.set_cons_zero, List.set_cons_succ]; rfl
        refine wpK_call Try.func68 (by kernel_rfl) rfl rfl (by rfl) #[.pointer (some ⟨p, 0, none⟩), I ((A0 : Int) + (K : Int))] (by simp only [List.map_toArray, List.map_cons, List.map_nil]; rfl) ?_
        refine HCL.out.mono ?_
        rintro e w5 ⟨rfl, own', hd5, ho5, hm5⟩
        refine ⟨_, rfl, (fun h => by cases h), ?_⟩
        refine wpK_callp Try.func80 (by kernel_rfl) rfl rfl (by rfl) #[I c2] (by simp only [List.map_toArray, List.map_cons, List.map_nil]; rfl) ?_
        refine (fail_no c2 (by simpa using hc2) _).mono ?_
        rintro e w6 ⟨rfl, rfl⟩
        refine ⟨_, rfl, ?_⟩
        have hXX : X = (c2, D2, { P with sick := c2 }) := by
          rw [HX.out, PS.lay_2 HW1.out HR2.out hc2, if_pos hc2]
        have hS5 := (HSJ.out.on (Ext.drew wr)).step HOK2.out hd5 ho5 hm5 HL2.out hbj
        refine And.intro rfl ?_
        rw [hXX]
        exact ⟨(endOr5_no hc2 _).symm, hS5.bad c2⟩
      subst hc2
      refine wp_region_order Ext [7,8] [(0,0),(1,0),(2,0),(3,0),(4,0),(5,0),(6,0),(7,2),(8,2)] _ (by kernel_rfl) rfl Ext.refl Ext.trans (by kernel_rfl) (by simp only [pick, List.getElem?_toArray, List.getElem?_cons_zero, List.getElem?_cons_succ]; rfl) (fun c a d v w h => by cases d <;> exact h) ?_
      refine wpK_q (v := ?_) (a' := ?_) (by rfl) (fun w' hR => ?_) ?_ ?_
      rotate_left 2
      · go_simp; with_reducible rfl
      · simp only [Act.put, List.setIfInBounds_toArray, List.set_cons_zero, List.set_cons_succ]; rfl
      refine wpK_q (v := ?_) (a' := ?_) (by rfl) (fun w' hR => ?_) ?_ ?_
      rotate_left 2
      · go_simp; with_reducible rfl
      · simp only [Act.put, List.setIfInBounds_toArray, List.set_cons_zero, List.set_cons_succ]; rfl
      refine wpK_q (v := ?_) (a' := ?_) (by rfl) (fun w' hR => ?_) ?_ ?_
      rotate_left 2
      · go_simp; with_reducible rfl
      · simp only [Act.put, List.setIfInBounds_toArray, List.set_cons_zero, List.set_cons_succ]; rfl
      refine wpK_q (v := ?_) (a' := ?_) (by rfl) (fun w' hR => ?_) ?_ ?_
      rotate_left 2
      · go_simp; with_reducible rfl
      · simp only [Act.put, List.setIfInBounds_toArray, List.set_cons_zero, List.set_cons_succ]; rfl
      refine wpK_q (v := ?_) (a' := ?_) (by rfl) (fun w' hR => ?_) ?_ ?_
      rotate_left 2
      · go_simp; with_reducible rfl
      · simp only [Act.put, List.setIfInBounds_toArray, List.set_cons_zero, List.set_cons_succ]; rfl
      refine wpK_q (v := ?_) (a' := ?_) (by rfl) (fun w' hR => ?_) ?_ ?_
      rotate_left 2
      · go_simp; with_reducible rfl
      · simp only [Act.put, List.setIfInBounds_toArray, List.set_cons_zero, List.set_cons_succ]; rfl
      refine wpK_q (v := ?_) (a' := ?_) (by rfl) (fun w' hR => ?_) ?_ ?_
      rotate_left 2
      · go_simp; with_reducible rfl
      · simp only [Act.put, List.setIfInBounds_toArray, List.set_cons_zero, List.set_cons_succ]; rfl
      refine wpK_call Try.func68 (by kernel_rfl) rfl rfl (by rfl) #[.pointer (some ⟨p, 0, none⟩), I ((A0 : Int) + (K : Int))] (by simp only [List.map_toArray, List.map_cons, List.map_nil]; rfl) ?_
      refine HCL.out.mono ?_
      rintro e w5 ⟨rfl, own5, hd5, ho5, hm5⟩
      refine ⟨_, rfl, (fun h => by cases h), ?_⟩
      refine wpK_call Try.func80 (by kernel_rfl) rfl rfl (by rfl) #[I 0] (by simp only [List.map_toArray, List.map_cons, List.map_nil]; rfl) ?_
      refine (fail_ok _).mono ?_
      rintro e w6 ⟨rfl, rfl⟩
      refine ⟨_, rfl, (fun h => by cases h), ?_⟩
      refine wpK_done ?_
      have HS5 := hid ((HSJ.out.on (Ext.drew wr)).step HOK2.out hd5 ho5 hm5 HL2.out hbj)
      have hb5 : bz ≤ w5.heap.size := Nat.le_trans (show bz ≤ wr.drew.heap.size from hbj) hm5.size
      clear hd5 ho5 hm5 k0 ka kn kp HCL HSJ HAJ HOK2 hbj w30
      have c0 := HS5.out.sin.c0
      have cp := HS5.out.pair.c0
      obtain ⟨ow3, hd3, ho3⟩ := HS5.out.drum
      have hfl := flush_any w5 p ow3 D2 hd3
      have hl3 := DS.Flush_len D2
      have hn3 := DS.Flush_waits D2
      obtain ⟨R3, hR3⟩ : ∃ R3, R3 = D2.Flush := ⟨_, rfl⟩
      rw [← hR3] at hfl hl3 hn3
      obtain ⟨c3, D3⟩ := R3
      have HR3 := hid hR3.symm
      have HFL := hid hfl
      have HL3 := hid (hl3.trans HL2.out)
      have HN3 := hid hn3
      have HO3 := hid ho3
      clear hfl hl3 hn3 hR3 hd3 ho3
      by_cases hc3 : c3 = 0
      rotate_left
      · have hne : (c3 != 0) = true := by simpa using hc3
        have HC3 := hid hc3
        clear hc3
        go_wp2_with (first | (go_at_call 52; refine HFL.out.mono ?_; rintro e w7 ⟨rfl, hd7, hm7⟩; have HD7 := hid (And.intro hd7 hm7); clear hd7 hm7) | (go_at_call 80; refine (fail_no c3 hne _).mono ?_; rintro e w8 ⟨rfl, rfl⟩))
        have hXX : X = (c3, D3, { P with sick := c3 }) := by
          rw [HX.out, PS.lay_3 HW1.out HR2.out HR3.out HC3.out, if_pos HC3.out]
        have hS7 := HS5.out.step HO3.out HD7.out.1 (fun k hk => .inl hk) HD7.out.2 HL3.out hb5
        refine And.intro rfl ?_
        rw [hXX]
        exact ⟨(endOr5_no HC3.out _).symm, hS7.bad c3⟩
      subst hc3
      have hmk := fun w => run_page0 w 23 rfl
      have HMK := hid hmk
      clear hmk
      go_upto_region 8 with (first | (go_at_call 52; refine HFL.out.mono ?_; rintro e w7 ⟨rfl, hd7, hm7⟩; have HD7 := hid (And.intro hd7 hm7); clear hd7 hm7) | (go_at_call 80; refine (fail_ok _).mono ?_; rintro e w8 ⟨rfl, rfl⟩))
      have HS7 := hid (HS5.out.step HO3.out HD7.out.1 (fun k hk => .inl hk) HD7.out.2 HL3.out hb5)
      have hb7 : bz ≤ w7.heap.size := Nat.le_trans hb5 HD7.out.2.size
      have hmk := HMK.out w7
      clear HS5 HD7 hb5 HO3 c0 cp HFL
      go_upto_region 9 with (fail)
      obtain ⟨w8, hw8⟩ : ∃ w8, w8 = w7.alloc (.cells (page0.map B).toArray 5) := ⟨_, rfl⟩
      have hrow := own_page0 w7
      rw [← hw8] at hrow ⊢
      have hc8 := own_cell hrow (i := 0) (u := B 0) rfl
      have hf8 := own_frozen hrow 0
      obtain ⟨gr, hgr⟩ : ∃ gr, gr = w7.heap.size := ⟨_, rfl⟩
      rw [← hgr] at hc8 hf8 hrow ⊢
      have hbel9 : Below w7.heap.size w7 (w8.setCell ⟨gr, 0, none⟩ (.int .u8 (hf : Int))) := by
        rw [hw8, hgr]
        exact ((Below.refl _ _).alloc (Nat.le_refl _) _).trans ((Mod.set (own := fun k => k = w7.heap.size) rfl).below (by simp) (fun i hi e => by omega))
      have hbel8 : Below w7.heap.size w7 w8 := by rw [hw8]; exact (Below.refl _ _).alloc (Nat.le_refl _) _
      have hu8 : (.int .u8 (hf : Int) : Value) = B (UInt8.ofNat hf) := by
        have : hf = 0 ∨ hf = 1 := by omega
        rcases this with e | e <;> (rw [e]; rfl)
      have hr9 := own_set hrow (i := 0) (by omega) (B (UInt8.ofNat hf))
      rw [← hu8] at hr9
      have hrp : (page0.map B).set 0 (.int .u8 (hf : Int)) = (PS.rootPage hf).map B := by rw [hu8]; rfl
      rw [hrp] at hr9
      obtain ⟨ow7, hd7, ho7⟩ := HS7.out.drum
      have hwr := write_any (w8.setCell ⟨gr, 0, none⟩ (.int .u8 (hf : Int))) p ow7 D3 0 _ (PS.rootPage hf) (hd7.below hbel9) (own_sees' hr9 rfl) (by omega) (fun k hk ho => by have h1 := hd7.lt k ho; have h3 : gr = k := Option.some.inj hk; omega) (by have h1 : D3.waits.length ≤ D2.waits.length := HN3.out; have h2 : D2.waits.length ≤ Dj.waits.length + 1 := HN2.out; have h3 := HNJ.out; omega)
      have hl4 := DS.write_len D3 0 (PS.rootPage hf)
      have hn4 := DS.write_waits' D3 0 (PS.rootPage hf)
      obtain ⟨R4, hR4⟩ : ∃ R4, R4 = D3.write 0 (PS.rootPage hf) := ⟨_, rfl⟩
      rw [← hR4] at hwr hl4 hn4
      obtain ⟨c4, D4⟩ := R4
      have HR4 := hid hR4.symm
      have HWR4 := hid hwr
      have HL4 := hid (hl4.trans HL3.out)
      have HO7 := hid ho7
      have HS8 := hid (HS7.out.on hbel8)
      have HS9 := hid (HS7.out.on hbel9)
      have hz9 : bz ≤ (w8.setCell ⟨gr, 0, none⟩ (.int .u8 (hf : Int))).heap.size := Nat.le_trans hb7 hbel9.size
      have hw8u : IntKind.u8.wrap (hf : Int) = (hf : Int) := IntWalk.u8_in _ (by omega)
      have c2 := HS8.out.sin.c2
      have c0 := HS9.out.sin.c0
      have cp := HS9.out.pair.c0
      clear hmk hw8 hrow hgr hbel9 hbel8 hu8 hr9 hrp hd7 ho7 hwr hl4 hn4 hR4 HS7 hb7
      go_upto_region 10 with (fail)
      generalize w8.setCell ⟨gr, 0, none⟩ (.int .u8 (hf : Int)) = w9 at *
      clear hc8 hf8 HS8 c2
      by_cases hc4 : c4 = 0
      rotate_left
      · have hne : (c4 != 0) = true := by simpa using hc4
        have HC4 := hid hc4
        clear hc4
        go_wp2_with (first | (go_at_call 50; refine HWR4.out.mono ?_; rintro e wa ⟨rfl, own', hda, hoa, hma⟩; have HDA := hid (And.intro hda (And.intro hoa hma)); clear hda hoa hma) | (go_at_call 80; refine (fail_no c4 hne _).mono ?_; rintro e wb ⟨rfl, rfl⟩))
        have hXX : X = (c4, D4, { P with sick := c4 }) := by
          rw [HX.out, PS.lay_4 HW1.out HR2.out HR3.out HR4.out HC4.out, if_pos HC4.out]
        have hSa := HS9.out.step HO7.out HDA.out.1 HDA.out.2.1 HDA.out.2.2 HL4.out hz9
        refine And.intro rfl ?_
        rw [hXX]
        exact ⟨(endOr5_no HC4.out _).symm, hSa.bad c4⟩
      subst hc4
      go_upto_region 11 with (first | (go_at_call 50; refine HWR4.out.mono ?_; rintro e wa ⟨rfl, own', hda, hoa, hma⟩; have HDA := hid (And.intro hda (And.intro hoa hma)); clear hda hoa hma) | (go_at_call 80; refine (fail_ok _).mono ?_; rintro e wb ⟨rfl, rfl⟩))
      have HSA := hid (HS9.out.step HO7.out HDA.out.1 HDA.out.2.1 HDA.out.2.2 HL4.out hz9)
      have hza : bz ≤ wa.heap.size := Nat.le_trans hz9 HDA.out.2.2.size
      clear HS9 HDA hz9 c0 cp HO7 HWR4
      have c0 := HSA.out.sin.c0
      have cp := HSA.out.pair.c0
      obtain ⟨owa, hda, hoa⟩ := HSA.out.drum
      have hfl := flush_any wa p owa D4 hda
      have hl5 := DS.Flush_len D4
      obtain ⟨R5, hR5⟩ : ∃ R5, R5 = D4.Flush := ⟨_, rfl⟩
      rw [← hR5] at hfl hl5
      obtain ⟨c5, D5⟩ := R5
      have HR5 := hid hR5.symm
      have HFL := hid hfl
      have HL5 := hid (hl5.trans HL4.out)
      have HOA := hid hoa
      clear hfl hl5 hR5 hda hoa
      by_cases hc5 : c5 = 0
      rotate_left
      · have hne : (c5 != 0) = true := by simpa using hc5
        have HC5 := hid hc5
        clear hc5
        go_wp2_with (first | (go_at_call 52; refine HFL.out.mono ?_; rintro e wc ⟨rfl, hdc, hmc⟩; have HDC := hid (And.intro hdc hmc); clear hdc hmc) | (go_at_call 80; refine (fail_no c5 hne _).mono ?_; rintro e wd ⟨rfl, rfl⟩))
        have hXX : X = (c5, D5, { P with sick := c5 }) := by
          rw [HX.out, PS.lay_5 HW1.out HR2.out HR3.out HR4.out HR5.out, if_pos HC5.out]
        have hSc := HSA.out.step HOA.out HDC.out.1 (fun k hk => .inl hk) HDC.out.2 HL5.out hza
        refine And.intro rfl ?_
        rw [hXX]
        exact ⟨(endOr5_no HC5.out _).symm, hSc.bad c5⟩
      subst hc5
      go_upto_region 12 with (first | (go_at_call 52; refine HFL.out.mono ?_; rintro e wc ⟨rfl, hdc, hmc⟩; have HDC := hid (And.intro hdc hmc); clear hdc hmc) | (go_at_call 80; refine (fail_ok _).mono ?_; rintro e wd ⟨rfl, rfl⟩))
      have HSC := hid (HSA.out.step HOA.out HDC.out.1 (fun k hk => .inl hk) HDC.out.2 HL5.out hza)
      have hzc : bz ≤ wc.heap.size := Nat.le_trans hza HDC.out.2.size
      clear HSA HDC hza c0 cp HOA HFL
      have hLAY : PS.lay D A0 hf b = (0, D5) := PS.lay_5 HW1.out HR2.out HR3.out HR4.out HR5.out
      have HX5 := hid (show X = _ from by rw [HX.out, hLAY, if_neg (by simp)])
      clear hLAY HX HW1 HR2 HR3 HR4 HR5 HN2 HN3 HNJ HL2 HL3 HL4
      obtain ⟨owc, hdc, hoc⟩ := HSC.out.drum
      have hop := open_any wc.drew p owc D5 ((A0 + K : Nat) : Int) ((A0 + Q : Nat) : Int) (hdc.below (Ext.drew wc)) (by omega) (by omega)
      have hpp := ppages_any wc.drew p owc D5 (hdc.below (Ext.drew wc)) (by have := HL5.out; omega)
      rw [show D5.safe.length = D.safe.length from HL5.out] at hop hpp
      rw [← HQE.out] at hpp
      obtain ⟨y, hy⟩ : ∃ y, y = TS.opn D5 ((A0 + K : Nat) : Int) ((A0 + Q : Nat) : Int) := ⟨_, rfl⟩
      have HX6 := hid HX5.out
      simp only [← hy] at HX6
      rw [← hy] at hop
      rw [Int.toNat_natCast, Int.toNat_natCast] at hop
      obtain ⟨lo, hlo⟩ : ∃ lo, lo = A0 + K := ⟨_, rfl⟩
      obtain ⟨hi, hhi⟩ : ∃ hi, hi = A0 + Q := ⟨_, rfl⟩
      rw [← hlo, ← hhi] at hop HX6
      have el : (lo : Int) = (A0 : Int) + (K : Int) := by omega
      have eh : (hi : Int) = (A0 : Int) + (Q : Int) := by omega
      rw [el, eh] at hop
      have w30 : IntKind.i64.wrap ((A0 : Int) + (K : Int)) = (A0 : Int) + (K : Int) := IntWalk.i64_in _ (by omega)
      have w31 : IntKind.i64.wrap ((A0 : Int) + (Q : Int)) = (A0 : Int) + (Q : Int) := IntWalk.i64_in _ (by omega)
      have HOP := hid hop
      have HPP := hid hpp
      have HOC := hid hoc
      have HDC := hid hdc
      clear hop hpp hy hlo hhi el eh hdc hoc HX5
      have k0 : ∀ w', Ext wc.drew w' → w'.cell? ⟨z, 0, none⟩ = some (.pointer (some ⟨q, 0, none⟩)) := fun w' hh => (HSC.out.on (Ext.trans _ _ _ (Ext.drew wc) hh)).sin.c0
      have ka : ∀ w', Ext wc.drew w' → w'.cell? ⟨ba, 0, none⟩ = some (I A0) := fun w' hh => (HSC.out.on (Ext.trans _ _ _ (Ext.drew wc) hh)).sin.ca
      have kn : ∀ w', Ext wc.drew w' → w'.cell? ⟨bn, 0, none⟩ = some (I K) := fun w' hh => (HSC.out.on (Ext.trans _ _ _ (Ext.drew wc) hh)).sin.cn
      have kp : ∀ w', Ext wc.drew w' → w'.cell? ⟨q, 0, none⟩ = some (.pointer (some ⟨p, 0, none⟩)) := fun w' hh => (HSC.out.on (Ext.trans _ _ _ (Ext.drew wc) hh)).pair.c0
      have HBD := hid (HSC.out.on (Ext.drew wc))
      by_cases hy0 : y.1 = 0
      rotate_left
      · have hcl : Calls Try.prog 65 #[.pointer (some ⟨p, 0, none⟩), I ((A0 : Int) + (K : Int)), I ((A0 : Int) + (Q : Int))] wc.drew fun e w' => e = .returned (.tuple #[.pointer none, .slice none 0 0, I y.1]) ∧ Below wc.drew.heap.size wc.drew w' := HOP.out.mono fun e w' h => by
          rcases h with h | h
          · exact h.2
          · exact absurd h.1 hy0
        have HXX := hid (show X = (y.1, D5, { P with sick := y.1 }) from by rw [HX6.out, if_pos hy0])
        have HCL := hid hcl
        have hne : (y.1 != 0) = true := by simpa using hy0
        clear hcl HOP
        refine wp_region_order Ext [] [(0,0),(1,0),(2,0),(3,0),(4,0),(5,0),(6,0),(7,0),(8,0),(9,0),(10,0),(11,0),(12,1),(13,0),(14,1),(15,0),(16,0),(17,0),(18,0),(19,0),(20,0),(21,0)] _ (by kernel_rfl) rfl Ext.refl Ext.trans (by kernel_rfl) (by simp only [pick, List.getElem?_toArray, List.getElem?_cons_zero, List.getElem?_cons_succ]; rfl) (fun c a d v w h => by cases d <;> exact h) ?_
        refine wpK_q (v := ?_) (a' := ?_) (by rfl) (fun w' hR => ?_) ?_ ?_
        rotate_left 2
        · go_simp; with_reducible rfl
        · simp only [Act.put, List.setIfInBounds_toArray, List.set_cons_zero, List.set_cons_succ]; rfl
        refine wpK_q (v := ?_) (a' := ?_) (by rfl) (fun w' hR => ?_) ?_ ?_
        rotate_left 2
        · go_simp; with_reducible rfl
        · simp only [Act.put, List.setIfInBounds_toArray, List.set_cons_zero, List.set_cons_succ]; rfl
        refine wpK_q (v := ?_) (a' := ?_) (by rfl) (fun w' hR => ?_) ?_ ?_
        rotate_left 2
        · go_simp; with_reducible rfl
        · simp only [Act.put, List.setIfInBounds_toArray, List.set_cons_zero, List.set_cons_succ]; rfl
        refine wpK_q (v := ?_) (a' := ?_) (by rfl) (fun w' hR => ?_) ?_ ?_
        rotate_left 2
        · go_simp; with_reducible rfl
        · simp only [Act.put, List.setIfInBounds_toArray, List.set_cons_zero, List.set_cons_succ]; rfl
        refine wpK_q (v := ?_) (a' := ?_) (by rfl) (fun w' hR => ?_) ?_ ?_
        rotate_left 2
        · go_simp; with_reducible rfl
        · simp only [Act.put, List.setIfInBounds_toArray, List.set_cons_zero, List.set_cons_succ]; rfl
        refine wpK_q (v := ?_) (a' := ?_) (by rfl) (fun w' hR => ?_) ?_ ?_
        rotate_left 2
        · go_simp; with_reducible rfl
        · simp only [Act.put, List.setIfInBounds_toArray, List.set_cons_zero, List.set_cons_succ]; rfl
        refine wpK_q (v := ?_) (a' := ?_) (by rfl) (fun w' hR => ?_) ?_ ?_
        rotate_left 2
        · go_simp; with_reducible rfl
        · simp only [Act.put, List.setIfInBounds_toArray, List.set_cons_zero, List.set_cons_succ]; rfl
        refine wpK_q (v := ?_) (a' := ?_) (by rfl) (fun w' hR => ?_) ?_ ?_
        rotate_left 2
        · go_simp; with_reducible rfl
        · simp only [Act.put, List.setIfInBounds_toArray, List.set_cons_zero, List.set_cons_succ]; rfl
        refine wpK_q (v := ?_) (a' := ?_) (by rfl) (fun w' hR => ?_) ?_ ?_
        rotate_left 2
        · go_simp; with_reducible rfl
        · simp only [Act.put, List.setIfInBounds_toArray, List.set_cons_zero, List.set_cons_succ]; rfl
        refine wpK_q (v := ?_) (a' := ?_) (by rfl) (fun w' hR => ?_) ?_ ?_
        rotate_left 2
        · go_simp; with_reducible rfl
        · simp only [Act.put, List.setIfInBounds_toArray, List.set_cons_zero, List.set_cons_succ]; rfl
        refine wpK_q (v := ?_) (a' := ?_) (by rfl) (fun w' hR => ?_) ?_ ?_
        rotate_left 2
        · go_simp; with_reducible rfl
        · simp only [Act.put, List.setIfInBounds_toArray, List.set_cons_zero, List.set_cons_succ]; rfl
        refine wpK_q (v := ?_) (a' := ?_) (by rfl) (fun w' hR => ?_) ?_ ?_
        rotate_left 2
        · go_simp; with_reducible rfl
        · simp only [Act.put, List.setIfInBounds_toArray, List.set_cons_zero, List.set_cons_succ]; rfl
        refine wpK_call Try.func83 (by kernel_rfl) rfl rfl (by rfl) #[.pointer (some ⟨p, 0, none⟩)] (by simp only [List.map_toArray, List.map_cons, List.map_nil]; rfl) ?_
        refine HPP.out.mono ?_
        rintro e w6 ⟨rfl, rfl⟩
        refine ⟨_, rfl, fun _ => Ext.refl _, ?_⟩
        refine wpK_q (v := ?_) (a' := ?_) (by rfl) (fun w' hR => ?_) ?_ ?_
        rotate_left 2
        · go_simp; with_reducible rfl
        · simp only [Act.put, List.setIfInBounds_toArray, List.set_cons_zero, List.set_cons_succ]; rfl
        refine wpK_call Try.func65 (by kernel_rfl) rfl rfl (by rfl) #[.pointer (some ⟨p, 0, none⟩), I ((A0 : Int) + (K : Int)), I ((A0 : Int) + (Q : Int))] (by simp only [List.map_toArray, List.map_cons, List.map_nil]; rfl) ?_
        refine HCL.out.mono ?_
        rintro e w6 ⟨rfl, hb6⟩
        refine ⟨_, rfl, fun _ => hb6, ?_⟩
        have HB6 := hid hb6
        clear hb6
        refine wpK_q (v := ?_) (a' := ?_) (by rfl) (fun w' hR => ?_) ?_ ?_
        rotate_left 2
        · go_simp; with_reducible rfl
        · simp only [Act.put, List.setIfInBounds_toArray, List.set_cons_zero, List.set_cons_succ]; rfl
        refine wpK_q (v := ?_) (a' := ?_) (by rfl) (fun w' hR => ?_) ?_ ?_
        rotate_left 2
        · go_simp; with_reducible rfl
        · simp only [Act.put, List.setIfInBounds_toArray, List.set_cons_zero, List.set_cons_succ]; rfl
        refine wpK_q (v := ?_) (a' := ?_) (by rfl) (fun w' hR => ?_) ?_ ?_
        rotate_left 2
        · go_simp; with_reducible rfl
        · simp only [Act.put, List.setIfInBounds_toArray, List.set_cons_zero, List.set_cons_succ]; rfl
        refine wpK_q (v := ?_) (a' := ?_) (by rfl) (fun w' hR => ?_) ?_ ?_
        rotate_left 2
        · go_simp; with_reducible rfl
        · simp only [Act.put, List.setIfInBounds_toArray, List.set_cons_zero, List.set_cons_succ]; rfl
        refine wpK_q (v := ?_) (a' := ?_) (by rfl) (fun w' hR => ?_) ?_ ?_
        rotate_left 2
        · go_simp; with_reducible rfl
        · simp only [Act.put, List.setIfInBounds_toArray, List.set_cons_zero, List.set_cons_succ]; rfl
        refine wpK_q (v := ?_) (a' := ?_) (by rfl) (fun w' hR => ?_) ?_ ?_
        rotate_left 2
        · go_simp; with_reducible rfl
        · simp only [Act.put, List.setIfInBounds_toArray, List.set_cons_zero, List.set_cons_succ]; rfl
        refine wpK_q (v := ?_) (a' := ?_) (by rfl) (fun w' hR => ?_) ?_ ?_
        rotate_left 2
        · go_simp; with_reducible rfl
        · simp only [Act.put, List.setIfInBounds_toArray, List.set_cons_zero, List.set_cons_succ]; rfl
        refine wpK_done ?_
        go_wp2_with (first | (go_at_call 80; refine (fail_no y.1 hne _).mono ?_; rintro e w7 ⟨rfl, rfl⟩))
        refine And.intro rfl ?_
        rw [HXX.out]
        exact ⟨(endOr5_no hy0 _).symm, (HBD.out.on HB6.out).bad y.1⟩
      have hcl : Calls Try.prog 65 #[.pointer (some ⟨p, 0, none⟩), I ((A0 : Int) + (K : Int)), I ((A0 : Int) + (Q : Int))] wc.drew fun e w' => ∃ t v, e = .returned (.tuple #[.pointer (some ⟨t, 0, none⟩), v, I 0]) ∧ wc.drew.heap.size ≤ t ∧ TapeIn w' t p D.safe.length ⟨lo, hi, y.2.2.1, y.2.2.2, 0⟩ ∧ Recs w' (t + 1) v y.2.1 ∧ Below wc.drew.heap.size wc.drew w' := HOP.out.mono fun e w' h => by
        rcases h with h | h
        · exact absurd hy0 h.1
        · exact h.2
      have HXX := hid (show X = _ from by rw [HX6.out, if_neg (by rw [hy0]; simp)])
      have HCL := hid hcl
      clear hcl HOP HX6 hy0
      refine wp_region_order Ext [] [(0,0),(1,0),(2,0),(3,0),(4,0),(5,0),(6,0),(7,0),(8,0),(9,0),(10,0),(11,0),(12,1),(13,0),(14,1),(15,0),(16,0),(17,0),(18,0),(19,0),(20,0),(21,0)] _ (by kernel_rfl) rfl Ext.refl Ext.trans (by kernel_rfl) (by simp only [pick, List.getElem?_toArray, List.getElem?_cons_zero, List.getElem?_cons_succ]; rfl) (fun c a d v w h => by cases d <;> exact h) ?_
      refine wpK_q (v := ?_) (a' := ?_) (by rfl) (fun w' hR => ?_) ?_ ?_
      rotate_left 2
      · go_simp; with_reducible rfl
      · simp only [Act.put, List.setIfInBounds_toArray, List.set_cons_zero, List.set_cons_succ]; rfl
      refine wpK_q (v := ?_) (a' := ?_) (by rfl) (fun w' hR => ?_) ?_ ?_
      rotate_left 2
      · go_simp; with_reducible rfl
      · simp only [Act.put, List.setIfInBounds_toArray, List.set_cons_zero, List.set_cons_succ]; rfl
      refine wpK_q (v := ?_) (a' := ?_) (by rfl) (fun w' hR => ?_) ?_ ?_
      rotate_left 2
      · go_simp; with_reducible rfl
      · simp only [Act.put, List.setIfInBounds_toArray, List.set_cons_zero, List.set_cons_succ]; rfl
      refine wpK_q (v := ?_) (a' := ?_) (by rfl) (fun w' hR => ?_) ?_ ?_
      rotate_left 2
      · go_simp; with_reducible rfl
      · simp only [Act.put, List.setIfInBounds_toArray, List.set_cons_zero, List.set_cons_succ]; rfl
      refine wpK_q (v := ?_) (a' := ?_) (by rfl) (fun w' hR => ?_) ?_ ?_
      rotate_left 2
      · go_simp; with_reducible rfl
      · simp only [Act.put, List.setIfInBounds_toArray, List.set_cons_zero, List.set_cons_succ]; rfl
      refine wpK_q (v := ?_) (a' := ?_) (by rfl) (fun w' hR => ?_) ?_ ?_
      rotate_left 2
      · go_simp; with_reducible rfl
      · simp only [Act.put, List.setIfInBounds_toArray, List.set_cons_zero, List.set_cons_succ]; rfl
      refine wpK_q (v := ?_) (a' := ?_) (by rfl) (fun w' hR => ?_) ?_ ?_
      rotate_left 2
      · go_simp; with_reducible rfl
      · simp only [Act.put, List.setIfInBounds_toArray, List.set_cons_zero, List.set_cons_succ]; rfl
      refine wpK_q (v := ?_) (a' := ?_) (by rfl) (fun w' hR => ?_) ?_ ?_
      rotate_left 2
      · go_simp; with_reducible rfl
      · simp only [Act.put, List.setIfInBounds_toArray, List.set_cons_zero, List.set_cons_succ]; rfl
      refine wpK_q (v := ?_) (a' := ?_) (by rfl) (fun w' hR => ?_) ?_ ?_
      rotate_left 2
      · go_simp; with_reducible rfl
      · simp only [Act.put, List.setIfInBounds_toArray, List.set_cons_zero, List.set_cons_succ]; rfl
      refine wpK_q (v := ?_) (a' := ?_) (by rfl) (fun w' hR => ?_) ?_ ?_
      rotate_left 2
      · go_simp; with_reducible rfl
      · simp only [Act.put, List.setIfInBounds_toArray, List.set_cons_zero, List.set_cons_succ]; rfl
      refine wpK_q (v := ?_) (a' := ?_) (by rfl) (fun w' hR => ?_) ?_ ?_
      rotate_left 2
      · go_simp; with_reducible rfl
      · simp only [Act.put, List.setIfInBounds_toArray, List.set_cons_zero, List.set_cons_succ]; rfl
      refine wpK_q (v := ?_) (a' := ?_) (by rfl) (fun w' hR => ?_) ?_ ?_
      rotate_left 2
      · go_simp; with_reducible rfl
      · simp only [Act.put, List.setIfInBounds_toArray, List.set_cons_zero, List.set_cons_succ]; rfl
      refine wpK_call Try.func83 (by kernel_rfl) rfl rfl (by rfl) #[.pointer (some ⟨p, 0, none⟩)] (by simp only [List.map_toArray, List.map_cons, List.map_nil]; rfl) ?_
      refine HPP.out.mono ?_
      rintro e w6 ⟨rfl, rfl⟩
      refine ⟨_, rfl, fun _ => Ext.refl _, ?_⟩
      refine wpK_q (v := ?_) (a' := ?_) (by rfl) (fun w' hR => ?_) ?_ ?_
      rotate_left 2
      · go_simp; with_reducible rfl
      · simp only [Act.put, List.setIfInBounds_toArray, List.set_cons_zero, List.set_cons_succ]; rfl
      refine wpK_call Try.func65 (by kernel_rfl) rfl rfl (by rfl) #[.pointer (some ⟨p, 0, none⟩), I ((A0 : Int) + (K : Int)), I ((A0 : Int) + (Q : Int))] (by simp only [List.map_toArray, List.map_cons, List.map_nil]; rfl) ?_
      refine HCL.out.mono ?_
      rintro e w6 ⟨t', v, rfl, ht6, htp6, hrc6, hb6⟩
      refine ⟨_, rfl, fun _ => hb6, ?_⟩
      have HB6 := hid (HBD.out.on hb6)
      have HD6 := hid (HDC.out.below (Ext.trans _ _ _ (Ext.drew wc) hb6))
      have HTP := hid htp6
      have hzt : wc.heap.size ≤ t' := ht6
      obtain ⟨avl, cvl, hvl⟩ : ∃ ao cap, v = .slice ao y.2.1.length cap := by obtain ⟨ao, cap, h, -⟩ := hrc6.shows.len; exact ⟨ao, cap, h⟩
      subst hvl
      clear hrc6 htp6 ht6 hb6
      refine wpK_q (v := ?_) (a' := ?_) (by rfl) (fun w' hR => ?_) ?_ ?_
      rotate_left 2
      · go_simp; with_reducible rfl
      · simp only [Act.put, List.setIfInBounds_toArray, List.set_cons_zero, List.set_cons_succ]; rfl
      refine wpK_q (v := ?_) (a' := ?_) (by rfl) (fun w' hR => ?_) ?_ ?_
      rotate_left 2
      · go_simp; with_reducible rfl
      · simp only [Act.put, List.setIfInBounds_toArray, List.set_cons_zero, List.set_cons_succ]; rfl
      refine wpK_q (v := ?_) (a' := ?_) (by rfl) (fun w' hR => ?_) ?_ ?_
      rotate_left 2
      · go_simp; with_reducible rfl
      · simp only [Act.put, List.setIfInBounds_toArray, List.set_cons_zero, List.set_cons_succ]; rfl
      refine wpK_q (v := ?_) (a' := ?_) (by rfl) (fun w' hR => ?_) ?_ ?_
      rotate_left 2
      · go_simp; with_reducible rfl
      · simp only [Act.put, List.setIfInBounds_toArray, List.set_cons_zero, List.set_cons_succ]; rfl
      refine wpK_q (v := ?_) (a' := ?_) (by rfl) (fun w' hR => ?_) ?_ ?_
      rotate_left 2
      · go_simp; with_reducible rfl
      · simp only [Act.put, List.setIfInBounds_toArray, List.set_cons_zero, List.set_cons_succ]; rfl
      refine wpK_q (v := ?_) (a' := ?_) (by rfl) (fun w' hR => ?_) ?_ ?_
      rotate_left 2
      · go_simp; with_reducible rfl
      · simp only [Act.put, List.setIfInBounds_toArray, List.set_cons_zero, List.set_cons_succ]; rfl
      refine wpK_q (v := ?_) (a' := ?_) (by rfl) (fun w' hR => ?_) ?_ ?_
      rotate_left 2
      · go_simp; with_reducible rfl
      · simp only [Act.put, List.setIfInBounds_toArray, List.set_cons_zero, List.set_cons_succ]; rfl
      refine wpK_done ?_
      clear k0 ka kn kp
      have c0 := HB6.out.sin.c0
      have c2 := HB6.out.sin.c2
      have cp1 := HB6.out.pair.c1
      have cp2 := HB6.out.pair.c2
      have fp1 := frozen_row HB6.out.pair.hq 1
      have fp2 := frozen_row HB6.out.pair.hq 2
      have hqz : z ≠ q := by omega
      have hqz2 : z + 2 ≠ q := by omega
      go_wp2_with (first | (go_at_call 80; refine (fail_ok _).mono ?_; rintro e w7 ⟨rfl, rfl⟩))
      have hm9 : Mod (fun k => k = q) w6 ((w6.setCell ⟨q, 1, none⟩ (.pointer (some ⟨t', 0, none⟩))).setCell ⟨q, 2, none⟩ (.int .i64 (hf : Int))) := (Mod.set (own := fun k => k = q) rfl).trans (Mod.set rfl)
      have hc9 : ((w6.setCell ⟨q, 1, none⟩ (.pointer (some ⟨t', 0, none⟩))).setCell ⟨q, 2, none⟩ (.int .i64 (hf : Int))).heap[q]? = some (.cells #[.pointer (some ⟨p, 0, none⟩), .pointer (some ⟨t', 0, none⟩), I hf, I P.sick] 114 (0, 0)) := heap_setCell_same _ q 2 _ _ _ (heap_setCell_same w6 q 1 _ _ _ HB6.out.pair.hq)
      generalize (w6.setCell ⟨q, 1, none⟩ (.pointer (some ⟨t', 0, none⟩))).setCell ⟨q, 2, none⟩ (.int .i64 (hf : Int)) = w9' at *
      ((try simp only [Exit.inBlock, Exit.then]); first | refine bodyPost_end (results_none rfl _ _ _) rfl ?_ | refine bodyPost_ret (results_none rfl _ _ _) rfl ?_)
      rw [HXX.out]
      have hsz := HSC.out.size
      have hbl := HSC.out.bl
      have hp0 := HB6.out.pair
      have hnoq : ¬ owc q := fun h => by
        rcases HOC.out q h with h3 | h3
        · exact HNQ.out h3
        · omega
      refine ⟨rfl, t', owc, .inr (by have := HSC.out.mod.size; omega), ⟨hc9, HTP.out.keep (hm9.block t' HTP.out.lt (by omega)), hh1, hp0.sick, by omega, hp0.n5⟩, HD6.out.mod hm9 (fun k hk e => by subst e; exact hnoq hk), fun j hj => (HOC.out j hj).imp id (Nat.le_trans hbl), fun h => ?_, (HB6.out.mod.mono (fun i _ hi => .inl hi)).trans (hm9.mono (fun i _ hi => .inr hi))⟩
      have := HDC.out.lt t' h
      omega
end Go.Proofs.Ytoaeapnkefjpaaa

namespace Go.Proofs.Ytoaeapnkefjpaaa
open Go.RowKit
set_option linter.unusedVariables false
set_option linter.unusedSimpArgs false
section
variable {P : Program} {ops : Array Oper} {Q : Exit → Act → World → Prop} {md : Region.Mode} {R : World → World → Prop} {ds : List Nat}

/-- What is listed behind an order. -/
def listedBy : List (Nat × Nat) → Array Bool → Array Bool
  | [], l => l
  | (i, _) :: rest, l => listedBy rest (l.setIfInBounds i true)
/-- Does a row of reads fit? -/
def readsB (md : Region.Mode) (ops : Array Oper) (ds : List Nat) : List (Nat × Nat) → Array Bool → Bool
  | [], _ => true
  | (i, 0) :: rest, l => Region.free md ops l i && (Region.ready md ops l).contains i && shutB md ops l && (ds.all fun d => l.getD d true || waitsB md ops i ops.size d) && readsB md ops ds rest (l.setIfInBounds i true)
  | (_, _ + 1) :: _, _ => false
/-- The exit behind the reads. -/
def thenQ (Q : Exit → Act → World → Prop) (C : Act → World → Prop) : Exit → Act → World → Prop
  | .normal, a, w => C a w
  | e, a, w => Q e a w
theorem thenQ_normal {C : Act → World → Prop} {a : Act} {w : World} (h : C a w) : thenQ Q C .normal a w := h
theorem wpC_of_reads (hrefl : ∀ w, R w w) (htr : ∀ w w' w'', R w w' → R w' w'' → R w w'') (hsel : Region.noSelect ops = true)
    (hQ : ∀ c a d v w, Q (.panic c) (Act.put a d v) w → Q (.panic c) a w) (C : Act → World → Prop) (n : Nat) :
    ∀ (π : List (Nat × Nat)) (l : Array Bool) (a : Act) (w : World), readsB md ops ds π l = true → (∀ a w, C a w → wpC P md ops Q R ds n (listedBy π l) a w) → wpK P ops (thenQ Q C) R (pick ops π) a w → wpC P md ops Q R ds (π.length + n) l a w
  | [], l, a, w, hf, hC, h => by
    rw [List.length_nil, Nat.zero_add]
    exact hC a w h
  | (i, 0) :: rest, l, a, w, hf, hC, h => by
    simp only [readsB, Bool.and_eq_true] at hf
    obtain ⟨⟨⟨⟨h1, h2⟩, h3⟩, h4⟩, h5⟩ := hf
    have hr : i ∈ Region.ready md ops l := by simpa using h2
    obtain ⟨_, oi, hoi, _⟩ := mem_ready.1 hr
    simp only [pick, hoi] at h
    obtain ⟨v, hy, hk⟩ := h
    rw [List.length_cons, show rest.length + 1 + n = (rest.length + n) + 1 by omega]
    exact wpC_first hrefl htr hoi (Region.noSelect_spec hsel) (fun c a w => hQ c a oi.dst v w) ops.size _ l a w (Region.free_spec hoi h1) (shutB_spec h3)
      (fun d hm hun => by have := List.all_eq_true.1 h4 d hm; rw [hun] at this; simpa using this) hr hy (wpC_of_reads hrefl htr hsel hQ C n rest _ _ _ h5 hC hk)
  | (_, _ + 1) :: _, l, a, w, hf, hC, h => by simp [readsB] at hf
/-- A step with an effect, whatever else is ready. -/
theorem wpOp_of_wpK (hrefl : ∀ w, R w w) (htr : ∀ w w' w'', R w w' → R w' w'' → R w w'') (hsel : Region.noSelect ops = true)
    (hQ : ∀ c a d v w, Q (.panic c) (Act.put a d v) w → Q (.panic c) a w) {i k : Nat} {rest : List (Nat × Nat)} {l : Array Bool} {a : Act} {w : World} {oi : Oper} (hoi : ops[i]? = some oi)
    (hk0 : (if k = 0 then !ds.contains i else ds.contains i) = true) (hf : fitsB md ops ds rest (l.setIfInBounds i true) = true) (h : wpK P ops Q R ((oi, k + 1) :: pick ops rest) a w) :
    wpOp P ops Q i (fun a' w' => (i ∉ ds → R w w') ∧ wpC P md ops Q R ds rest.length (l.setIfInBounds i true) a' w') a w := by
  unfold wpOp
  simp only [hoi]
  unfold wpK at h
  by_cases hw : Region.wanted oi (yielded ops a.tmps) = true
  · rw [if_pos hw] at h ⊢
    refine .inl (Oper.wp_mono (fun a' w' hh => ⟨fun hnd => hh.1 ?_, wpC_of_wpK hrefl htr hsel hQ rest _ _ _ hf hh.2⟩) h)
    by_cases hk : k = 0
    · exact hk
    · rw [if_neg hk] at hk0
      exact absurd (by simpa using hk0) hnd
  · rw [if_neg hw] at h ⊢
    exact ⟨fun _ => hrefl w, wpC_of_wpK hrefl htr hsel hQ rest _ _ _ hf h⟩
/-- Reads first; then i and j are ready; both orders fit. -/
def forkB (md : Region.Mode) (ops : Array Oper) (ds : List Nat) (π : List (Nat × Nat)) (i j : Nat × Nat) (ri rj : List (Nat × Nat)) : Bool :=
  readsB md ops ds π (Array.replicate ops.size false) && (Region.ready md ops (listedBy π (Array.replicate ops.size false)) == [i.1, j.1]) && (if i.2 = 0 then !ds.contains i.1 else ds.contains i.1) && (if j.2 = 0 then !ds.contains j.1 else ds.contains j.1) &&
    fitsB md ops ds ri ((listedBy π (Array.replicate ops.size false)).setIfInBounds i.1 true) && fitsB md ops ds rj ((listedBy π (Array.replicate ops.size false)).setIfInBounds j.1 true) && ri.length == rj.length && (π.length + (ri.length + 1) == ops.size)
theorem wp_region_fork {id : Nat} {a : Act} {w : World} (R : World → World → Prop) (ds : List Nat) (π : List (Nat × Nat)) (i j : Nat × Nat) (ri rj : List (Nat × Nat)) (l : List (Oper × Nat)) (li lj : List (Oper × Nat)) (oi oj : Oper) (hm : P.follows .mixedOrders = true) (hrefl : ∀ w, R w w) (htr : ∀ w w' w'', R w w' → R w' w'' → R w w'')
    (hc : (Region.noSelect ops && forkB .any ops ds π i j ri rj) = true) (hl : pick ops π = l) (hoi : ops[i.1]? = some oi) (hoj : ops[j.1]? = some oj) (hli : pick ops ri = li) (hlj : pick ops rj = lj)
    (hQ : ∀ c a d v w, Q (.panic c) (Act.put a d v) w → Q (.panic c) a w)
    (h : wpK P ops (thenQ Q fun a' w' => wpK P ops Q R ((oi, i.2 + 1) :: li) a' w' ∧ wpK P ops Q R ((oj, j.2 + 1) :: lj) a' w') R l a w.drew) : (Code.region id ops true).wp P Q a w := by
  subst hl hli hlj
  rw [Bool.and_eq_true] at hc
  obtain ⟨hsel, hf⟩ := hc
  unfold forkB at hf
  simp only [Bool.and_eq_true, beq_iff_eq] at hf
  obtain ⟨⟨⟨⟨⟨⟨⟨f1, f2⟩, f3⟩, f4⟩, f5⟩, f6⟩, f7⟩, f8⟩ := hf
  refine wp_region_any hm (wpAny_of_wpC (R := R) (ds := ds) _ _ _ _ ?_)
  refine (fun e8 => ?_) (wpC_of_reads (md := .any) (ops := ops) (Q := Q) (R := R) (ds := ds) hrefl htr hsel hQ _ (ri.length + 1) π _ a _ f1 (fun a' w' hh => ?_) h)
  · rw [f8] at e8
    exact e8
  · obtain ⟨g1, g2⟩ := hh
    refine ⟨fun h0 => (by rw [f2] at h0; cases h0), fun q hq => ?_⟩
    rw [f2] at hq
    have hq2 : q = i.1 ∨ q = j.1 := by simpa using hq
    clear hq
    cases hq2 with
    | inl e =>
      rw [e]
      exact wpOp_of_wpK hrefl htr hsel hQ hoi f3 f5 g1
    | inr e =>
      rw [e, f7]
      exact wpOp_of_wpK hrefl htr hsel hQ hoj f4 f6 g2
end
end Go.Proofs.Ytoaeapnkefjpaaa

namespace Go.Proofs.Ytoaeapnkefjpaaa
open Go.RowKit
set_option linter.unusedVariables false
set_option linter.unusedSimpArgs false

/-- A tree of orders. -/
inductive OT where
  | leaf (π : List (Nat × Nat))
  | one (i : Nat × Nat) (ti : OT)
  | two (i : Nat × Nat) (ti : OT) (j : Nat × Nat) (tj : OT)
  | three (i : Nat × Nat) (ti : OT) (j : Nat × Nat) (tj : OT) (k : Nat × Nat) (tk : OT)
section
variable {P : Program} {ops : Array Oper} {Q : Exit → Act → World → Prop} {md : Region.Mode} {R : World → World → Prop} {ds : List Nat}
def OT.size : OT → Nat
  | .leaf π => π.length
  | .one _ ti => ti.size + 1
  | .two _ ti _ _ => ti.size + 1
  | .three _ ti _ _ _ _ => ti.size + 1
def flagB (ds : List Nat) (i : Nat × Nat) : Bool := if i.2 = 0 then !ds.contains i.1 else ds.contains i.1
def OT.ok (md : Region.Mode) (ops : Array Oper) (ds : List Nat) : OT → Array Bool → Bool
  | .leaf π, l => fitsB md ops ds π l
  | .one i ti, l => (Region.ready md ops l == [i.1]) && flagB ds i && ti.ok md ops ds (l.setIfInBounds i.1 true)
  | .two i ti j tj, l => (Region.ready md ops l == [i.1, j.1]) && flagB ds i && flagB ds j && ti.ok md ops ds (l.setIfInBounds i.1 true) && tj.ok md ops ds (l.setIfInBounds j.1 true) && ti.size == tj.size
  | .three i ti j tj k tk, l => (Region.ready md ops l == [i.1, j.1, k.1]) && flagB ds i && flagB ds j && flagB ds k && ti.ok md ops ds (l.setIfInBounds i.1 true) && tj.ok md ops ds (l.setIfInBounds j.1 true) && tk.ok md ops ds (l.setIfInBounds k.1 true) && ti.size == tj.size && ti.size == tk.size
/-- One step, with what is asked behind it. -/
def stepK (P : Program) (ops : Array Oper) (Q : Exit → Act → World → Prop) (R : World → World → Prop) (i : Nat × Nat) (C : Act → World → Prop) (a : Act) (w : World) : Prop :=
  ∃ oi, ops[i.1]? = some oi ∧ if Region.wanted oi (yielded ops a.tmps) = true then oi.wp P a w (fun a' w' => (i.2 = 0 → R w w') ∧ C a' w') Q else C (a.put oi.dst undef) w
def OT.wp (P : Program) (ops : Array Oper) (Q : Exit → Act → World → Prop) (R : World → World → Prop) : OT → Act → World → Prop
  | .leaf π, a, w => wpK P ops Q R (pick ops π) a w
  | .one i ti, a, w => stepK P ops Q R i (ti.wp P ops Q R) a w
  | .two i ti j tj, a, w => stepK P ops Q R i (ti.wp P ops Q R) a w ∧ stepK P ops Q R j (tj.wp P ops Q R) a w
  | .three i ti j tj k tk, a, w => stepK P ops Q R i (ti.wp P ops Q R) a w ∧ stepK P ops Q R j (tj.wp P ops Q R) a w ∧ stepK P ops Q R k (tk.wp P ops Q R) a w
theorem wpOp_of_step (hrefl : ∀ w, R w w) {i : Nat × Nat} {C : Act → World → Prop} {n : Nat} {l : Array Bool} {a : Act} {w : World} (hk0 : flagB ds i = true) (hC : ∀ a w, C a w → wpC P md ops Q R ds n (l.setIfInBounds i.1 true) a w) (h : stepK P ops Q R i C a w) :
    wpOp P ops Q i.1 (fun a' w' => (i.1 ∉ ds → R w w') ∧ wpC P md ops Q R ds n (l.setIfInBounds i.1 true) a' w') a w := by
  obtain ⟨oi, hoi, h⟩ := h
  unfold wpOp
  simp only [hoi]
  by_cases hw : Region.wanted oi (yielded ops a.tmps) = true
  · rw [if_pos hw] at h ⊢
    refine .inl (Oper.wp_mono (fun a' w' hh => ⟨fun hnd => hh.1 ?_, hC _ _ hh.2⟩) h)
    by_cases hk : i.2 = 0
    · exact hk
    · unfold flagB at hk0
      rw [if_neg hk] at hk0
      exact absurd (by simpa using hk0) hnd
  · rw [if_neg hw] at h ⊢
    exact ⟨fun _ => hrefl w, hC _ _ h⟩
theorem wpC_of_tree (hrefl : ∀ w, R w w) (htr : ∀ w w' w'', R w w' → R w' w'' → R w w'') (hsel : Region.noSelect ops = true) (hQ : ∀ c a d v w, Q (.panic c) (Act.put a d v) w → Q (.panic c) a w) :
    ∀ (t : OT) (l : Array Bool) (a : Act) (w : World), t.ok md ops ds l = true → t.wp P ops Q R a w → wpC P md ops Q R ds t.size l a w
  | .leaf π, l, a, w, hf, h => wpC_of_wpK hrefl htr hsel hQ π l a w hf h
  | .one i ti, l, a, w, hf, h => by
    simp only [OT.ok, Bool.and_eq_true, beq_iff_eq] at hf
    obtain ⟨⟨f1, f2⟩, f3⟩ := hf
    refine ⟨fun h0 => (by rw [f1] at h0; cases h0), fun q hq => ?_⟩
    rw [f1] at hq
    obtain rfl := List.mem_singleton.1 hq
    exact wpOp_of_step hrefl f2 (fun a w hh => wpC_of_tree hrefl htr hsel hQ ti _ a w f3 hh) h
  | .two i ti j tj, l, a, w, hf, h => by
    simp only [OT.ok, Bool.and_eq_true, beq_iff_eq] at hf
    obtain ⟨⟨⟨⟨⟨f1, f2⟩, f3⟩, f4⟩, f5⟩, f6⟩ := hf
    refine ⟨fun h0 => (by rw [f1] at h0; cases h0), fun q hq => ?_⟩
    rw [f1] at hq
    have hq2 : q = i.1 ∨ q = j.1 := by simpa using hq
    clear hq
    rcases hq2 with e | e
    · rw [e]; exact wpOp_of_step hrefl f2 (fun a w hh => wpC_of_tree hrefl htr hsel hQ ti _ a w f4 hh) h.1
    · rw [e]; exact wpOp_of_step hrefl f3 (fun a w hh => by rw [f6]; exact wpC_of_tree hrefl htr hsel hQ tj _ a w f5 hh) h.2
  | .three i ti j tj k tk, l, a, w, hf, h => by
    simp only [OT.ok, Bool.and_eq_true, beq_iff_eq] at hf
    obtain ⟨⟨⟨⟨⟨⟨⟨⟨f1, f2⟩, f3⟩, f4⟩, f5⟩, f6⟩, f7⟩, f8⟩, f9⟩ := hf
    refine ⟨fun h0 => (by rw [f1] at h0; cases h0), fun q hq => ?_⟩
    rw [f1] at hq
    have hq2 : q = i.1 ∨ q = j.1 ∨ q = k.1 := by simpa using hq
    clear hq
    rcases hq2 with e | e | e
    · rw [e]; exact wpOp_of_step hrefl f2 (fun a w hh => wpC_of_tree hrefl htr hsel hQ ti _ a w f5 hh) h.1
    · rw [e]; exact wpOp_of_step hrefl f3 (fun a w hh => by rw [f8]; exact wpC_of_tree hrefl htr hsel hQ tj _ a w f6 hh) h.2.1
    · rw [e]; exact wpOp_of_step hrefl f4 (fun a w hh => by rw [f9]; exact wpC_of_tree hrefl htr hsel hQ tk _ a w f7 hh) h.2.2
/-- A region: reads by one order, then a tree of orders. -/
theorem wp_region_tree {id : Nat} {a : Act} {w : World} (R : World → World → Prop) (ds : List Nat) (π : List (Nat × Nat)) (t : OT) (l : List (Oper × Nat)) (hm : P.follows .mixedOrders = true) (hrefl : ∀ w, R w w) (htr : ∀ w w' w'', R w w' → R w' w'' → R w w'')
    (hc : (Region.noSelect ops && readsB .any ops ds π (Array.replicate ops.size false) && t.ok .any ops ds (listedBy π (Array.replicate ops.size false)) && (π.length + t.size == ops.size)) = true) (hl : pick ops π = l)
    (hQ : ∀ c a d v w, Q (.panic c) (Act.put a d v) w → Q (.panic c) a w)
    (h : wpK P ops (thenQ Q fun a' w' => t.wp P ops Q R a' w') R l a w.drew) : (Code.region id ops true).wp P Q a w := by
  subst hl
  simp only [Bool.and_eq_true, beq_iff_eq] at hc
  obtain ⟨⟨⟨hsel, f1⟩, f2⟩, f3⟩ := hc
  refine wp_region_any hm (wpAny_of_wpC (R := R) (ds := ds) _ _ _ _ ?_)
  have e8 := wpC_of_reads (md := .any) (ops := ops) (Q := Q) (R := R) (ds := ds) hrefl htr hsel hQ _ t.size π _ a _ f1 (fun a' w' hh => wpC_of_tree hrefl htr hsel hQ t _ a' w' f2 hh) h
  rw [f3] at e8
  exact e8
theorem stepK_call {i : Nat × Nat} {C : Act → World → Prop} {o : Oper} {a : Act} {w : World} {f : FuncId} {fn : Func} (ho : ops[i.1]? = some o) (hf : P.funcs[f]? = some fn) (hname : (fn.name == "runtime.NumGoroutine") = false) (hb : fn.body.isSome = true) {xs : Array Operand} {ts : Array TypeId} (hop : o.op = .call { callee := .value (.func f), args := xs, argTypes := ts })
    (hw : Region.wanted o (yielded ops a.tmps) = true) (args : Array Value) (hargs : xs.map a.eval = args)
    (h : Calls P f args w fun e w' => ∃ v, e = .returned v ∧ (i.2 = 0 → R w w') ∧ C (a.put o.dst v) w') : stepK P ops Q R i C a w := by
  refine ⟨o, ho, ?_⟩
  rw [if_pos hw]
  have he := enters hf hname hb args w
  have hrun : (execOp a.eval o).run P w = .ok (.enter f args) w := by
    unfold execOp
    simp [hop, resolve, Deferred.ofValue, invoke, Act.eval, hargs, he]
  unfold Oper.wp
  rw [hrun, Oper.upon_enter]
  refine h.mono fun e w'' hh => ?_
  obtain ⟨v, rfl, hk⟩ := hh
  exact hk
theorem stepK_v {i : Nat × Nat} {C : Act → World → Prop} {o : Oper} {a a' : Act} {w w' : World} {v : Value} (ho : ops[i.1]? = some o) (hw : Region.wanted o (yielded ops a.tmps) = true) (hrun : (execOp a.eval o).run P w = .ok (.value v) w') (hR : i.2 = 0 → R w w') (ha : a.put o.dst v = a')
    (h : C a' w') : stepK P ops Q R i C a w := by
  subst ha
  refine ⟨o, ho, ?_⟩
  rw [if_pos hw]
  unfold Oper.wp
  rw [hrun]
  exact ⟨hR, h⟩
end
end Go.Proofs.Ytoaeapnkefjpaaa

namespace Go.Proofs.Ytoaeapnkefjpaaa
open Go.RowKit
set_option linter.unusedVariables false
set_option linter.unusedSimpArgs false

theorem psave_nil (w : World) (ao : Option Addr) (n cap : Nat) : Calls Try.prog 42 #[.pointer none, .slice ao n cap] w fun e w' => e = .returned (I 2) ∧ Below w.heap.size w w' := by
  go_enter Try.func42, Try.ntmps42
  go_wp2
  go_ret
  exact ⟨rfl, ((Below.refl _ _).alloc (Nat.le_refl _) _).alloc (by simp) _⟩
set_option maxRecDepth 100000 in
/-- Through Save's door. -/
theorem psave_door (z : Nat) (W : World) (q t p : Nat) (own0 : Nat → Prop) (P : PS) (vb : Value) (b : List UInt8) (ba bn : Nat) (D : DS) (X : Int × DS × PS)
    (hs : SIn z q vb (1 - P.half) (1 + (1 - P.half) * PS.hp D.safe.length) (PS.takes b.length) ba bn W) (hp : PairIn W q t p D.safe.length P) (hd : DrumAt W p own0 D) (hlt : ∀ j, own0 j → j < z) (hq : q < z) (ht : t < z) (hnq : ¬ own0 q) (hnt : ¬ own0 t) (hz : z + 5 ≤ W.heap.size)
    (hv : Sees W vb b) (hK : PS.takes b.length < PS.hp D.safe.length) (hP0 : P.sick = 0) (hX : X = PS.save D P b) (hN : D.waits.length ≤ 700000000) :
    Calls Try.prog 77 #[.func (.func 88) #[] #[.pointer (some ⟨z + 1, 0, none⟩), .pointer (some ⟨bn, 0, none⟩), .pointer (some ⟨z, 0, none⟩), .pointer (some ⟨ba, 0, none⟩), .pointer (some ⟨z + 2, 0, none⟩)]] W fun e w' =>
      e = .returned (I X.1) ∧ ∃ W1 w1, Below W.heap.size W W1 ∧ SEnd z W1 q t p D.safe.length own0 P X w1 ∧ W1.heap.size = W.heap.size + 1 ∧ Mod (fun k => k = W.heap.size) w1 w' := by
  refine (guard_any W 88 _ (fun c w1 => c = X.1 ∧ ∃ W1, Below W.heap.size W W1 ∧ SEnd z W1 q t p D.safe.length own0 P X w1 ∧ W1.heap.size = W.heap.size + 1) (fun _ => rfl) (fun w1 hb hz1 => ?_)).mono ?_
  · refine (psave_in z w1 q t p own0 P vb b ba bn D X (hs.keep (fun j _ hj => hb.block j (by omega))) (hp.below hb) (hd.below hb) hlt hq ht hnq hnt (by omega) (hv.below hb) hK hP0 hX hN).mono fun e w' h => ?_
    refine ⟨X.1, h.1, ⟨rfl, w1, hb, h.2, hz1⟩, ?_⟩
    obtain ⟨t', own', h1, h2, h3, h4, h5, h6⟩ := h.2
    refine h6.block _ (by omega) (fun e => ?_)
    rcases e with e | e
    · have := hlt _ e; omega
    · omega
  · rintro e w' ⟨c, w1, rfl, ⟨rfl, W1, h1, h2, h3⟩, hs2, hm⟩
    exact ⟨rfl, W1, w1, h1, h2, h3, hm⟩
set_option maxRecDepth 100000 in
/-- Save, refused ahead of its work: too long, or sick. -/
theorem psave_no (w : World) (q t p : Nat) (own : Nat → Prop) (P : PS) (D : DS) (v : Value) (b : List UInt8) (h : PairIn w q t p D.safe.length P) (hd : DrumAt w p own D) (hv : Sees w v b) (hb : b.length ≤ 1073741824) (hno : PS.hp D.safe.length ≤ PS.takes b.length ∨ P.sick ≠ 0) :
    Calls Try.prog 42 #[.pointer (some ⟨q, 0, none⟩), v] w fun e w' => e = .returned (I (PS.save D P b).1) ∧ Below w.heap.size w w' := by
  obtain ⟨ao, cap, rfl, -⟩ := hv.form0
  have hn := hd.ok.n2
  obtain ⟨W, hW⟩ : ∃ W, W = (w.alloc (.cells #[.pointer (some ⟨q, 0, none⟩)] 44)).alloc (.cells #[.slice ao b.length cap] 23) := ⟨_, rfl⟩
  have hbW : Below w.heap.size w W := by rw [hW]; exact ((Below.refl _ _).alloc (Nat.le_refl _) _).alloc (by simp) _
  have g0 : W.heap[w.heap.size]? = some (.cells #[.pointer (some ⟨q, 0, none⟩)] 44 (0, 0)) := by rw [hW]; exact (Below.heap_alloc _ _ _ (by simp)).trans (heap_alloc_new _ _)
  have g1 : W.heap[w.heap.size + 1]? = some (.cells #[.slice ao b.length cap] 23 (0, 0)) := by rw [hW]; exact heap_alloc_at (by simp)
  have hz : W.heap.size = w.heap.size + 2 := by rw [hW]; simp
  have k0 : ∀ w', Ext W.drew w' → w'.cell? ⟨w.heap.size, 0, none⟩ = some (.pointer (some ⟨q, 0, none⟩)) := fun w' hh => by rw [cell_of_row w' _ _ _ _ _ ((hh.block _ (show _ < W.heap.size by omega)).trans g0)]; rfl
  have k1 : ∀ w', Ext W.drew w' → w'.cell? ⟨w.heap.size + 1, 0, none⟩ = some (.slice ao b.length cap) := fun w' hh => by rw [cell_of_row w' _ _ _ _ _ ((hh.block _ (show _ < W.heap.size by omega)).trans g1)]; rfl
  have HPW := hid (h.below hbW)
  have kp : ∀ w', Ext W.drew w' → w'.cell? ⟨q, 0, none⟩ = some (.pointer (some ⟨p, 0, none⟩)) := fun w' hh => (HPW.out.below (Ext.trans _ _ _ (Ext.drew W) hh)).c0
  have hpp := ppages_any W.drew p own D (hd.below (hbW.trans ((Ext.drew W).mono hbW.size))) (by have := h.n5; omega)
  have htk := fun w => takes_any w b.length (by omega)
  have HPP := hid hpp
  have HTK := hid htk
  have HBW := hid hbW
  have HWW := hid hW
  have HNO := hid hno
  have H := hid h
  clear hpp htk hbW g0 g1 hv hd hno h
  go_enter Try.func42, Try.ntmps42
  go_upto_region 3 with (fail)
  rw [← HWW.out]
  clear hW
  obtain ⟨K, hK⟩ : ∃ K, K = PS.takes b.length := ⟨_, rfl⟩
  obtain ⟨Z, hZ⟩ : ∃ Z, Z = PS.hp D.safe.length := ⟨_, rfl⟩
  have hs1 : PS.save D P b = if Z ≤ K then (3, D, P) else if P.sick ≠ 0 then (P.sick, D, P) else (PS.save D P b) := by
    rw [hK, hZ]; unfold PS.save; split; rfl; split; rfl; rfl
  have HS1 := hid hs1
  rw [← hK] at HTK
  rw [← hZ] at HPP
  rw [← hK, ← hZ] at HNO
  have hZb : Z ≤ 4096 := by rw [hZ]; unfold PS.hp; omega
  have hKb : K ≤ 1073741824 := by rw [hK]; unfold PS.takes; omega
  clear hs1 hK hZ hn
  have c0 := k0 _ (Ext.refl _)
  have c3 := (HPW.out.below (Ext.drew W)).c3
  by_cases hl : Z ≤ K
  · have hl2 : (Z : Int) ≤ (K : Int) := by omega
    have HL := hid hl
    clear hl c0 c3
    refine wp_region_order Ext [] [(0,0),(1,0),(3,0),(4,0),(5,0),(6,0),(2,1),(7,1),(8,0),(9,0)] _ (by kernel_rfl) rfl Ext.refl Ext.trans (by kernel_rfl) (by simp only [pick, List.getElem?_toArray, List.getElem?_cons_zero, List.getElem?_cons_succ]; rfl) (fun c a d v w h => by cases d <;> exact h) ?_
    refine wpK_q (v := ?_) (a' := ?_) (by rfl) (fun w' hR => ?_) ?_ ?_
    rotate_left 2
    · go_simp; with_reducible rfl
    · simp only [Act.put, List.setIfInBounds_toArray, List.set_cons_zero, List.set_cons_succ]; rfl
    refine wpK_q (v := ?_) (a' := ?_) (by rfl) (fun w' hR => ?_) ?_ ?_
    rotate_left 2
    · go_simp; with_reducible rfl
    · simp only [Act.put, List.setIfInBounds_toArray, List.set_cons_zero, List.set_cons_succ]; rfl
    refine wpK_q (v := ?_) (a' := ?_) (by rfl) (fun w' hR => ?_) ?_ ?_
    rotate_left 2
    · go_simp; with_reducible rfl
    · simp only [Act.put, List.setIfInBounds_toArray, List.set_cons_zero, List.set_cons_succ]; rfl
    refine wpK_q (v := ?_) (a' := ?_) (by rfl) (fun w' hR => ?_) ?_ ?_
    rotate_left 2
    · go_simp; with_reducible rfl
    · simp only [Act.put, List.setIfInBounds_toArray, List.set_cons_zero, List.set_cons_succ]; rfl
    refine wpK_q (v := ?_) (a' := ?_) (by rfl) (fun w' hR => ?_) ?_ ?_
    rotate_left 2
    · go_simp; with_reducible rfl
    · simp only [Act.put, List.setIfInBounds_toArray, List.set_cons_zero, List.set_cons_succ]; rfl
    refine wpK_q (v := ?_) (a' := ?_) (by rfl) (fun w' hR => ?_) ?_ ?_
    rotate_left 2
    · go_simp; with_reducible rfl
    · simp only [Act.put, List.setIfInBounds_toArray, List.set_cons_zero, List.set_cons_succ]; rfl
    refine wpK_call Try.func87 (by kernel_rfl) rfl rfl (by rfl) #[I b.length] (by simp only [List.map_toArray, List.map_cons, List.map_nil]; rfl) ?_
    refine (HTK.out _).mono ?_
    rintro e w1 ⟨rfl, rfl⟩
    refine ⟨_, rfl, fun _ => Ext.refl _, ?_⟩
    refine wpK_call Try.func83 (by kernel_rfl) rfl rfl (by rfl) #[.pointer (some ⟨p, 0, none⟩)] (by simp only [List.map_toArray, List.map_cons, List.map_nil]; rfl) ?_
    refine HPP.out.mono ?_
    rintro e w1 ⟨rfl, rfl⟩
    refine ⟨_, rfl, fun _ => Ext.refl _, ?_⟩
    refine wpK_q (v := ?_) (a' := ?_) (by rfl) (fun w' hR => ?_) ?_ ?_
    rotate_left 2
    · go_simp; with_reducible rfl
    · simp only [Act.put, List.setIfInBounds_toArray, List.set_cons_zero, List.set_cons_succ]; rfl
    refine wpK_q (v := ?_) (a' := ?_) (by rfl) (fun w' hR => ?_) ?_ ?_
    rotate_left 2
    · go_simp; with_reducible rfl
    · simp only [Act.put, List.setIfInBounds_toArray, List.set_cons_zero, List.set_cons_succ]; rfl
    refine wpK_done ?_
    clear k0 k1 kp
    go_wp2
    go_ret
    rw [HS1.out, if_pos HL.out]
    exact ⟨rfl, HBW.out.trans ((Ext.drew W).mono HBW.out.size)⟩
  · have hl2 : ¬ (Z : Int) ≤ (K : Int) := by omega
    have HL := hid hl
    have hsk : P.sick ≠ 0 := by rcases HNO.out with h | h; exact absurd h hl; exact h
    have hne : (P.sick != 0) = true := by simpa using hsk
    have HSK := hid hsk
    clear hl hsk
    refine wp_region_order Ext [] [(0,0),(1,0),(3,0),(4,0),(5,0),(6,0),(2,1),(7,1),(8,0),(9,0)] _ (by kernel_rfl) rfl Ext.refl Ext.trans (by kernel_rfl) (by simp only [pick, List.getElem?_toArray, List.getElem?_cons_zero, List.getElem?_cons_succ]; rfl) (fun c a d v w h => by cases d <;> exact h) ?_
    refine wpK_q (v := ?_) (a' := ?_) (by rfl) (fun w' hR => ?_) ?_ ?_
    rotate_left 2
    · go_simp; with_reducible rfl
    · simp only [Act.put, List.setIfInBounds_toArray, List.set_cons_zero, List.set_cons_succ]; rfl
    refine wpK_q (v := ?_) (a' := ?_) (by rfl) (fun w' hR => ?_) ?_ ?_
    rotate_left 2
    · go_simp; with_reducible rfl
    · simp only [Act.put, List.setIfInBounds_toArray, List.set_cons_zero, List.set_cons_succ]; rfl
    refine wpK_q (v := ?_) (a' := ?_) (by rfl) (fun w' hR => ?_) ?_ ?_
    rotate_left 2
    · go_simp; with_reducible rfl
    · simp only [Act.put, List.setIfInBounds_toArray, List.set_cons_zero, List.set_cons_succ]; rfl
    refine wpK_q (v := ?_) (a' := ?_) (by rfl) (fun w' hR => ?_) ?_ ?_
    rotate_left 2
    · go_simp; with_reducible rfl
    · simp only [Act.put, List.setIfInBounds_toArray, List.set_cons_zero, List.set_cons_succ]; rfl
    refine wpK_q (v := ?_) (a' := ?_) (by rfl) (fun w' hR => ?_) ?_ ?_
    rotate_left 2
    · go_simp; with_reducible rfl
    · simp only [Act.put, List.setIfInBounds_toArray, List.set_cons_zero, List.set_cons_succ]; rfl
    refine wpK_q (v := ?_) (a' := ?_) (by rfl) (fun w' hR => ?_) ?_ ?_
    rotate_left 2
    · go_simp; with_reducible rfl
    · simp only [Act.put, List.setIfInBounds_toArray, List.set_cons_zero, List.set_cons_succ]; rfl
    refine wpK_call Try.func87 (by kernel_rfl) rfl rfl (by rfl) #[I b.length] (by simp only [List.map_toArray, List.map_cons, List.map_nil]; rfl) ?_
    refine (HTK.out _).mono ?_
    rintro e w1 ⟨rfl, rfl⟩
    refine ⟨_, rfl, fun _ => Ext.refl _, ?_⟩
    refine wpK_call Try.func83 (by kernel_rfl) rfl rfl (by rfl) #[.pointer (some ⟨p, 0, none⟩)] (by simp only [List.map_toArray, List.map_cons, List.map_nil]; rfl) ?_
    refine HPP.out.mono ?_
    rintro e w1 ⟨rfl, rfl⟩
    refine ⟨_, rfl, fun _ => Ext.refl _, ?_⟩
    refine wpK_q (v := ?_) (a' := ?_) (by rfl) (fun w' hR => ?_) ?_ ?_
    rotate_left 2
    · go_simp; with_reducible rfl
    · simp only [Act.put, List.setIfInBounds_toArray, List.set_cons_zero, List.set_cons_succ]; rfl
    refine wpK_q (v := ?_) (a' := ?_) (by rfl) (fun w' hR => ?_) ?_ ?_
    rotate_left 2
    · go_simp; with_reducible rfl
    · simp only [Act.put, List.setIfInBounds_toArray, List.set_cons_zero, List.set_cons_succ]; rfl
    refine wpK_done ?_
    clear k0 k1 kp
    go_wp2
    go_ret
    rw [HS1.out, if_neg HL.out, if_pos HSK.out]
    exact ⟨rfl, HBW.out.trans ((Ext.drew W).mono HBW.out.size)⟩
end Go.Proofs.Ytoaeapnkefjpaaa

namespace Go.Proofs.Ytoaeapnkefjpaaa
open Go.RowKit
set_option linter.unusedVariables false
set_option linter.unusedSimpArgs false
/-- The tree's steps, with what is asked where its leaves stand. -/
def OT.wpS (P : Program) (ops : Array Oper) (Q : Exit → Act → World → Prop) (R : World → World → Prop) (S : Act → World → Prop) : OT → Act → World → Prop
  | .leaf _, a, w => S a w
  | .one i ti, a, w => stepK P ops Q R i (ti.wpS P ops Q R S) a w
  | .two i ti j tj, a, w => stepK P ops Q R i (ti.wpS P ops Q R S) a w ∧ stepK P ops Q R j (tj.wpS P ops Q R S) a w
  | .three i ti j tj k tk, a, w => stepK P ops Q R i (ti.wpS P ops Q R S) a w ∧ stepK P ops Q R j (tj.wpS P ops Q R S) a w ∧ stepK P ops Q R k (tk.wpS P ops Q R S) a w
/-- All leaves are alike. -/
def OT.all (π : List (Nat × Nat)) : OT → Bool
  | .leaf x => x == π
  | .one _ ti => ti.all π
  | .two _ ti _ tj => ti.all π && tj.all π
  | .three _ ti _ tj _ tk => ti.all π && tj.all π && tk.all π
section
variable {P : Program} {ops : Array Oper} {Q : Exit → Act → World → Prop} {R : World → World → Prop} {S : Act → World → Prop}
theorem stepK.mono {i : Nat × Nat} {C C' : Act → World → Prop} {a : Act} {w : World} (h : ∀ a w, C a w → C' a w) (h1 : stepK P ops Q R i C a w) : stepK P ops Q R i C' a w := by
  obtain ⟨oi, ho, h1⟩ := h1
  refine ⟨oi, ho, ?_⟩
  by_cases hw : Region.wanted oi (yielded ops a.tmps) = true
  · rw [if_pos hw] at h1 ⊢
    exact Oper.wp_mono (fun a' w' hh => ⟨hh.1, h _ _ hh.2⟩) h1
  · rw [if_neg hw] at h1 ⊢
    exact h _ _ h1
theorem OT.wp_of {π : List (Nat × Nat)} (hS : ∀ a w, S a w → wpK P ops Q R (pick ops π) a w) : ∀ (t : OT) (a : Act) (w : World), t.all π = true → t.wpS P ops Q R S a w → t.wp P ops Q R a w
  | .leaf x, a, w, ha, h => by
    have e : x = π := by simpa [OT.all] using ha
    subst e
    exact hS a w h
  | .one i ti, a, w, ha, h => stepK.mono (fun a w hh => OT.wp_of hS ti a w ha hh) h
  | .two i ti j tj, a, w, ha, h => by
    simp only [OT.all, Bool.and_eq_true] at ha
    exact ⟨stepK.mono (fun a w hh => OT.wp_of hS ti a w ha.1 hh) h.1, stepK.mono (fun a w hh => OT.wp_of hS tj a w ha.2 hh) h.2⟩
  | .three i ti j tj k tk, a, w, ha, h => by
    simp only [OT.all, Bool.and_eq_true] at ha
    exact ⟨stepK.mono (fun a w hh => OT.wp_of hS ti a w ha.1.1 hh) h.1, stepK.mono (fun a w hh => OT.wp_of hS tj a w ha.1.2 hh) h.2.1, stepK.mono (fun a w hh => OT.wp_of hS tk a w ha.2 hh) h.2.2⟩
theorem OT.s_leaf {π : List (Nat × Nat)} {a : Act} {w : World} (h : S a w) : (OT.leaf π).wpS P ops Q R S a w := h
theorem OT.s_one {i : Nat × Nat} {ti : OT} {a : Act} {w : World} (h : stepK P ops Q R i (ti.wpS P ops Q R S) a w) : (OT.one i ti).wpS P ops Q R S a w := h
theorem OT.s_two {i j : Nat × Nat} {ti tj : OT} {a : Act} {w : World} (h : stepK P ops Q R i (ti.wpS P ops Q R S) a w) (h2 : stepK P ops Q R j (tj.wpS P ops Q R S) a w) : (OT.two i ti j tj).wpS P ops Q R S a w := ⟨h, h2⟩
theorem OT.s_three {i j k : Nat × Nat} {ti tj tk : OT} {a : Act} {w : World} (h : stepK P ops Q R i (ti.wpS P ops Q R S) a w) (h2 : stepK P ops Q R j (tj.wpS P ops Q R S) a w) (h3 : stepK P ops Q R k (tk.wpS P ops Q R S) a w) : (OT.three i ti j tj k tk).wpS P ops Q R S a w := ⟨h, h2, h3⟩
end
theorem exec_alloc3 {a : Act} {o : Oper} {w : World} (ho : o.op = .alloc 3) : (execOp a.eval o).run Try.prog w = .ok (.value (.pointer (some ⟨w.heap.size, 0, none⟩))) (w.alloc (.cells #[I 0] 3)) := by
  unfold execOp
  rw [ho]
  kernel_rfl
theorem Ext.alloc3 (w : World) : Ext w (w.alloc (.cells #[I 0] 3)) := (Below.refl _ _).alloc (Nat.le_refl _) _
theorem stepK_call' {P : Program} {ops : Array Oper} {Q : Exit → Act → World → Prop} {R : World → World → Prop} {i : Nat × Nat} {C : Act → World → Prop} {o : Oper} {a a' : Act} {w : World} {v : Value} {f : FuncId} {fn : Func} (ho : ops[i.1]? = some o) (hf : P.funcs[f]? = some fn) (hname : (fn.name == "runtime.NumGoroutine") = false) (hb : fn.body.isSome = true) {xs : Array Operand} {ts : Array TypeId} (hop : o.op = .call { callee := .value (.func f), args := xs, argTypes := ts })
    (hw : Region.wanted o (yielded ops a.tmps) = true) (args : Array Value) (hargs : xs.map a.eval = args) (ha : a.put o.dst v = a')
    (h : Calls P f args w fun e w' => e = .returned v ∧ w = w') (hR : i.2 = 0 → R w w) (hC : C a' w) : stepK P ops Q R i C a w := by
  refine stepK_call ho hf hname hb hop hw args hargs (h.mono ?_)
  rintro e w' ⟨rfl, rfl⟩
  exact ⟨v, rfl, hR, by rw [ha]; exact hC⟩
/-- The orders of Save's eighth region, behind its reads. -/
def sLeaf : OT := .leaf [(11, 2), (12, 2)]
def saveOrders : OT :=
  .three (5, 0) (.three (8, 0) (.two (9, 0) (.one (10, 0) sLeaf) (10, 0) (.one (9, 0) sLeaf)) (9, 0) (.two (8, 0) (.one (10, 0) sLeaf) (10, 0) (.one (8, 0) sLeaf)) (10, 0) (.two (8, 0) (.one (9, 0) sLeaf) (9, 0) (.one (8, 0) sLeaf)))
    (9, 0) (.two (5, 0) (.two (8, 0) (.one (10, 0) sLeaf) (10, 0) (.one (8, 0) sLeaf)) (10, 0) (.one (5, 0) (.one (8, 0) sLeaf)))
    (10, 0) (.two (5, 0) (.two (8, 0) (.one (9, 0) sLeaf) (9, 0) (.one (8, 0) sLeaf)) (9, 0) (.one (5, 0) (.one (8, 0) sLeaf)))
theorem TS.found_bd {S : List UInt8} {a c : Nat} {e : Int} (h : TS.found S a c = .bad e) : e = 11 ∨ e = 12 := by
  unfold TS.found at h
  split at h
  · cases h
  · split at h
    · cases h
    · split at h
      · split at h
        · cases h
        · cases h; exact .inr rfl
      · cases h; exact .inl rfl
theorem TS.opened_bd : ∀ (k : Nat) (S : List UInt8) (a c : Nat) (acc : List (List UInt8)), (TS.opened S k a c acc).1 = 0 ∨ (TS.opened S k a c acc).1 = 11 ∨ (TS.opened S k a c acc).1 = 12
  | 0, S, a, c, acc => .inl rfl
  | k + 1, S, a, c, acc => by
    rw [TS.opened]
    split
    · exact .inl rfl
    · rename_i e h
      exact .inr (TS.found_bd h)
    · exact TS.opened_bd k S _ _ _
theorem TS.opn_bd (D : DS) (lo hi : Int) : 0 ≤ (TS.opn D lo hi).1 ∧ (TS.opn D lo hi).1 ≤ 20 := by
  unfold TS.opn
  split
  · simp only; omega
  · split
    · simp only; omega
    · have := TS.opened_bd ((hi.toNat - lo.toNat) * 256 + 1) (TS.stretch D lo.toNat (hi.toNat - lo.toNat)) 0 0 []
      omega
theorem PS.lay_code (D : DS) (a h : Nat) (b : List UInt8) : Code1 (PS.lay D a h b).1 := by
  unfold PS.lay
  simp only
  split
  · exact TS.wr_code _ _ _
  · split
    · exact DS.write_code _ _ _
    · split
      · exact DS.Flush_code _
      · split
        · exact DS.write_code _ _ _
        · exact DS.Flush_code _
/-- What a save leaves as its sickness. -/
theorem PS.save_sick {D : DS} {P : PS} {b : List UInt8} (h1 : PS.takes b.length < PS.hp D.safe.length) (h2 : P.sick = 0) : (PS.save D P b).2.2.sick = (PS.save D P b).1 ∧ -9223372036854775808 ≤ (PS.save D P b).1 ∧ (PS.save D P b).1 ≤ 9223372036854775807 := by
  have hc := (PS.lay_code D (1 + (1 - P.half) * PS.hp D.safe.length) (1 - P.half) b).bd
  have ho := TS.opn_bd (PS.lay D (1 + (1 - P.half) * PS.hp D.safe.length) (1 - P.half) b).2 ((1 + (1 - P.half) * PS.hp D.safe.length) + PS.takes b.length : Nat) ((1 + (1 - P.half) * PS.hp D.safe.length) + PS.hp D.safe.length : Nat)
  unfold PS.save
  rw [if_neg (by omega), if_neg (by simpa using h2)]
  simp only
  split
  · exact ⟨rfl, hc⟩
  · split
    · exact ⟨rfl, by simp only; omega, by simp only; omega⟩
    · exact ⟨rfl, by simp only; omega, by simp only; omega⟩
set_option maxRecDepth 100000 in
set_option maxHeartbeats 3200000 in
theorem psave_yes (w : World) (q t p : Nat) (own : Nat → Prop) (P : PS) (D : DS) (v : Value) (b : List UInt8) (h : PairIn w q t p D.safe.length P) (hd : DrumAt w p own D) (hv : Sees w v b) (hb : b.length ≤ 1073741824) (hq : ¬ own q) (ht : ¬ own t) (hK : PS.takes b.length < PS.hp D.safe.length) (hP0 : P.sick = 0) (hN : D.waits.length ≤ 700000000) :
    Calls Try.prog 42 #[.pointer (some ⟨q, 0, none⟩), v] w fun e w' => ∃ t', e = .returned (I (PS.save D P b).1) ∧ PairIn w' q t' p D.safe.length (PS.save D P b).2.2 ∧ (t' = t ∨ w.heap.size ≤ t') ∧ ∃ own', DrumAt w' p own' (PS.save D P b).2.1 ∧ (∀ j, own' j → own j ∨ w.heap.size ≤ j) ∧ ¬ own' t' ∧ Mod (fun j => own j ∨ j = q) w w' := by
  obtain ⟨ao, cap, rfl, -⟩ := hv.form0
  have hn := hd.ok.n2
  obtain ⟨W, hW⟩ : ∃ W, W = (w.alloc (.cells #[.pointer (some ⟨q, 0, none⟩)] 44)).alloc (.cells #[.slice ao b.length cap] 23) := ⟨_, rfl⟩
  have hbW : Below w.heap.size w W := by rw [hW]; exact ((Below.refl _ _).alloc (Nat.le_refl _) _).alloc (by simp) _
  have g0 : W.heap[w.heap.size]? = some (.cells #[.pointer (some ⟨q, 0, none⟩)] 44 (0, 0)) := by rw [hW]; exact (Below.heap_alloc _ _ _ (by simp)).trans (heap_alloc_new _ _)
  have g1 : W.heap[w.heap.size + 1]? = some (.cells #[.slice ao b.length cap] 23 (0, 0)) := by rw [hW]; exact heap_alloc_at (by simp)
  have hz : W.heap.size = w.heap.size + 2 := by rw [hW]; simp
  have k0 : ∀ w', Ext W.drew w' → w'.cell? ⟨w.heap.size, 0, none⟩ = some (.pointer (some ⟨q, 0, none⟩)) := fun w' hh => by rw [cell_of_row w' _ _ _ _ _ ((hh.block _ (show _ < W.heap.size by omega)).trans g0)]; rfl
  have k1 : ∀ w', Ext W.drew w' → w'.cell? ⟨w.heap.size + 1, 0, none⟩ = some (.slice ao b.length cap) := fun w' hh => by rw [cell_of_row w' _ _ _ _ _ ((hh.block _ (show _ < W.heap.size by omega)).trans g1)]; rfl
  have HPW := hid (h.below hbW)
  have kp : ∀ w', Ext W.drew w' → w'.cell? ⟨q, 0, none⟩ = some (.pointer (some ⟨p, 0, none⟩)) := fun w' hh => (HPW.out.below (Ext.trans _ _ _ (Ext.drew W) hh)).c0
  have hpp := ppages_any W.drew p own D (hd.below (hbW.trans ((Ext.drew W).mono hbW.size))) (by have := h.n5; omega)
  have htk := fun w => takes_any w b.length (by omega)
  have HPP := hid hpp
  have HTK := hid htk
  have HBW := hid hbW
  have HWW := hid hW
  have HH := hid h
  have HD := hid hd
  have HV := hid hv
  have HQ := hid hq
  have HT := hid ht
  have HK := hid hK
  have hl2 : ¬ ((PS.hp D.safe.length : Nat) : Int) ≤ ((PS.takes b.length : Nat) : Int) := by omega
  have hne : (P.sick != 0) = false := by rw [hP0]; rfl
  have HP0 := hid hP0
  have G0 := hid g0
  have G1 := hid g1
  clear hpp htk hbW g0 g1 hv hd h hW hq ht hK hP0
  go_enter Try.func42, Try.ntmps42
  go_upto_region 3 with (fail)
  rw [← HWW.out]
  have c0 := k0 _ (Ext.refl _)
  have c3 := (HPW.out.below (Ext.drew W)).c3
  have c2 := (HPW.out.below (Ext.drew W)).c2
  refine wp_region_order Ext [] [(0,0),(1,0),(3,0),(4,0),(5,0),(6,0),(2,1),(7,1),(8,0),(9,0)] _ (by kernel_rfl) rfl Ext.refl Ext.trans (by kernel_rfl) (by simp only [pick, List.getElem?_toArray, List.getElem?_cons_zero, List.getElem?_cons_succ]; rfl) (fun c a d v w h => by cases d <;> exact h) ?_
  refine wpK_q (v := ?_) (a' := ?_) (by rfl) (fun w' hR => ?_) ?_ ?_
  rotate_left 2
  · go_simp; with_reducible rfl
  · simp only [Act.put, List.setIfInBounds_toArray, List.set_cons_zero, List.set_cons_succ]; rfl
  refine wpK_q (v := ?_) (a' := ?_) (by rfl) (fun w' hR => ?_) ?_ ?_
  rotate_left 2
  · go_simp; with_reducible rfl
  · simp only [Act.put, List.setIfInBounds_toArray, List.set_cons_zero, List.set_cons_succ]; rfl
  refine wpK_q (v := ?_) (a' := ?_) (by rfl) (fun w' hR => ?_) ?_ ?_
  rotate_left 2
  · go_simp; with_reducible rfl
  · simp only [Act.put, List.setIfInBounds_toArray, List.set_cons_zero, List.set_cons_succ]; rfl
  refine wpK_q (v := ?_) (a' := ?_) (by rfl) (fun w' hR => ?_) ?_ ?_
  rotate_left 2
  · go_simp; with_reducible rfl
  · simp only [Act.put, List.setIfInBounds_toArray, List.set_cons_zero, List.set_cons_succ]; rfl
  refine wpK_q (v := ?_) (a' := ?_) (by rfl) (fun w' hR => ?_) ?_ ?_
  rotate_left 2
  · go_simp; with_reducible rfl
  · simp only [Act.put, List.setIfInBounds_toArray, List.set_cons_zero, List.set_cons_succ]; rfl
  refine wpK_q (v := ?_) (a' := ?_) (by rfl) (fun w' hR => ?_) ?_ ?_
  rotate_left 2
  · go_simp; with_reducible rfl
  · simp only [Act.put, List.setIfInBounds_toArray, List.set_cons_zero, List.set_cons_succ]; rfl
  refine wpK_call Try.func87 (by kernel_rfl) rfl rfl (by rfl) #[I b.length] (by simp only [List.map_toArray, List.map_cons, List.map_nil]; rfl) ?_
  refine (HTK.out _).mono ?_
  rintro e w1 ⟨rfl, rfl⟩
  refine ⟨_, rfl, fun _ => Ext.refl _, ?_⟩
  refine wpK_call Try.func83 (by kernel_rfl) rfl rfl (by rfl) #[.pointer (some ⟨p, 0, none⟩)] (by simp only [List.map_toArray, List.map_cons, List.map_nil]; rfl) ?_
  refine HPP.out.mono ?_
  rintro e w1 ⟨rfl, rfl⟩
  refine ⟨_, rfl, fun _ => Ext.refl _, ?_⟩
  refine wpK_q (v := ?_) (a' := ?_) (by rfl) (fun w' hR => ?_) ?_ ?_
  rotate_left 2
  · go_simp; with_reducible rfl
  · simp only [Act.put, List.setIfInBounds_toArray, List.set_cons_zero, List.set_cons_succ]; rfl
  refine wpK_q (v := ?_) (a' := ?_) (by rfl) (fun w' hR => ?_) ?_ ?_
  rotate_left 2
  · go_simp; with_reducible rfl
  · simp only [Act.put, List.setIfInBounds_toArray, List.set_cons_zero, List.set_cons_succ]; rfl
  refine wpK_done ?_
  clear k0 k1 kp
  go_upto_region 8 with (fail)
  obtain ⟨hf, hhf⟩ : ∃ hf, hf = 1 - P.half := ⟨_, rfl⟩
  have hwr : wrap64 (1 - (P.half : Int)) = (hf : Int) := by have := HH.out.half; unfold wrap64; omega
  rw [hwr]
  obtain ⟨K, hKe⟩ : ∃ K, K = PS.takes b.length := ⟨_, rfl⟩
  obtain ⟨A, hA0⟩ : ∃ A, A = 1 + hf * PS.hp D.safe.length := ⟨_, rfl⟩
  obtain ⟨W3, hW3⟩ : ∃ W3, W3 = (W.alloc (.cells #[I hf] 3)).drew := ⟨_, rfl⟩
  have hb3 : Below W.heap.size W W3 := by rw [hW3]; exact ((Below.refl _ _).alloc (Nat.le_refl _) _).trans ((Ext.drew _).mono (by simp))
  have hz3 : W3.heap.size = w.heap.size + 3 := by rw [hW3]; show (W.alloc _).heap.size = _; simp; omega
  have g2 : W3.heap[w.heap.size + 2]? = some (.cells #[I hf] 3 (0, 0)) := by rw [hW3]; exact heap_alloc_at hz
  rw [← hW3]
  have k0 : ∀ w', Ext W3.drew w' → w'.cell? ⟨w.heap.size, 0, none⟩ = some (.pointer (some ⟨q, 0, none⟩)) := fun w' hh => by rw [cell_of_row w' _ _ _ _ _ ((hh.block _ (show _ < W3.heap.size by omega)).trans ((hb3.block _ (by omega)).trans G0.out))]; rfl
  have k1 : ∀ w', Ext W3.drew w' → w'.cell? ⟨w.heap.size + 1, 0, none⟩ = some (.slice ao b.length cap) := fun w' hh => by rw [cell_of_row w' _ _ _ _ _ ((hh.block _ (show _ < W3.heap.size by omega)).trans ((hb3.block _ (by omega)).trans G1.out))]; rfl
  have k2 : ∀ w', Ext W3.drew w' → w'.cell? ⟨w.heap.size + 2, 0, none⟩ = some (I hf) := fun w' hh => by rw [cell_of_row w' _ _ _ _ _ ((hh.block _ (show _ < W3.heap.size by omega)).trans g2)]; rfl
  have hb3d : Below W.heap.size W W3.drew := hb3.trans ((Ext.drew W3).mono hb3.size)
  have kp : ∀ w', Ext W3.drew w' → w'.cell? ⟨q, 0, none⟩ = some (.pointer (some ⟨p, 0, none⟩)) := fun w' hh => ((HPW.out.below hb3d).below hh).c0
  have hff : ∀ w', Ext W3.drew w' → Calls Try.prog 82 #[.pointer (some ⟨p, 0, none⟩), I hf] w' fun e w'' => e = .returned (I A) ∧ w' = w'' := fun w' hh => by
    rw [hA0]
    exact pfirst_any w' p own D (((HD.out.below HBW.out).below hb3d).below hh) (by have := HH.out.n5; omega) hf (by omega)
  have HFF := hid hff
  have HB3 := hid hb3
  have HB3D := hid hb3d
  have G2 := hid g2
  have HZ3 := hid hz3
  have HA0 := hid hA0
  have HHF := hid hhf
  have HKE := hid hKe
  rw [← hKe] at HTK
  clear hff hb3 hb3d g2 hA0 hwr hW3 c0 c2 c3 hhf hKe
  refine wp_region_tree Ext [11, 12] [(0, 0), (1, 0), (2, 0), (3, 0), (4, 0), (6, 0), (7, 0)] saveOrders _ (by kernel_rfl) Ext.refl Ext.trans (by kernel_rfl) (by simp only [pick, List.getElem?_toArray, List.getElem?_cons_zero, List.getElem?_cons_succ]; rfl) (fun c a d v w h => by cases d <;> exact h) ?_
  refine wpK_q (v := ?_) (a' := ?_) (by rfl) (fun w' hR => ?_) ?_ ?_
  rotate_left 2
  · go_simp; with_reducible rfl
  · simp only [Act.put, List.setIfInBounds_toArray, List.set_cons_zero, List.set_cons_succ]; rfl
  refine wpK_q (v := ?_) (a' := ?_) (by rfl) (fun w' hR => ?_) ?_ ?_
  rotate_left 2
  · go_simp; with_reducible rfl
  · simp only [Act.put, List.setIfInBounds_toArray, List.set_cons_zero, List.set_cons_succ]; rfl
  refine wpK_q (v := ?_) (a' := ?_) (by rfl) (fun w' hR => ?_) ?_ ?_
  rotate_left 2
  · go_simp; with_reducible rfl
  · simp only [Act.put, List.setIfInBounds_toArray, List.set_cons_zero, List.set_cons_succ]; rfl
  refine wpK_q (v := ?_) (a' := ?_) (by rfl) (fun w' hR => ?_) ?_ ?_
  rotate_left 2
  · go_simp; with_reducible rfl
  · simp only [Act.put, List.setIfInBounds_toArray, List.set_cons_zero, List.set_cons_succ]; rfl
  refine wpK_q (v := ?_) (a' := ?_) (by rfl) (fun w' hR => ?_) ?_ ?_
  rotate_left 2
  · go_simp; with_reducible rfl
  · simp only [Act.put, List.setIfInBounds_toArray, List.set_cons_zero, List.set_cons_succ]; rfl
  refine wpK_q (v := ?_) (a' := ?_) (by rfl) (fun w' hR => ?_) ?_ ?_
  rotate_left 2
  · go_simp; with_reducible rfl
  · simp only [Act.put, List.setIfInBounds_toArray, List.set_cons_zero, List.set_cons_succ]; rfl
  refine wpK_q (v := ?_) (a' := ?_) (by rfl) (fun w' hR => ?_) ?_ ?_
  rotate_left 2
  · go_simp; with_reducible rfl
  · simp only [Act.put, List.setIfInBounds_toArray, List.set_cons_zero, List.set_cons_succ]; rfl
  refine wpK_done (thenQ_normal ?_)
  clear k0 k1 k2 kp
  generalize hA : Act.mk _ _ = a0
  have F0 := hid (HFF.out W3.drew (Ext.refl _))
  have F1 := hid (HFF.out _ (Ext.alloc3 W3.drew))
  have F2 := hid (HFF.out _ (Ext.trans _ _ _ (Ext.alloc3 W3.drew) (Ext.alloc3 _)))
  refine OT.wp_of (π := [(11, 2), (12, 2)]) (S := fun a w5 => (a = (((a0.put (some 42) (I A)).put (some 45) (I K)).put (some 6) (.pointer (some ⟨W3.drew.heap.size, 0, none⟩))).put (some 7) (.pointer (some ⟨(W3.drew.alloc (.cells #[I 0] 3)).heap.size, 0, none⟩)) ∧ w5 = (W3.drew.alloc (.cells #[I 0] 3)).alloc (.cells #[I 0] 3)) ∨
      (a = (((a0.put (some 42) (I A)).put (some 45) (I K)).put (some 6) (.pointer (some ⟨(W3.drew.alloc (.cells #[I 0] 3)).heap.size, 0, none⟩))).put (some 7) (.pointer (some ⟨W3.drew.heap.size, 0, none⟩)) ∧ w5 = (W3.drew.alloc (.cells #[I 0] 3)).alloc (.cells #[I 0] 3))) ?leafs saveOrders _ _ (by kernel_rfl) ?tree
  case tree =>
    subst hA
    unfold saveOrders sLeaf
    refine OT.s_three ?_ ?_ ?_
    · exact stepK_call' (v := I A) (o := _) rfl Try.func82 (by kernel_rfl) rfl rfl (by rfl) #[.pointer (some ⟨p, 0, none⟩), I hf] (by simp only [List.map_toArray, List.map_cons, List.map_nil]; rfl) (by simp only [Act.put, List.setIfInBounds_toArray, List.set_cons_zero, List.set_cons_succ]; rfl) F0.out (fun _ => Ext.refl _) (by
        refine OT.s_three ?_ ?_ ?_
        · exact stepK_call' (v := I K) (o := _) rfl Try.func87 (by kernel_rfl) rfl rfl (by rfl) #[I b.length] (by simp only [List.map_toArray, List.map_cons, List.map_nil]; rfl) (by simp only [Act.put, List.setIfInBounds_toArray, List.set_cons_zero, List.set_cons_succ]; rfl) (HTK.out _) (fun _ => Ext.refl _) (by
            refine OT.s_two ?_ ?_
            · exact stepK_v (o := _) rfl (by rfl) (exec_alloc3 rfl) (fun _ => Ext.alloc3 _) (by simp only [Act.put, List.setIfInBounds_toArray, List.set_cons_zero, List.set_cons_succ]; rfl) (by
                refine OT.s_one ?_
                exact stepK_v (o := _) rfl (by rfl) (exec_alloc3 rfl) (fun _ => Ext.alloc3 _) (by simp only [Act.put, List.setIfInBounds_toArray, List.set_cons_zero, List.set_cons_succ]; rfl) (by
                  exact OT.s_leaf (.inl ⟨rfl, rfl⟩)))
            · exact stepK_v (o := _) rfl (by rfl) (exec_alloc3 rfl) (fun _ => Ext.alloc3 _) (by simp only [Act.put, List.setIfInBounds_toArray, List.set_cons_zero, List.set_cons_succ]; rfl) (by
                refine OT.s_one ?_
                exact stepK_v (o := _) rfl (by rfl) (exec_alloc3 rfl) (fun _ => Ext.alloc3 _) (by simp only [Act.put, List.setIfInBounds_toArray, List.set_cons_zero, List.set_cons_succ]; rfl) (by
                  exact OT.s_leaf (.inr ⟨rfl, rfl⟩))))
        · exact stepK_v (o := _) rfl (by rfl) (exec_alloc3 rfl) (fun _ => Ext.alloc3 _) (by simp only [Act.put, List.setIfInBounds_toArray, List.set_cons_zero, List.set_cons_succ]; rfl) (by
            refine OT.s_two ?_ ?_
            · exact stepK_call' (v := I K) (o := _) rfl Try.func87 (by kernel_rfl) rfl rfl (by rfl) #[I b.length] (by simp only [List.map_toArray, List.map_cons, List.map_nil]; rfl) (by simp only [Act.put, List.setIfInBounds_toArray, List.set_cons_zero, List.set_cons_succ]; rfl) (HTK.out _) (fun _ => Ext.refl _) (by
                refine OT.s_one ?_
                exact stepK_v (o := _) rfl (by rfl) (exec_alloc3 rfl) (fun _ => Ext.alloc3 _) (by simp only [Act.put, List.setIfInBounds_toArray, List.set_cons_zero, List.set_cons_succ]; rfl) (by
                  exact OT.s_leaf (.inl ⟨rfl, rfl⟩)))
            · exact stepK_v (o := _) rfl (by rfl) (exec_alloc3 rfl) (fun _ => Ext.alloc3 _) (by simp only [Act.put, List.setIfInBounds_toArray, List.set_cons_zero, List.set_cons_succ]; rfl) (by
                refine OT.s_one ?_
                exact stepK_call' (v := I K) (o := _) rfl Try.func87 (by kernel_rfl) rfl rfl (by rfl) #[I b.length] (by simp only [List.map_toArray, List.map_cons, List.map_nil]; rfl) (by simp only [Act.put, List.setIfInBounds_toArray, List.set_cons_zero, List.set_cons_succ]; rfl) (HTK.out _) (fun _ => Ext.refl _) (by
                  exact OT.s_leaf (.inl ⟨rfl, rfl⟩))))
        · exact stepK_v (o := _) rfl (by rfl) (exec_alloc3 rfl) (fun _ => Ext.alloc3 _) (by simp only [Act.put, List.setIfInBounds_toArray, List.set_cons_zero, List.set_cons_succ]; rfl) (by
            refine OT.s_two ?_ ?_
            · exact stepK_call' (v := I K) (o := _) rfl Try.func87 (by kernel_rfl) rfl rfl (by rfl) #[I b.length] (by simp only [List.map_toArray, List.map_cons, List.map_nil]; rfl) (by simp only [Act.put, List.setIfInBounds_toArray, List.set_cons_zero, List.set_cons_succ]; rfl) (HTK.out _) (fun _ => Ext.refl _) (by
                refine OT.s_one ?_
                exact stepK_v (o := _) rfl (by rfl) (exec_alloc3 rfl) (fun _ => Ext.alloc3 _) (by simp only [Act.put, List.setIfInBounds_toArray, List.set_cons_zero, List.set_cons_succ]; rfl) (by
                  exact OT.s_leaf (.inr ⟨rfl, rfl⟩)))
            · exact stepK_v (o := _) rfl (by rfl) (exec_alloc3 rfl) (fun _ => Ext.alloc3 _) (by simp only [Act.put, List.setIfInBounds_toArray, List.set_cons_zero, List.set_cons_succ]; rfl) (by
                refine OT.s_one ?_
                exact stepK_call' (v := I K) (o := _) rfl Try.func87 (by kernel_rfl) rfl rfl (by rfl) #[I b.length] (by simp only [List.map_toArray, List.map_cons, List.map_nil]; rfl) (by simp only [Act.put, List.setIfInBounds_toArray, List.set_cons_zero, List.set_cons_succ]; rfl) (HTK.out _) (fun _ => Ext.refl _) (by
                  exact OT.s_leaf (.inr ⟨rfl, rfl⟩)))))
    · exact stepK_v (o := _) rfl (by rfl) (exec_alloc3 rfl) (fun _ => Ext.alloc3 _) (by simp only [Act.put, List.setIfInBounds_toArray, List.set_cons_zero, List.set_cons_succ]; rfl) (by
        refine OT.s_two ?_ ?_
        · exact stepK_call' (v := I A) (o := _) rfl Try.func82 (by kernel_rfl) rfl rfl (by rfl) #[.pointer (some ⟨p, 0, none⟩), I hf] (by simp only [List.map_toArray, List.map_cons, List.map_nil]; rfl) (by simp only [Act.put, List.setIfInBounds_toArray, List.set_cons_zero, List.set_cons_succ]; rfl) F1.out (fun _ => Ext.refl _) (by
            refine OT.s_two ?_ ?_
            · exact stepK_call' (v := I K) (o := _) rfl Try.func87 (by kernel_rfl) rfl rfl (by rfl) #[I b.length] (by simp only [List.map_toArray, List.map_cons, List.map_nil]; rfl) (by simp only [Act.put, List.setIfInBounds_toArray, List.set_cons_zero, List.set_cons_succ]; rfl) (HTK.out _) (fun _ => Ext.refl _) (by
                refine OT.s_one ?_
                exact stepK_v (o := _) rfl (by rfl) (exec_alloc3 rfl) (fun _ => Ext.alloc3 _) (by simp only [Act.put, List.setIfInBounds_toArray, List.set_cons_zero, List.set_cons_succ]; rfl) (by
                  exact OT.s_leaf (.inl ⟨rfl, rfl⟩)))
            · exact stepK_v (o := _) rfl (by rfl) (exec_alloc3 rfl) (fun _ => Ext.alloc3 _) (by simp only [Act.put, List.setIfInBounds_toArray, List.set_cons_zero, List.set_cons_succ]; rfl) (by
                refine OT.s_one ?_
                exact stepK_call' (v := I K) (o := _) rfl Try.func87 (by kernel_rfl) rfl rfl (by rfl) #[I b.length] (by simp only [List.map_toArray, List.map_cons, List.map_nil]; rfl) (by simp only [Act.put, List.setIfInBounds_toArray, List.set_cons_zero, List.set_cons_succ]; rfl) (HTK.out _) (fun _ => Ext.refl _) (by
                  exact OT.s_leaf (.inl ⟨rfl, rfl⟩))))
        · exact stepK_v (o := _) rfl (by rfl) (exec_alloc3 rfl) (fun _ => Ext.alloc3 _) (by simp only [Act.put, List.setIfInBounds_toArray, List.set_cons_zero, List.set_cons_succ]; rfl) (by
            refine OT.s_one ?_
            exact stepK_call' (v := I A) (o := _) rfl Try.func82 (by kernel_rfl) rfl rfl (by rfl) #[.pointer (some ⟨p, 0, none⟩), I hf] (by simp only [List.map_toArray, List.map_cons, List.map_nil]; rfl) (by simp only [Act.put, List.setIfInBounds_toArray, List.set_cons_zero, List.set_cons_succ]; rfl) F2.out (fun _ => Ext.refl _) (by
              refine OT.s_one ?_
              exact stepK_call' (v := I K) (o := _) rfl Try.func87 (by kernel_rfl) rfl rfl (by rfl) #[I b.length] (by simp only [List.map_toArray, List.map_cons, List.map_nil]; rfl) (by simp only [Act.put, List.setIfInBounds_toArray, List.set_cons_zero, List.set_cons_succ]; rfl) (HTK.out _) (fun _ => Ext.refl _) (by
                exact OT.s_leaf (.inl ⟨rfl, rfl⟩)))))
    · exact stepK_v (o := _) rfl (by rfl) (exec_alloc3 rfl) (fun _ => Ext.alloc3 _) (by simp only [Act.put, List.setIfInBounds_toArray, List.set_cons_zero, List.set_cons_succ]; rfl) (by
        refine OT.s_two ?_ ?_
        · exact stepK_call' (v := I A) (o := _) rfl Try.func82 (by kernel_rfl) rfl rfl (by rfl) #[.pointer (some ⟨p, 0, none⟩), I hf] (by simp only [List.map_toArray, List.map_cons, List.map_nil]; rfl) (by simp only [Act.put, List.setIfInBounds_toArray, List.set_cons_zero, List.set_cons_succ]; rfl) F1.out (fun _ => Ext.refl _) (by
            refine OT.s_two ?_ ?_
            · exact stepK_call' (v := I K) (o := _) rfl Try.func87 (by kernel_rfl) rfl rfl (by rfl) #[I b.length] (by simp only [List.map_toArray, List.map_cons, List.map_nil]; rfl) (by simp only [Act.put, List.setIfInBounds_toArray, List.set_cons_zero, List.set_cons_succ]; rfl) (HTK.out _) (fun _ => Ext.refl _) (by
                refine OT.s_one ?_
                exact stepK_v (o := _) rfl (by rfl) (exec_alloc3 rfl) (fun _ => Ext.alloc3 _) (by simp only [Act.put, List.setIfInBounds_toArray, List.set_cons_zero, List.set_cons_succ]; rfl) (by
                  exact OT.s_leaf (.inr ⟨rfl, rfl⟩)))
            · exact stepK_v (o := _) rfl (by rfl) (exec_alloc3 rfl) (fun _ => Ext.alloc3 _) (by simp only [Act.put, List.setIfInBounds_toArray, List.set_cons_zero, List.set_cons_succ]; rfl) (by
                refine OT.s_one ?_
                exact stepK_call' (v := I K) (o := _) rfl Try.func87 (by kernel_rfl) rfl rfl (by rfl) #[I b.length] (by simp only [List.map_toArray, List.map_cons, List.map_nil]; rfl) (by simp only [Act.put, List.setIfInBounds_toArray, List.set_cons_zero, List.set_cons_succ]; rfl) (HTK.out _) (fun _ => Ext.refl _) (by
                  exact OT.s_leaf (.inr ⟨rfl, rfl⟩))))
        · exact stepK_v (o := _) rfl (by rfl) (exec_alloc3 rfl) (fun _ => Ext.alloc3 _) (by simp only [Act.put, List.setIfInBounds_toArray, List.set_cons_zero, List.set_cons_succ]; rfl) (by
            refine OT.s_one ?_
            exact stepK_call' (v := I A) (o := _) rfl Try.func82 (by kernel_rfl) rfl rfl (by rfl) #[.pointer (some ⟨p, 0, none⟩), I hf] (by simp only [List.map_toArray, List.map_cons, List.map_nil]; rfl) (by simp only [Act.put, List.setIfInBounds_toArray, List.set_cons_zero, List.set_cons_succ]; rfl) F2.out (fun _ => Ext.refl _) (by
              refine OT.s_one ?_
              exact stepK_call' (v := I K) (o := _) rfl Try.func87 (by kernel_rfl) rfl rfl (by rfl) #[I b.length] (by simp only [List.map_toArray, List.map_cons, List.map_nil]; rfl) (by simp only [Act.put, List.setIfInBounds_toArray, List.set_cons_zero, List.set_cons_succ]; rfl) (HTK.out _) (fun _ => Ext.refl _) (by
                exact OT.s_leaf (.inr ⟨rfl, rfl⟩)))))
  case leafs =>
    intro a w5 hS
    clear F0 F1 F2 HFF HTK HPP
    obtain ⟨W5, hW5⟩ : ∃ W5, W5 = (W3.drew.alloc (.cells #[I 0] 3)).alloc (.cells #[I 0] 3) := ⟨_, rfl⟩
    have hzd : W3.drew.heap.size = w.heap.size + 3 := HZ3.out
    have hzd1 : (W3.drew.alloc (.cells #[I 0] 3)).heap.size = w.heap.size + 4 := by simp [hzd]
    rw [← hW5] at hS
    rw [hzd1, hzd] at hS
    have hS2 : ∃ b6 b7, (b6 = w.heap.size + 3 ∧ b7 = w.heap.size + 4 ∨ b6 = w.heap.size + 4 ∧ b7 = w.heap.size + 3) ∧ a = (((a0.put (some 42) (I A)).put (some 45) (I K)).put (some 6) (.pointer (some ⟨b6, 0, none⟩))).put (some 7) (.pointer (some ⟨b7, 0, none⟩)) ∧ w5 = W5 := by
      rcases hS with ⟨h1, h2⟩ | ⟨h1, h2⟩
      · exact ⟨_, _, .inl ⟨rfl, rfl⟩, h1, h2⟩
      · exact ⟨_, _, .inr ⟨rfl, rfl⟩, h1, h2⟩
    have ga : W5.heap[w.heap.size + 3]? = some (.cells #[I 0] 3 (0, 0)) := by rw [hW5]; exact (Below.heap_alloc _ _ _ (by omega)).trans (heap_alloc_at hzd)
    have gb : W5.heap[w.heap.size + 4]? = some (.cells #[I 0] 3 (0, 0)) := by rw [hW5]; exact heap_alloc_at hzd1
    have hz5 : W5.heap.size = w.heap.size + 5 := by rw [hW5]; simp [hzd]
    have hb5 : Below W3.heap.size W3 W5 := by rw [hW5]; exact Ext.trans _ _ _ (Ext.drew W3) (Ext.trans _ _ _ (Ext.alloc3 W3.drew) (Ext.alloc3 _))
    clear hS hW5
    obtain ⟨b6, b7, hbb, rfl, rfl⟩ := hS2
    have g6 : w5.heap[b6]? = some (.cells #[I 0] 3 (0, 0)) := by rcases hbb with ⟨h1, h2⟩ | ⟨h1, h2⟩ <;> rw [h1] <;> assumption
    have g7 : w5.heap[b7]? = some (.cells #[I 0] 3 (0, 0)) := by rcases hbb with ⟨h1, h2⟩ | ⟨h1, h2⟩ <;> rw [h2] <;> assumption
    have h67 : b7 ≠ b6 := by omega
    have g7' : (w5.setCell ⟨b6, 0, none⟩ (I A)).heap[b7]? = some (.cells #[I 0] 3 (0, 0)) := (heap_setCell_other w5 ⟨b6, 0, none⟩ b7 _ h67).trans g7
    have hlo : ∀ k, k < w.heap.size + 3 → ((w5.setCell ⟨b6, 0, none⟩ (I A)).setCell ⟨b7, 0, none⟩ (I K)).heap[k]? = W3.heap[k]? := fun k hk => (heap_setCell_other _ ⟨b7, 0, none⟩ k _ (by show k ≠ b7; omega)).trans ((heap_setCell_other _ ⟨b6, 0, none⟩ k _ (by show k ≠ b6; omega)).trans (hb5.block k (by rw [HZ3.out]; exact hk)))
    have hsz6 : ((w5.setCell ⟨b6, 0, none⟩ (I A)).setCell ⟨b7, 0, none⟩ (I K)).heap.size = w.heap.size + 5 := by simp [hz5]
    have HB6 : Hid (Below w.heap.size w ((w5.setCell ⟨b6, 0, none⟩ (I A)).setCell ⟨b7, 0, none⟩ (I K))) := hid (((HBW.out.trans (HB3.out.mono HBW.out.size)).trans (hb5.mono (by have := HZ3.out; omega))).setCell (p := ⟨b6, 0, none⟩) (by show _ ≤ b6; omega) _ |>.setCell (p := ⟨b7, 0, none⟩) (by show _ ≤ b7; omega) _)
    have HSI : Hid (SIn w.heap.size q (.slice ao b.length cap) hf A K b6 b7 ((w5.setCell ⟨b6, 0, none⟩ (I A)).setCell ⟨b7, 0, none⟩ (I K))) := hid ⟨(hlo _ (by omega)).trans ((HB3.out.block _ (by omega)).trans G0.out), (hlo _ (by omega)).trans ((HB3.out.block _ (by omega)).trans G1.out), (hlo _ (by omega)).trans G2.out, (heap_setCell_other _ ⟨b7, 0, none⟩ b6 _ (fun e => h67 e.symm)).trans (heap_setCell_same w5 b6 0 _ _ _ g6), heap_setCell_same _ b7 0 _ _ _ g7', by omega, by omega⟩
    have c6 : w5.cell? ⟨b6, 0, none⟩ = some (I 0) := by rw [cell_of_row _ _ _ _ _ _ g6]; rfl
    have c7 : (w5.setCell ⟨b6, 0, none⟩ (I A)).cell? ⟨b7, 0, none⟩ = some (I 0) := by rw [cell_of_row _ _ _ _ _ _ g7']; rfl
    subst hA
    simp only [pick, List.getElem?_toArray, List.getElem?_cons_zero, List.getElem?_cons_succ]
    simp only [Act.put, List.setIfInBounds_toArray, List.set_cons_zero, List.set_cons_succ]
    refine wpK_s (by rfl) rfl (exec_store rfl (vx := .pointer (some ⟨b6, 0, none⟩)) (vy := I A) rfl rfl (run_store1 (u := I 0) (by kernel_rfl) rfl rfl c6 (frozen_row g6 0))) (fun h => by cases h) ?_
    refine wpK_s (by rfl) rfl (exec_store rfl (vx := .pointer (some ⟨b7, 0, none⟩)) (vy := I K) rfl rfl (run_store1 (u := I 0) (by kernel_rfl) rfl rfl c7 (frozen_row g7' 0))) (fun h => by cases h) ?_
    refine wpK_done ?_
    generalize (w5.setCell ⟨b6, 0, none⟩ (I A)).setCell ⟨b7, 0, none⟩ (I K) = W6 at *
    clear hlo c6 c7 g6 g7 g7' ga gb hb5 hz5 hzd hzd1 G0 G1 G2 HB3 HB3D HPW HZ3 HBW h67 hbb HWW hz
    have hmf := closes
    have HLT := hid (fun j (hj : own j) => HD.out.lt j hj)
    have hql : q < w.heap.size := (Array.getElem?_eq_some_iff.1 HH.out.hq).1
    have htl := HH.out.tape.lt
    have hdoor := psave_door w.heap.size W6 q t p own P (.slice ao b.length cap) b b6 b7 D (PS.save D P b) (by rw [← HHF.out, ← HA0.out, ← HKE.out]; exact HSI.out) (HH.out.below HB6.out) (HD.out.below HB6.out) HLT.out hql htl HQ.out HT.out (by omega) (HV.out.below HB6.out) HK.out HP0.out rfl hN
    have HDOOR := hid hdoor
    clear hdoor
    go_wp2_with fail
    refine HDOOR.out.mono ?_
    rintro e w1 ⟨rfl, W1, wE, hb1, hend, hz1, hm⟩
    obtain ⟨t', own', ht', hp', hd', ho', hnt', hm'⟩ := hend
    have hss := PS.save_sick HK.out HP0.out
    have hs1 : w.heap.size + 5 ≤ W1.heap.size := by omega
    have hsE := hm'.size
    have gz : w1.heap[w.heap.size]? = some (.cells #[.pointer (some ⟨q, 0, none⟩)] 44 (0, 0)) := (hm.block _ (by omega) (by omega)).trans ((hm'.block _ (by omega) (fun e => by rcases e with e | e; have := HLT.out _ e; omega; omega)).trans ((hb1.block _ (by omega)).trans HSI.out.g0))
    have hqE : q < wE.heap.size := by omega
    have gq := (hm.block q hqE (by omega)).trans hp'.hq
    have cz : w1.cell? ⟨w.heap.size, 0, none⟩ = some (.pointer (some ⟨q, 0, none⟩)) := by rw [cell_of_row _ _ _ _ _ _ gz]; rfl
    have c3 : w1.cell? ⟨q, 3, none⟩ = some (I P.sick) := by rw [cell_of_row _ _ _ _ _ _ gq]; rfl
    have f3 := frozen_row gq 3
    obtain ⟨X, hX⟩ : ∃ X, X = PS.save D P b := ⟨_, rfl⟩
    rw [← hX] at hp' hd' hss gq ⊢
    have hX2 : PS.save D P b = X := hX.symm
    have HX := hid hX2
    have HH1 := hid (And.intro hb1 (And.intro ht' (And.intro hp' (And.intro hd' (And.intro ho' (And.intro hnt' (And.intro hm' hm)))))))
    have HSS := hid hss
    have GQ := hid gq
    clear hb1 ht' hp' hd' ho' hnt' hm' hm hX hX2 hss gq gz HDOOR
    go_wp2
    go_ret
    obtain ⟨hb1, ht', hp', hd', ho', hnt', hm', hm⟩ := HH1.out
    rw [HX.out]
    have hs6 := HB6.out.size
    have hz7 : w.heap.size + 5 ≤ W6.heap.size := by omega
    have hoth : ∀ k, k < wE.heap.size → k ≠ W6.heap.size → k ≠ q → (w1.setCell ⟨q, 3, none⟩ (I X.1)).heap[k]? = wE.heap[k]? := fun k hk h1 h2 => (heap_setCell_other _ ⟨q, 3, none⟩ k _ h2).trans (hm.block k hk h1)
    have hnq' : ¬ own' q := fun h => (ho' q h).elim HQ.out (fun h => by omega)
    have htz : t' < wE.heap.size := hp'.tape.lt
    have hqt' := hp'.lt
    have hg := heap_setCell_same w1 q 3 _ _ (I X.1) GQ.out
    have hns : ∀ k, own' k → k ≠ W6.heap.size := fun k hk e => (ho' k hk).elim (fun h => by have := HLT.out k h; omega) (fun h => by omega)
    refine ⟨t', rfl, ⟨?_, hp'.tape.keep (hoth t' htz (by omega) (by omega)), hp'.half, by rw [HSS.out.1]; exact HSS.out.2, hqt', hp'.n5⟩, ht'.imp id (fun h => by omega), own', hd'.keep (fun k hk => hoth k (hd'.lt k hk) (hns k hk) (fun e => hnq' (e ▸ hk))) (by simp; exact hm.size), fun j hj => (ho' j hj).imp id (fun h => by omega), hnt', ?_⟩
    · rw [HSS.out.1]; exact hg
    · have hmA : Mod (fun j => own j ∨ j = q) w W1 := (Mod.of_below _ HB6.out).trans ((Mod.of_below _ hb1).mono (fun _ _ h => h)) |>.mono (fun _ _ h => h)
      refine (hmA.trans hm').then ((hm.mono (own' := fun j => j = W6.heap.size ∨ j = q) (fun _ _ h => .inl h)).trans (Mod.set (.inr rfl))) (fun i hi h => ?_)
      rcases h with h | h
      · omega
      · exact .inr h
end Go.Proofs.Ytoaeapnkefjpaaa

namespace Go.Proofs.Ytoaeapnkefjpaaa
open Go.RowKit
set_option linter.unusedVariables false
set_option linter.unusedSimpArgs false

set_option maxRecDepth 100000 in
set_option maxHeartbeats 800000 in
theorem rframe5_any (w : World) (v : Value) (r : List UInt8) (hv : Sees w v r) (hr : r.length ≤ 1073741824) : Calls Try.prog 76 #[v] w (Fresh w (PS.framed r)) := by
  obtain ⟨ao, cap, rfl, -⟩ := hv.form0
  obtain ⟨Y, hY⟩ : ∃ Y, Y = PS.framed r := ⟨_, rfl⟩
  rw [← hY]
  unfold PS.framed at hY
  have HY := hid hY
  have HV := hid hv
  clear hv hY
  go_enter Try.func76, Try.ntmps76
  go_wp2_with fail
  have hcells : (#[Value.int .u8 ((r.length : Int) / 16777216), Value.int .u8 ((r.length : Int) / 65536 % 256), Value.int .u8 ((r.length : Int) / 256 % 256), Value.int .u8 ((r.length : Int) % 256)] : Array Value) = ((PS.size4 r.length).map B).toArray := by
    have e0 : ((UInt8.ofNat (r.length / 16777216 % 256)).toNat : Int) = (r.length : Int) / 16777216 := by rw [UInt8.toNat_ofNat']; omega
    have e1 : ((UInt8.ofNat (r.length / 65536 % 256)).toNat : Int) = (r.length : Int) / 65536 % 256 := by rw [UInt8.toNat_ofNat']; omega
    have e2 : ((UInt8.ofNat (r.length / 256 % 256)).toNat : Int) = (r.length : Int) / 256 % 256 := by rw [UInt8.toNat_ofNat']; omega
    have e3 : ((UInt8.ofNat (r.length % 256)).toNat : Int) = (r.length : Int) % 256 := by rw [UInt8.toNat_ofNat']; omega
    unfold PS.size4 B
    rw [List.map_cons, List.map_cons, List.map_cons, List.map_cons, List.map_nil, e0, e1, e2, e3]
  rw [hcells]
  have hS := Sees.lit w (PS.size4 r.length) (0, 0) (by show 4 ≤ maxLen; unfold maxLen; omega)
  have hb : Below w.heap.size w (w.alloc (.cells ((PS.size4 r.length).map B).toArray 5)) := (Below.refl _ _).alloc (Nat.le_refl _) _
  have HVa := hid (HV.out.below hb)
  have HS : Hid (Sees (w.alloc (.cells ((PS.size4 r.length).map B).toArray 5)) (.slice (some ⟨w.heap.size, 0, none⟩) 4 4) (PS.size4 r.length)) := hid hS
  have HB := hid hb
  generalize w.alloc (.cells ((PS.size4 r.length).map B).toArray 5) = wa at *
  clear hcells hS hb
  have r1 : 0 ≤ Sum.of r.length r ∧ Sum.of r.length r < 18446744073709551616 := by
    have := Sum.add_range (Sum.start r.length) r
    unfold Sum.of; omega
  refine (rof_any (r.length : Int) (by omega) (by omega) _ r _ HVa.out).mono ?_
  rintro e w1 ⟨rfl, rfl⟩
  go_wp2_with fail
  obtain ⟨F, hF⟩ : ∃ F, F = PS.size4 r.length ++ Sum.be8 (Sum.of r.length r) := ⟨_, rfl⟩
  have hFl : F.length = 12 := by rw [hF, List.length_append, Sum.be8_length]; rfl
  refine (rput_any _ (PS.size4 r.length) _ r1.1 r1.2 wa HS.out (by show 4 ≤ 1099511627776; omega)).mono ?_
  rw [← hF]
  rintro e w1 ⟨v1, rfl, ho1, hb1⟩
  rw [hFl] at ho1
  obtain ⟨av1, cv1, rfl⟩ := own_form ho1
  have HO1 := hid ho1
  have HB1 := hid hb1
  have HV1 := hid (HVa.out.below hb1)
  have HF := hid hF
  have HFL := hid hFl
  have hs1 : wa.heap.size ≤ w1.heap.size := hb1.size
  clear ho1 hb1 hF hFl r1
  go_wp2_with (at_builtin; refine wpList_app rfl (.tmp 26) (.tmp 27) 23 rfl wa.heap.size 5 (.int .u8 0) 1 1 Try.underlying23 info5 rfl (by decide) 12 (F.map B) r.length (r.map B) HO1.out ?src ?h63 ?hb hs1 ?_)
  case src => exact HV1.out.src
  case h63 => unfold maxLen; omega
  case hb => omega
  intro v3 w3 hown hgrow hat
  have HO3 := hid hown
  have HB3 := hid (HB1.out.grown hgrow hs1 (fun k hk => by have := (own_lt HO1.out k hk).1; omega))
  clear hown hgrow hat HO1 HB1 HV1
  go_wp2_with fail
  go_ret
  refine ⟨v3, rfl, own_anew (own_len HO3.out ?_ ?_) (fun k hk => Nat.le_trans HB.out.size (own_lt HO3.out k hk).1), HB.out.trans (HB3.out.mono HB.out.size)⟩
  · rw [HY.out, ← HF.out, List.length_append, HFL.out]
  · rw [HY.out, ← HF.out]; simp
end Go.Proofs.Ytoaeapnkefjpaaa

namespace Go.Proofs.Ytoaeapnkefjpaaa
open Go.RowKit
set_option linter.unusedVariables false
set_option linter.unusedSimpArgs false
namespace TS
/-- A drum whose power is on and stays on. -/
structure Live (D : DS) : Prop where
  ok : D.Ok
  on : D.off = false
  un : D.armed = 0
theorem stretch_get {D : DS} (h : D.Ok) {lo n : Nat} (hn : lo + n ≤ D.safe.length) {j : Nat} (hj : j < n * 256) : (stretch D lo n)[j]? = (DS.look D.safe D.waits (lo + j / 256))[j % 256]? := by
  have := rows_get (stretch_page h hn) (k := j / 256) (x := j / 256) (by rw [List.getElem?_range (by omega)]) (j := j % 256) (by omega)
  rw [← this]
  unfold stretch
  congr 1
  omega
theorem wr_live : ∀ (pages : List (List UInt8)) (D : DS) (a : Nat), Live D → (∀ p ∈ pages, p.length = 256) → a + pages.length ≤ D.safe.length →
    (wr D a pages).1 = 0 ∧ Live (wr D a pages).2 ∧ (wr D a pages).2.safe = D.safe ∧ ∀ k, DS.look (wr D a pages).2.safe (wr D a pages).2.waits k = if a ≤ k ∧ k < a + pages.length then pages.getD (k - a) [] else DS.look D.safe D.waits k
  | [], D, a, h, _, _ => ⟨rfl, h, rfl, fun k => by rw [if_neg (by simp)]; rfl⟩
  | p :: ps, D, a, h, hp, ha => by
    rw [List.length_cons] at ha
    have hw := DS.write_ok h.on h.un (a := a) (by omega) (hp p (by simp))
    have hok := h.ok.write (a : Int) p
    rw [wr, hw]
    simp only [if_true]
    rw [hw] at hok
    obtain ⟨h1, h2, h3, h4⟩ := wr_live ps _ (a + 1) ⟨hok, h.on, h.un⟩ (fun q hq => hp q (by simp [hq])) (by simp only; omega)
    refine ⟨h1, h2, h3, fun k => ?_⟩
    rw [h4 k]
    simp only
    rw [DS.look_snoc, List.length_cons]
    by_cases e : a = k
    · subst e
      rw [if_neg (by omega), if_pos rfl, if_pos (by omega), Nat.sub_self]
      rfl
    · rw [if_neg e]
      by_cases e2 : a + 1 ≤ k ∧ k < a + 1 + ps.length
      · rw [if_pos e2, if_pos (by omega)]
        have : k - a = (k - (a + 1)) + 1 := by omega
        rw [this, List.getD_cons_succ]
      · rw [if_neg e2, if_neg (by omega)]
theorem flush_live {D : DS} (h : Live D) : D.Flush.1 = 0 ∧ Live D.Flush.2 ∧ D.Flush.2.safe.length = D.safe.length ∧ ∀ k, k < D.safe.length → DS.look D.Flush.2.safe D.Flush.2.waits k = DS.look D.safe D.waits k := by
  have hf := DS.flush_ok h.on h.un
  have hok := h.ok.Flush
  rw [hf] at hok ⊢
  exact ⟨rfl, ⟨hok, h.on, h.un⟩, DS.flush_len _ _, fun k hk => DS.look_flush _ _ k hk⟩
theorem write_live {D : DS} (h : Live D) {a : Nat} (ha : a < D.safe.length) {l : List UInt8} (hl : l.length = 256) : (D.write a l).1 = 0 ∧ Live (D.write a l).2 ∧ (D.write a l).2.safe = D.safe ∧ ∀ k, DS.look (D.write a l).2.safe (D.write a l).2.waits k = if a = k then l else DS.look D.safe D.waits k := by
  have hw := DS.write_ok h.on h.un ha hl
  have hok := h.ok.write (a : Int) l
  rw [hw] at hok ⊢
  exact ⟨rfl, ⟨hok, h.on, h.un⟩, rfl, fun k => DS.look_snoc _ _ _ _ _⟩
set_option maxRecDepth 100000 in
/-- Where a piece of the stretch is laid anew. -/
theorem stretch_over {D D' : DS} (h : D.Ok) (h' : D'.Ok) {lo n q K : Nat} (hn : lo + n ≤ D.safe.length) (hn' : lo + n ≤ D'.safe.length) (hq : q + K ≤ n) {X : List UInt8} (hX : X.length = K * 256)
    (hin : ∀ i, i < K → DS.look D'.safe D'.waits (lo + (q + i)) = (X.drop (i * 256)).take 256) (hout : ∀ i, i < n → i < q ∨ q + K ≤ i → DS.look D'.safe D'.waits (lo + i) = DS.look D.safe D.waits (lo + i)) :
    stretch D' lo n = (stretch D lo n).take (q * 256) ++ X ++ (stretch D lo n).drop ((q + K) * 256) := by
  have l1 := stretch_len h hn
  have l2 := stretch_len h' hn'
  have hm : (q + K) * 256 ≤ n * 256 := Nat.mul_le_mul_right _ hq
  have hd : (q + K) * 256 = q * 256 + K * 256 := Nat.add_mul _ _ _
  apply List.ext_getElem?
  intro j
  by_cases hj : j < n * 256
  · rw [stretch_get h' hn' hj]
    have hlen1 : ((stretch D lo n).take (q * 256)).length = q * 256 := by rw [List.length_take, l1]; omega
    by_cases h1 : j < q * 256
    · rw [List.append_assoc, List.getElem?_append_left (by omega), List.getElem?_take, if_pos h1, stretch_get h hn hj, hout (j / 256) (by omega) (.inl (by omega))]
    · by_cases h2 : j < (q + K) * 256
      · rw [List.append_assoc, List.getElem?_append_right (by omega), hlen1, List.getElem?_append_left (by omega)]
        have := hin (j / 256 - q) (by omega)
        rw [show lo + (q + (j / 256 - q)) = lo + j / 256 from by omega] at this
        have e : (j / 256 - q) * 256 + j % 256 = j - q * 256 := by omega
        rw [this, List.getElem?_take, if_pos (Nat.mod_lt _ (by decide)), List.getElem?_drop, e]
      · rw [List.getElem?_append_right (by rw [List.length_append]; omega), List.length_append, hlen1, hX, List.getElem?_drop, hout (j / 256) (by omega) (.inr (by omega)), ← stretch_get h hn hj]
        have e : (q + K) * 256 + (j - (q * 256 + K * 256)) = j := by omega
        rw [e]
  · rw [List.getElem?_eq_none (by omega), List.getElem?_eq_none]
    simp only [List.length_append, List.length_take, List.length_drop, l1, hX]
    omega
/-- What stands behind a record: nothing, or a nought first. -/
def Stop (rest : List UInt8) : Prop := rest = [] ∨ rest.head? = some 0
set_option maxRecDepth 100000 in
set_option maxHeartbeats 800000 in
theorem doIt_live {D : DS} {T : TS} {r : List UInt8} (h : Live D) (hT : T.Ok D.safe.length) (hs : T.pos + 12 + r.length ≤ T.size) :
    (doIt D T r).1 = 0 ∧ (doIt D T r).2.2 = { T with pos := T.pos + 12 + r.length, count := T.count + 1 } ∧ Live (doIt D T r).2.1 ∧ (doIt D T r).2.1.safe.length = D.safe.length ∧
    ∃ rest, stretch (doIt D T r).2.1 T.lo (T.hi - T.lo) = (stretch D T.lo (T.hi - T.lo)).take T.pos ++ (1 :: (framed T.count r ++ r)) ++ rest ∧ Stop rest := by
  obtain ⟨t1, t2, t3, t4, -⟩ := hT
  obtain ⟨n, hn⟩ : ∃ n, n = T.hi - T.lo := ⟨_, rfl⟩
  have hsz : T.size = n * 256 := by rw [hn]; rfl
  obtain ⟨S, hS⟩ : ∃ S, S = stretch D T.lo n := ⟨_, rfl⟩
  have hSl : S.length = n * 256 := by rw [hS]; exact stretch_len h.ok (by omega)
  obtain ⟨q, hq⟩ : ∃ q, q = T.pos / 256 := ⟨_, rfl⟩
  obtain ⟨j, hj⟩ : ∃ j, j = T.pos % 256 := ⟨_, rfl⟩
  have hpos : T.pos = q * 256 + j := by omega
  have hj2 : j < 256 := by omega
  obtain ⟨P, hP⟩ : ∃ P, P = padded D T T.pos (body T r) := ⟨_, rfl⟩
  obtain ⟨tail, htail⟩ : ∃ tail, tail = (if T.pos + (12 + r.length) < T.size then [(0 : UInt8)] else []) := ⟨_, rfl⟩
  obtain ⟨Y, hY⟩ : ∃ Y, Y = framed T.count r ++ r := ⟨_, rfl⟩
  have hYl : Y.length = 11 + r.length := by rw [hY, List.length_append, framed_len]
  have hbody : body T r = 0 :: Y ++ tail := by unfold body; rw [hY, htail]
  obtain ⟨ah, hah⟩ : ∃ ah, ah = (S.drop (q * 256)).take j := ⟨_, rfl⟩
  have hahl : ah.length = j := by rw [hah, List.length_take, List.length_drop, hSl]; omega
  obtain ⟨z, hz⟩ : ∃ z, z = (256 - (ah ++ (0 :: Y ++ tail)).length % 256) % 256 := ⟨_, rfl⟩
  have hPe : P = ah ++ (0 :: Y ++ tail) ++ List.replicate z 0 := by
    rw [hP]
    unfold padded
    simp only []
    rw [← hn, ← hS, ← hq, ← hj, ← hah, hbody, ← hz]
  have htl : tail.length ≤ 1 ∧ (T.pos + (12 + r.length) < T.size → tail = [0]) ∧ (¬ T.pos + (12 + r.length) < T.size → tail = []) := by
    rw [htail]
    split
    · exact ⟨by simp, fun _ => rfl, fun h => absurd (by assumption) h⟩
    · exact ⟨by simp, fun h => absurd h (by assumption), fun _ => rfl⟩
  have hal : (ah ++ (0 :: Y ++ tail)).length = j + (12 + r.length) + tail.length := by
    rw [List.length_append, List.length_append, List.length_cons, hahl, hYl]; omega
  have hPl : P.length = j + (12 + r.length) + tail.length + z := by rw [hPe, List.length_append, hal, List.length_replicate]
  obtain ⟨K, hK⟩ : ∃ K, P.length = K * 256 := ⟨P.length / 256, by rw [hPl]; rw [hal] at hz; omega⟩
  have htl1 := htl.1
  have hroom : q * 256 + P.length ≤ n * 256 := by
    have h1 : T.pos + (12 + r.length) + tail.length ≤ n * 256 := by
      by_cases hr : T.pos + (12 + r.length) < T.size
      · rw [htl.2.1 hr]; simp only [List.length_cons, List.length_nil]; omega
      · rw [htl.2.2 hr]; simp only [List.length_nil]; omega
    rw [hPl]; rw [hal] at hz; omega
  have hqK : q + K ≤ n := by omega
  have hKpos : 0 < K := by omega
  have hpg : ∀ p ∈ pagesOf P K, p.length = 256 := by
    intro p hp
    unfold pagesOf at hp
    rw [List.mem_map] at hp
    obtain ⟨i, hi, rfl⟩ := hp
    rw [List.mem_range] at hi
    have := (page_of P K i hK hi).2
    rwa [Nat.mul_comm i 256] at this
  have hpl : (pagesOf P K).length = K := by unfold pagesOf; simp
  have hget : ∀ i, i < K → (pagesOf P K).getD i [] = (P.drop (i * 256)).take 256 := fun i hi => by
    rw [List.getD_eq_getElem?_getD, (page_of P K i hK hi).1]; rfl
  -- laid
  have hlay : layR D T T.pos (body T r) = wr D (T.lo + q) (pagesOf P K) := by
    unfold layR laid
    rw [if_neg (by simp [h.on]), ← hP, hK, Nat.mul_div_cancel _ (by decide), ← hq]
  obtain ⟨a1, a2, a3, a4⟩ := wr_live (pagesOf P K) D (T.lo + q) h hpg (by rw [hpl]; omega)
  rw [hpl] at a4
  rw [doIt_eq, hlay]
  generalize wr D (T.lo + q) (pagesOf P K) = X1 at *
  obtain ⟨e1, D1⟩ := X1
  simp only at a1 a2 a3 a4 ⊢
  subst a1
  obtain ⟨f1, f2, f3, f4⟩ := flush_live a2
  rw [if_neg (by simp)]
  generalize D1.Flush = X2 at *
  obtain ⟨e2, D2⟩ := X2
  simp only at f1 f2 f3 f4 ⊢
  subst f1
  rw [if_neg (by simp), ← hq]
  have hs2 : D2.safe.length = D.safe.length := by rw [f3, a3]
  have hmk : marked D2 T = (P.take 256).set j 1 := by
    unfold marked
    rw [← hq, ← hj, f4 _ (by rw [a3]; omega), a4, if_pos (by omega), Nat.sub_self, hget 0 hKpos]
    simp
  have hml : (marked D2 T).length = 256 := by rw [hmk, List.length_set, List.length_take]; omega
  obtain ⟨g1, g2, g3, g4⟩ := write_live f2 (a := T.lo + q) (by rw [hs2]; omega) hml
  generalize D2.write (T.lo + q : Nat) (marked D2 T) = X3 at *
  obtain ⟨e3, D3⟩ := X3
  simp only at g1 g2 g3 g4 ⊢
  subst g1
  rw [if_neg (by simp)]
  obtain ⟨k1, k2, k3, k4⟩ := flush_live g2
  generalize D3.Flush = X4 at *
  obtain ⟨e4, D4⟩ := X4
  simp only at k1 k2 k3 k4 ⊢
  subst k1
  rw [if_neg (by simp)]
  have hs4 : D4.safe.length = D.safe.length := by rw [k3, g3, hs2]
  refine ⟨rfl, rfl, k2, hs4, ?_⟩
  -- what each page reads
  have hlook : ∀ i, i < n → DS.look D4.safe D4.waits (T.lo + i) = if i = q then (P.take 256).set j 1 else if q ≤ i ∧ i < q + K then (P.drop ((i - q) * 256)).take 256 else DS.look D.safe D.waits (T.lo + i) := fun i hi => by
    rw [k4 _ (by rw [g3, hs2]; omega), g4]
    by_cases e : i = q
    · rw [if_pos e, if_pos (by omega), hmk]
    · rw [if_neg e, if_neg (by omega), f4 _ (by rw [a3]; omega), a4]
      by_cases e2 : q ≤ i ∧ i < q + K
      · rw [if_pos e2, if_pos (by omega), show T.lo + i - (T.lo + q) = i - q from by omega, hget _ (by omega)]
      · rw [if_neg e2, if_neg (by omega)]
  have hov := stretch_over (D := D) (D' := D4) (lo := T.lo) (n := n) (q := q) (K := K) h.ok k2.ok (by omega) (by rw [hs4]; omega) hqK (X := P.set j 1) (by rw [List.length_set]; exact hK)
    (fun i hi => by
      rw [hlook _ (by omega)]
      by_cases e : i = 0
      · subst e
        rw [if_pos (by omega), Nat.zero_mul, List.drop_zero, List.take_set]
      · rw [if_neg (by omega), if_pos (by omega), show q + i - q = i from by omega, List.drop_set_of_lt (by omega)])
    (fun i hi ho => by rw [hlook _ hi, if_neg (by omega), if_neg (by omega)])
  rw [← hS] at hov
  have hPs : P.set j 1 = ah ++ (1 :: Y ++ tail) ++ List.replicate z 0 := by
    rw [hPe, List.append_assoc, List.set_append_right _ _ (by omega), hahl, Nat.sub_self]
    simp
  have hcat : S.take (q * 256) ++ ah = S.take T.pos := by rw [hah, hpos, List.take_add]
  rw [← hn, ← hS, hov, hPs, ← hY]
  refine ⟨tail ++ List.replicate z 0 ++ S.drop ((q + K) * 256), ?_, ?_⟩
  · rw [← hcat]; simp
  · by_cases hr : T.pos + (12 + r.length) < T.size
    · rw [htl.2.1 hr]; exact .inr rfl
    · left
      have h0 := htl.2.2 hr
      rw [hal, h0] at hz
      rw [h0] at hPl
      rw [h0]
      simp only [List.length_nil, Nat.add_zero] at hPl hz
      have hz0 : z = 0 := by omega
      subst hz0
      rw [List.drop_of_length_le (by rw [hSl]; omega)]
      rfl
/-- Records one behind the other, as they are laid. -/
def encs : Nat → List (List UInt8) → List UInt8
  | _, [] => []
  | c, r :: rs => (1 :: (framed c r ++ r)) ++ encs (c + 1) rs
theorem encs_snoc : ∀ (rs : List (List UInt8)) (c : Nat) (r : List UInt8), encs c (rs ++ [r]) = encs c rs ++ (1 :: (framed (c + rs.length) r ++ r))
  | [], c, r => by simp [encs]
  | x :: rs, c, r => by
    rw [List.cons_append, encs, encs_snoc rs (c + 1) r, encs, List.append_assoc, List.length_cons, show c + 1 + rs.length = c + (rs.length + 1) from by omega]
theorem num_size3 {n : Nat} (hn : n < 16777216) : (Sum.num (size3 n)).toNat = n := by
  unfold size3
  simp only [Sum.num, Sum.nst, List.foldl_cons, List.foldl_nil, UInt8.toNat_ofNat']
  omega
theorem found_enc {A rest r : List UInt8} {c : Nat} (hr : r.length ≤ 65536) : found (A ++ (1 :: (framed c r ++ r)) ++ rest) A.length c = .yes r := by
  obtain ⟨S, hS⟩ : ∃ S, S = A ++ (1 :: (framed c r ++ r)) ++ rest := ⟨_, rfl⟩
  rw [← hS]
  have hl : S.length = A.length + 12 + r.length + rest.length := by
    rw [hS]; simp only [List.length_append, List.length_cons, framed_len]; omega
  have hd : S.drop (A.length + 1) = framed c r ++ (r ++ rest) := by
    rw [hS, List.append_assoc, ← List.drop_drop, List.drop_left]
    simp
  have h1 : S.getD A.length 0 = 1 := by
    rw [hS, List.append_assoc, List.getD_eq_getElem?_getD, List.getElem?_append_right (Nat.le_refl _), Nat.sub_self]
    rfl
  have h11 : (S.drop (A.length + 1)).take 11 = framed c r := by
    rw [hd]
    exact List.take_left' (framed_len c r)
  have h3 : (S.drop (A.length + 1)).take 3 = size3 r.length := by
    rw [hd, List.take_append_of_le_length (by rw [framed_len]; omega)]
    unfold framed
    exact List.take_left' (size3_len _)
  have hla : lenAt S A.length = r.length := by
    unfold lenAt
    rw [h3, num_size3 (by omega)]
  have h12 : (S.drop (A.length + 12)).take r.length = r := by
    have : S.drop (A.length + 12) = r ++ rest := by
      rw [show A.length + 12 = A.length + 1 + 11 from rfl, ← List.drop_drop, hd]
      exact List.drop_left' (framed_len c r)
    rw [this]
    exact List.take_left' rfl
  unfold found
  rw [if_neg (by omega), if_neg (by rw [h1]; decide), hla, if_pos ⟨h1, hr, by omega⟩, h12, h11, if_pos rfl]
theorem found_stop {A rest : List UInt8} {c : Nat} (h : Stop rest) : found (A ++ rest) A.length c = .no := by
  unfold found
  by_cases hl : (A ++ rest).length < A.length + 12
  · rw [if_pos hl]
  · rw [if_neg hl, if_pos]
    rcases h with rfl | h
    · rw [List.append_nil] at hl; omega
    · rw [List.getD_eq_getElem?_getD, List.getElem?_append_right (Nat.le_refl _), Nat.sub_self, ← List.head?_eq_getElem?, h]
      rfl
theorem opened_enc : ∀ (recs : List (List UInt8)) (A rest : List UInt8) (c fuel : Nat) (acc : List (List UInt8)), Stop rest → (∀ r ∈ recs, r.length ≤ 65536) → recs.length + 1 ≤ fuel →
    opened (A ++ encs c recs ++ rest) fuel A.length c acc = (0, acc ++ recs, (A ++ encs c recs).length, c + recs.length)
  | [], A, rest, c, fuel, acc, h, _, hf => by
    obtain ⟨k, rfl⟩ : ∃ k, fuel = k + 1 := ⟨fuel - 1, by simp only [List.length_nil] at hf; omega⟩
    simp only [encs, List.append_nil]
    rw [opened, found_stop h]
    rfl
  | r :: rs, A, rest, c, fuel, acc, h, hr, hf => by
    obtain ⟨k, rfl⟩ : ∃ k, fuel = k + 1 := ⟨fuel - 1, by rw [List.length_cons] at hf; omega⟩
    have e1 : A ++ encs c (r :: rs) ++ rest = A ++ (1 :: (framed c r ++ r)) ++ (encs (c + 1) rs ++ rest) := by rw [encs]; simp
    have e2 : A ++ encs c (r :: rs) ++ rest = (A ++ (1 :: (framed c r ++ r))) ++ encs (c + 1) rs ++ rest := by rw [encs]; simp
    have e3 : A.length + 12 + r.length = (A ++ (1 :: (framed c r ++ r))).length := by simp only [List.length_append, List.length_cons, framed_len]; omega
    rw [opened, e1, found_enc (hr r (by simp)), ← e1]
    simp only
    rw [e3, e2, opened_enc rs _ rest (c + 1) k (acc ++ [r]) h (fun x hx => hr x (by simp [hx])) (by rw [List.length_cons] at hf; omega)]
    rw [encs, List.length_cons]
    refine Prod.ext rfl (Prod.ext ?_ (Prod.ext ?_ ?_))
    · simp
    · simp only [List.append_assoc]
    · simp only; omega
end TS
end Go.Proofs.Ytoaeapnkefjpaaa

namespace Go.Proofs.Ytoaeapnkefjpaaa
open Go.RowKit
set_option linter.unusedVariables false
set_option linter.unusedSimpArgs false
namespace TS
/-- The drum's stretch holds these records, and nothing behind. -/
structure On (D : DS) (lo hi : Nat) (recs : List (List UInt8)) : Prop where
  live : Live D
  lt : lo < hi
  le : hi ≤ D.safe.length
  bytes : ∃ rest, stretch D lo (hi - lo) = encs 0 recs ++ rest ∧ Stop rest
  small : ∀ r ∈ recs, r.length ≤ 65536
/-- And the tape knows it. -/
structure Holds (D : DS) (T : TS) (recs : List (List UInt8)) : Prop where
  on : On D T.lo T.hi recs
  ok : T.Ok D.safe.length
  sick : T.sick = 0
  count : T.count = recs.length
  pos : T.pos = (encs 0 recs).length
theorem encs_count : ∀ (recs : List (List UInt8)) (c : Nat), recs.length ≤ (encs c recs).length
  | [], _ => Nat.le_refl _
  | r :: rs, c => by
    have := encs_count rs (c + 1)
    rw [encs, List.length_append, List.length_cons, List.length_cons]
    omega
theorem On.opn {D : DS} {lo hi : Nat} {recs : List (List UInt8)} (h : On D lo hi recs) : opn D lo hi = (0, recs, (encs 0 recs).length, recs.length) := by
  obtain ⟨rest, hb, hs⟩ := h.bytes
  have hl := stretch_len h.live.ok (lo := lo) (n := hi - lo) (by have := h.le; have := h.lt; omega)
  unfold TS.opn
  have h1 : ¬ ((lo : Int) < 0 ∨ (D.safe.length : Int) < (hi : Int) ∨ (hi : Int) ≤ (lo : Int)) := by have := h.le; have := h.lt; omega
  rw [if_neg h1, if_neg (by simp [h.live.on])]
  simp only [Int.toNat_natCast]
  rw [hb]
  have hc := encs_count recs 0
  have := opened_enc recs [] rest 0 ((hi - lo) * 256 + 1) [] hs h.small (by rw [hb, List.length_append] at hl; omega)
  simpa using this
theorem On.holds {D : DS} {lo hi : Nat} {recs : List (List UInt8)} (h : On D lo hi recs) : Holds D ⟨lo, hi, (encs 0 recs).length, recs.length, 0⟩ recs := by
  obtain ⟨rest, hb, hs⟩ := h.bytes
  have hl := stretch_len h.live.ok (lo := lo) (n := hi - lo) (by have := h.le; have := h.lt; omega)
  rw [hb, List.length_append] at hl
  have hc := encs_count recs 0
  exact ⟨h, ⟨h.lt, h.le, by show (encs 0 recs).length ≤ (hi - lo) * 256; omega, hc, by show (-9223372036854775808 : Int) ≤ 0 ∧ (0 : Int) ≤ 9223372036854775807; omega⟩, rfl, rfl, rfl⟩
theorem Holds.append {D : DS} {T : TS} {recs : List (List UInt8)} (h : Holds D T recs) {r : List UInt8} (hr : r.length ≤ 65536) (hs : T.pos + 12 + r.length ≤ T.size) :
    (TS.append D T r).1 = 0 ∧ Holds (TS.append D T r).2.1 (TS.append D T r).2.2 (recs ++ [r]) ∧ (TS.append D T r).2.2.lo = T.lo ∧ (TS.append D T r).2.2.hi = T.hi ∧ (TS.append D T r).2.2.pos = T.pos + 12 + r.length := by
  have e : TS.append D T r = doIt D T r := by
    unfold TS.append
    rw [if_neg (by omega), if_neg (by simp [h.sick]), if_neg (by omega)]
  obtain ⟨h1, h2, h3, h4, rest, h5, h6⟩ := doIt_live h.on.live h.ok hs
  rw [e, h2]
  obtain ⟨rest0, hb, -⟩ := h.on.bytes
  have henc : encs 0 (recs ++ [r]) = encs 0 recs ++ (1 :: (framed recs.length r ++ r)) := by rw [encs_snoc, Nat.zero_add]
  have hp : T.pos + 12 + r.length = (encs 0 (recs ++ [r])).length := by
    rw [henc, List.length_append, ← h.pos, List.length_cons, List.length_append, framed_len]; omega
  refine ⟨h1, ⟨⟨h3, h.on.lt, by rw [h4]; exact h.on.le, ⟨rest, ?_, h6⟩, fun x hx => ?_⟩, ⟨h.ok.lt, by rw [h4]; exact h.ok.le, hs, by have := h.ok.count; show T.count + 1 ≤ T.pos + 12 + r.length; omega, h.ok.sick⟩, h.sick, ?_, hp⟩, rfl, rfl, rfl⟩
  · show stretch (doIt D T r).2.1 T.lo (T.hi - T.lo) = _
    rw [h5, hb, h.pos, List.take_left' rfl, henc, h.count]
  · rcases List.mem_append.1 hx with hx | hx
    · exact h.on.small x hx
    · rw [List.mem_singleton.1 hx]; exact hr
  · show T.count + 1 = _
    rw [List.length_append, h.count]; rfl
theorem Holds.full {D : DS} {T : TS} {recs : List (List UInt8)} (h : Holds D T recs) {r : List UInt8} (hr : r.length ≤ 65536) (hs : T.size < T.pos + 12 + r.length) : TS.append D T r = (22, D, T) := by
  unfold TS.append
  rw [if_neg (by omega), if_neg (by simp [h.sick]), if_pos hs]
/-- A stretch that begins with a nought holds nothing. -/
theorem On.start {D : DS} {lo hi : Nat} (h : Live D) (h1 : lo < hi) (h2 : hi ≤ D.safe.length) (h3 : (DS.look D.safe D.waits lo).head? = some 0) : On D lo hi [] := by
  refine ⟨h, h1, h2, ⟨stretch D lo (hi - lo), rfl, .inr ?_⟩, fun r hr => by simp at hr⟩
  rw [List.head?_eq_getElem?, stretch_get h.ok (by omega) (by omega), Nat.zero_div, Nat.zero_mod, Nat.add_zero, ← List.head?_eq_getElem?]
  exact h3
theorem On.new {n lo hi : Nat} (hn : 1 ≤ n) (hn2 : n ≤ 4096) (h1 : lo < hi) (h2 : hi ≤ n) : On (DS.new n) lo hi [] := by
  have hok : (DS.new n).Ok := by
    have := DS.Ok.new (n : Int)
    have e : DS.clamp (n : Int) = n := by unfold DS.clamp; omega
    rwa [e] at this
  refine On.start ⟨hok, rfl, rfl⟩ h1 (by show hi ≤ (List.replicate n page0).length; rw [List.length_replicate]; exact h2) ?_
  rw [DS.look_new n lo (by omega)]
  rfl
/-- Cleared. -/
theorem On.clear {D : DS} {lo hi : Nat} (h : Live D) (h1 : lo < hi) (h2 : hi ≤ D.safe.length) : (D.write lo page0).1 = 0 ∧ On (D.write lo page0).2 lo hi [] := by
  obtain ⟨a1, a2, a3, a4⟩ := write_live h (a := lo) (by omega) page0_len
  refine ⟨a1, On.start a2 h1 (by rw [a3]; exact h2) ?_⟩
  rw [a4, if_pos rfl]
  rfl
end TS
end Go.Proofs.Ytoaeapnkefjpaaa

namespace Go.Proofs.Ytoaeapnkefjpaaa
open Go.RowKit
set_option linter.unusedVariables false
set_option linter.unusedSimpArgs false
namespace TS
set_option maxRecDepth 100000 in
theorem doIt_out {D : DS} {T : TS} {r : List UInt8} (h : Live D) (hT : T.Ok D.safe.length) (hs : T.pos + 12 + r.length ≤ T.size) :
    ∀ k, k < D.safe.length → k < T.lo ∨ T.hi ≤ k → DS.look (doIt D T r).2.1.safe (doIt D T r).2.1.waits k = DS.look D.safe D.waits k := by
  intro k hk hko
  obtain ⟨t1, t2, t3, t4, -⟩ := hT
  have hsz : T.size = (T.hi - T.lo) * 256 := rfl
  obtain ⟨P, hP⟩ : ∃ P, P = padded D T T.pos (body T r) := ⟨_, rfl⟩
  have hm := padded_len D T T.pos (body T r)
  have hst := stretch_len h.ok (lo := T.lo) (n := T.hi - T.lo) (by omega)
  have hbl := body_len' T r
  have hPl : T.pos / 256 * 256 + P.length ≤ T.size ∧ P.length % 256 = 0 := by
    refine ⟨?_, by rw [hP]; exact hm⟩
    have hl : P.length = T.pos % 256 + (body T r).length + (256 - (T.pos % 256 + (body T r).length) % 256) % 256 := by
      rw [hP]
      unfold padded
      simp only [List.length_append, List.length_replicate, List.length_take, List.length_drop, hst]
      rw [Nat.min_eq_left (by omega)]
    split at hbl <;> omega
  obtain ⟨K, hK⟩ : ∃ K, P.length = K * 256 := ⟨P.length / 256, by omega⟩
  have hpg : ∀ p ∈ pagesOf P K, p.length = 256 := by
    intro p hp
    unfold pagesOf at hp
    rw [List.mem_map] at hp
    obtain ⟨i, hi, rfl⟩ := hp
    rw [List.mem_range] at hi
    have := (page_of P K i hK hi).2
    rwa [Nat.mul_comm i 256] at this
  have hpl : (pagesOf P K).length = K := by unfold pagesOf; simp
  have hlay : layR D T T.pos (body T r) = wr D (T.lo + T.pos / 256) (pagesOf P K) := by
    unfold layR laid
    rw [if_neg (by simp [h.on]), ← hP, hK, Nat.mul_div_cancel _ (by decide)]
  obtain ⟨a1, a2, a3, a4⟩ := wr_live (pagesOf P K) D (T.lo + T.pos / 256) h hpg (by rw [hpl]; omega)
  have a5 := a4 k
  rw [hpl, if_neg (by omega)] at a5
  rw [doIt_eq, hlay]
  clear hlay a4
  generalize wr D (T.lo + T.pos / 256) (pagesOf P K) = X1 at *
  obtain ⟨e1, D1⟩ := X1
  simp only at a1 a2 a3 a5 ⊢
  subst a1
  obtain ⟨f1, f2, f3, f4⟩ := flush_live a2
  have f5 := f4 k (by rw [a3]; exact hk)
  rw [if_neg (by simp)]
  clear f4
  generalize D1.Flush = X2 at *
  obtain ⟨e2, D2⟩ := X2
  simp only at f1 f2 f3 f5 ⊢
  subst f1
  rw [if_neg (by simp)]
  have hs2 : D2.safe.length = D.safe.length := by rw [f3, a3]
  have hml : (marked D2 T).length = 256 := by
    unfold marked
    rw [List.length_set]
    exact DS.look_len f2.ok.page f2.ok.wait (by rw [hs2]; omega)
  obtain ⟨g1, g2, g3, g4⟩ := write_live f2 (a := T.lo + T.pos / 256) (by rw [hs2]; omega) hml
  have g5 := g4 k
  rw [if_neg (by omega)] at g5
  clear g4
  generalize D2.write (T.lo + T.pos / 256 : Nat) (marked D2 T) = X3 at *
  obtain ⟨e3, D3⟩ := X3
  simp only at g1 g2 g3 g5 ⊢
  subst g1
  rw [if_neg (by simp)]
  obtain ⟨k1, k2, k3, k4⟩ := flush_live g2
  have k5 := k4 k (by rw [g3, hs2]; exact hk)
  clear k4
  generalize D3.Flush = X4 at *
  obtain ⟨e4, D4⟩ := X4
  simp only at k1 k2 k3 k5 ⊢
  subst k1
  rw [if_neg (by simp)]
  exact k5.trans (g5.trans (f5.trans a5))
theorem Holds.out {D : DS} {T : TS} {recs : List (List UInt8)} (h : Holds D T recs) {r : List UInt8} (hr : r.length ≤ 65536) (hs : T.pos + 12 + r.length ≤ T.size) :
    ∀ k, k < D.safe.length → k < T.lo ∨ T.hi ≤ k → DS.look (TS.append D T r).2.1.safe (TS.append D T r).2.1.waits k = DS.look D.safe D.waits k := by
  have e : TS.append D T r = doIt D T r := by
    unfold TS.append
    rw [if_neg (by omega), if_neg (by simp [h.sick]), if_neg (by omega)]
  rw [e]
  exact doIt_out h.on.live h.ok hs
end TS
end Go.Proofs.Ytoaeapnkefjpaaa

namespace Go.Proofs.Ytoaeapnkefjpaaa
open Go.RowKit
set_option linter.unusedVariables false
set_option linter.unusedSimpArgs false
namespace PS
theorem take_take_eq {α : Type} {S S' : List α} {m n : Nat} (e : S.take n = S'.take n) (h : m ≤ n) : S.take m = S'.take m := by
  have := congrArg (List.take m) e
  rwa [List.take_take, List.take_take, Nat.min_eq_left h] at this
theorem drop_take_eq {α : Type} {S S' : List α} {m n : Nat} (e : S.take (m + n) = S'.take (m + n)) : (S.drop m).take n = (S'.drop m).take n := by
  have := congrArg (List.drop m) e
  rwa [List.drop_take, List.drop_take, Nat.add_sub_cancel_left] at this
/-- What is loaded hangs on the snapshot's own pages alone. -/
theorem load_congr {S S' : List UInt8} {h k : Nat} {s : List UInt8} (hl : load S h = (0, s, k)) (e : S.take (256 * k) = S'.take (256 * k)) : load S' h = (0, s, k) := by
  unfold load at hl
  split at hl
  · rename_i h0
    simp only [Prod.mk.injEq] at hl
    obtain ⟨-, rfl, rfl⟩ := hl
    unfold load
    rw [if_pos (by rw [← take_take_eq e (by omega : 12 ≤ 256 * 1)]; exact h0)]
  · split at hl
    · cases hl
    · split at hl
      · rename_i h0 h1 h2
        simp only [Prod.mk.injEq] at hl
        obtain ⟨-, rfl, rfl⟩ := hl
        have hk : 12 + num4 S ≤ 256 * takes (num4 S) := by unfold takes; omega
        have hn : num4 S' = num4 S := by unfold num4; rw [take_take_eq e (by omega : 4 ≤ _)]
        unfold load
        rw [hn, if_neg (by rw [← take_take_eq e (by omega : 12 ≤ _)]; exact h0), if_neg h1, ← take_take_eq e hk, ← drop_take_eq (take_take_eq e hk), if_pos h2]
      · cases hl
theorem num_size4 {n : Nat} (hn : n < 4294967296) : (Sum.num (size4 n)).toNat = n := by
  unfold size4
  simp only [Sum.num, Sum.nst, List.foldl_cons, List.foldl_nil, UInt8.toNat_ofNat']
  omega
/-- A saved snapshot is loaded. -/
theorem load_all {S b : List UInt8} {h : Nat} (hb : b.length < 4294967296) (hh : takes b.length < h) (e : S.take (256 * takes b.length) = framed b ++ List.replicate (takes b.length * 256 - 12 - b.length) 0) : load S h = (0, b, takes b.length) := by
  have hk : 12 + b.length ≤ 256 * takes b.length := by unfold takes; omega
  have h1 : S.take (12 + b.length) = framed b := by
    have := congrArg (List.take (12 + b.length)) e
    rwa [List.take_take, Nat.min_eq_left hk, List.take_left' (framed_len b)] at this
  have h4 : S.take 4 = size4 b.length := by
    have := congrArg (List.take 4) h1
    rw [List.take_take, Nat.min_eq_left (by omega)] at this
    rw [this]
    unfold framed
    rw [List.append_assoc]
    exact List.take_left' (size4_len _)
  have hn : num4 S = b.length := by unfold num4; rw [h4, num_size4 hb]
  have h12 : (S.drop 12).take b.length = b := by
    have := congrArg (List.drop 12) h1
    rw [List.drop_take, Nat.add_sub_cancel_left] at this
    rw [this]
    unfold framed
    exact List.drop_left' (by rw [List.length_append, Sum.be8_length, size4_len])
  unfold load
  by_cases h0 : S.take 12 = List.replicate 12 0
  · rw [if_pos h0]
    have h5 : size4 b.length = List.replicate 4 0 := by
      have := congrArg (List.take 4) h0
      rw [List.take_take, Nat.min_eq_left (by omega), h4] at this
      rw [this]; rfl
    have h6 : b.length = 0 := by
      have := num_size4 hb
      rw [h5] at this
      rw [← this]; decide
    obtain rfl := List.eq_nil_of_length_eq_zero h6
    rfl
  · rw [if_neg h0, hn, if_neg (by omega), h12, h1, if_pos rfl]
/-- The drum holds this snapshot and these records; the pair knows it. -/
structure Has (D : DS) (P : PS) (snap : List UInt8) (recs : List (List UInt8)) : Prop where
  n5 : 5 ≤ D.safe.length
  half : P.half ≤ 1
  sick : P.sick = 0
  root : root D = P.half
  load : ∃ k, load (halfOf D P.half) (hp D.safe.length) = (0, snap, k) ∧ 1 ≤ k ∧ k < hp D.safe.length ∧ P.T.lo = 1 + P.half * hp D.safe.length + k
  hi : P.T.hi = 1 + P.half * hp D.safe.length + hp D.safe.length
  tape : TS.Holds D P.T recs
variable {D : DS} {P : PS} {snap : List UInt8} {recs : List (List UInt8)}
theorem Has.live (h : Has D P snap recs) : TS.Live D := h.tape.on.live
theorem hp_two {n : Nat} (h : 5 ≤ n) : 2 ≤ hp n ∧ 2 * hp n + 1 ≤ n := by unfold hp; omega
theorem half_le {n a : Nat} (h : 5 ≤ n) (ha : a ≤ 1) : 1 + a * hp n + hp n ≤ n := by
  have h1 : a * hp n ≤ 1 * hp n := Nat.mul_le_mul_right _ ha
  have := hp_two h
  omega
/-- What an opening answers. -/
theorem Has.open (h : Has D P snap recs) : open_ D = (0, snap, recs, P) := by
  obtain ⟨k, h1, h2, h3, h4⟩ := h.load
  have ho := h.tape.on.opn
  rw [h4, h.hi] at ho
  unfold open_
  simp only [h.root, h1]
  have hn : ¬ (1 < P.half) := by have := h.half; omega
  rw [if_neg (by have := h.n5; omega), if_neg (by simp [h.live.on]), if_neg hn, if_neg (by simp), ho, if_neg (by simp)]
  obtain ⟨hf, ⟨lo, hi, pos, cnt, sk⟩, s⟩ := P
  have e1 := h.sick
  have e2 := h.hi
  have e3 := h.tape.sick
  have e4 := h.tape.pos
  have e5 := h.tape.count
  simp only at e1 e2 e3 e4 e5 h4 ⊢
  subst e1 e2 e3 e4 e5 h4
  rfl
/-- A stretch's first pages, where they are as they were. -/
theorem stretch_take {D D' : DS} (h : D.Ok) (h' : D'.Ok) {lo n k : Nat} (hn : lo + n ≤ D.safe.length) (hn' : lo + n ≤ D'.safe.length) (hk : k ≤ n) (hl : ∀ i, lo ≤ i → i < lo + k → DS.look D'.safe D'.waits i = DS.look D.safe D.waits i) :
    (TS.stretch D' lo n).take (256 * k) = (TS.stretch D lo n).take (256 * k) := by
  apply List.ext_getElem?
  intro j
  rw [List.getElem?_take, List.getElem?_take]
  by_cases hj : j < 256 * k
  · rw [if_pos hj, if_pos hj, TS.stretch_get h hn (by omega), TS.stretch_get h' hn' (by omega), hl _ (by omega) (by omega)]
  · rw [if_neg hj, if_neg hj]
/-- Where the snapshot's own pages and the root are as they were, all but the tape is. -/
theorem Has.move {D' : DS} {T' : TS} {recs' : List (List UInt8)} (h : Has D P snap recs) (hl : D'.safe.length = D.safe.length) (hlo : T'.lo = P.T.lo) (hhi : T'.hi = P.T.hi) (hk : ∀ i, i < P.T.lo → DS.look D'.safe D'.waits i = DS.look D.safe D.waits i) (ht : TS.Holds D' T' recs') : Has D' { P with T := T' } snap recs' := by
  obtain ⟨k, h1, h2, h3, h4⟩ := h.load
  have hle := half_le h.n5 h.half
  refine ⟨by rw [hl]; exact h.n5, h.half, h.sick, ?_, ⟨k, ?_, h2, by rw [hl]; exact h3, by rw [hl, hlo]; exact h4⟩, by rw [hl, hhi]; exact h.hi, ht⟩
  · show PS.root D' = P.half
    rw [← h.root]
    unfold PS.root
    rw [hk 0 (by omega)]
  · rw [hl]
    refine load_congr h1 ?_
    unfold halfOf
    rw [hl]
    exact (stretch_take h.live.ok ht.on.live.ok hle (by rw [hl]; exact hle) (by omega) (fun i _ hi => hk i (by omega))).symm
/-- A record more. -/
theorem Has.append (h : Has D P snap recs) {r : List UInt8} (hr : r.length ≤ 65536) (hs : P.T.pos + 12 + r.length ≤ P.T.size) :
    (PS.append D P r).1 = 0 ∧ Has (PS.append D P r).2.1 (PS.append D P r).2.2 snap (recs ++ [r]) ∧ (PS.append D P r).2.1.safe.length = D.safe.length ∧ (PS.append D P r).2.2.T.pos = P.T.pos + 12 + r.length ∧ (PS.append D P r).2.2.T.lo = P.T.lo ∧ (PS.append D P r).2.2.T.hi = P.T.hi ∧ (PS.append D P r).2.2.half = P.half ∧
      ∀ k, k < D.safe.length → k < P.T.lo ∨ P.T.hi ≤ k → DS.look (PS.append D P r).2.1.safe (PS.append D P r).2.1.waits k = DS.look D.safe D.waits k := by
  obtain ⟨h1, h2, h3, h4, h5⟩ := h.tape.append hr hs
  have ho := h.tape.out hr hs
  have hl := TS.append_len D P.T r
  have hle := h.tape.ok.le
  have hlt := h.tape.ok.lt
  have e : PS.append D P r = ((TS.append D P.T r).1, (TS.append D P.T r).2.1, { P with T := (TS.append D P.T r).2.2 }) := by
    unfold PS.append
    rw [if_neg (by simp [h.sick])]
  rw [e]
  exact ⟨h1, h.move hl h3 h4 (fun i hi => ho i (by omega) (.inl hi)) h2, hl, h5, h3, h4, rfl, ho⟩
theorem Has.full (h : Has D P snap recs) {r : List UInt8} (hr : r.length ≤ 65536) (hs : P.T.size < P.T.pos + 12 + r.length) : PS.append D P r = (22, D, P) := by
  unfold PS.append
  rw [if_neg (by simp [h.sick]), h.tape.full hr hs]
theorem Has.long (h : Has D P snap recs) {b : List UInt8} (hb : hp D.safe.length ≤ takes b.length) : save D P b = (3, D, P) := by
  unfold save
  rw [if_pos hb]
theorem rootPage_len (h : Nat) : (rootPage h).length = 256 := by unfold rootPage; rw [List.length_cons, List.length_replicate]
theorem all_len' (b : List UInt8) : (framed b ++ List.replicate (takes b.length * 256 - 12 - b.length) 0).length = takes b.length * 256 := by
  rw [List.length_append, framed_len, List.length_replicate]
  unfold takes
  omega
set_option maxRecDepth 100000 in
/-- A save's raw work. -/
theorem lay_live (h : TS.Live D) {a hf : Nat} {b : List UInt8} (ha : 1 ≤ a) (hn : a + takes b.length + 1 ≤ D.safe.length) :
    (lay D a hf b).1 = 0 ∧ TS.Live (lay D a hf b).2 ∧ (lay D a hf b).2.safe.length = D.safe.length ∧
    ∀ k, k < D.safe.length → DS.look (lay D a hf b).2.safe (lay D a hf b).2.waits k =
      if k = 0 then rootPage hf else if a ≤ k ∧ k < a + takes b.length then (paged b).getD (k - a) [] else if k = a + takes b.length then List.replicate 256 0 else DS.look D.safe D.waits k := by
  have hpl : (paged b).length = takes b.length := by unfold paged TS.pagesOf; simp
  have hpg : ∀ p ∈ paged b, p.length = 256 := by
    intro p hp
    unfold paged TS.pagesOf at hp
    rw [List.mem_map] at hp
    obtain ⟨i, hi, rfl⟩ := hp
    rw [List.mem_range] at hi
    rw [List.length_take, List.length_drop, all_len']
    omega
  obtain ⟨a1, a2, a3, a4⟩ := TS.wr_live (paged b) D a h hpg (by rw [hpl]; omega)
  rw [hpl] at a4
  unfold lay
  simp only []
  generalize TS.wr D a (paged b) = X1 at *
  obtain ⟨e1, D1⟩ := X1
  simp only at a1 a2 a3 a4 ⊢
  subst a1
  rw [if_neg (by simp)]
  obtain ⟨b1, b2, b3, b4⟩ := TS.write_live a2 (a := a + takes b.length) (by rw [a3]; omega) (l := List.replicate 256 0) (List.length_replicate ..)
  generalize D1.write (a + takes b.length : Nat) (List.replicate 256 0) = X2 at *
  obtain ⟨e2, D2⟩ := X2
  simp only at b1 b2 b3 b4 ⊢
  subst b1
  rw [if_neg (by simp)]
  obtain ⟨c1, c2, c3, c4⟩ := TS.flush_live b2
  generalize D2.Flush = X3 at *
  obtain ⟨e3, D3⟩ := X3
  simp only at c1 c2 c3 c4 ⊢
  subst c1
  rw [if_neg (by simp)]
  have hl3 : D3.safe.length = D.safe.length := by rw [c3, b3, a3]
  obtain ⟨d1, d2, d3, d4⟩ := TS.write_live c2 (a := 0) (by rw [hl3]; omega) (l := rootPage hf) (rootPage_len hf)
  rw [show ((0 : Nat) : Int) = 0 from rfl] at d1 d2 d3 d4
  generalize D3.write 0 (rootPage hf) = X4 at *
  obtain ⟨e4, D4⟩ := X4
  simp only at d1 d2 d3 d4 ⊢
  subst d1
  rw [if_neg (by simp)]
  obtain ⟨f1, f2, f3, f4⟩ := TS.flush_live d2
  have hl5 : D4.Flush.2.safe.length = D.safe.length := by rw [f3, d3, hl3]
  refine ⟨f1, f2, hl5, fun k hk => ?_⟩
  rw [f4 k (by rw [d3, hl3]; exact hk), d4 k]
  by_cases h0 : k = 0
  · rw [if_pos h0.symm, if_pos h0]
  · rw [if_neg (fun e => h0 e.symm), if_neg h0, c4 k (by rw [b3, a3]; exact hk), b4 k]
    by_cases h1 : a + takes b.length = k
    · rw [if_pos h1, if_neg (by omega), if_pos h1.symm]
    · rw [if_neg h1, a4 k]
      by_cases h2 : a ≤ k ∧ k < a + takes b.length
      · rw [if_pos h2, if_pos h2]
      · rw [if_neg h2, if_neg h2, if_neg (fun e => h1 e.symm)]
set_option maxRecDepth 100000 in
/-- A save that fits. -/
theorem Has.save (h : Has D P snap recs) {b : List UInt8} (hb : b.length < 4294967296) (hK : takes b.length < hp D.safe.length) :
    (PS.save D P b).1 = 0 ∧ Has (PS.save D P b).2.1 (PS.save D P b).2.2 b [] ∧ (PS.save D P b).2.1.safe.length = D.safe.length ∧ (PS.save D P b).2.2.half = 1 - P.half ∧ (PS.save D P b).2.2.T.pos = 0 ∧ (PS.save D P b).2.2.T.size = 256 * (hp D.safe.length - takes b.length) ∧
      ∀ k, k < D.safe.length → k ≠ 0 → k < 1 + (1 - P.half) * hp D.safe.length ∨ 1 + (1 - P.half) * hp D.safe.length + hp D.safe.length ≤ k → DS.look (PS.save D P b).2.1.safe (PS.save D P b).2.1.waits k = DS.look D.safe D.waits k := by
  have hh : 1 - P.half ≤ 1 := by omega
  have hle := half_le h.n5 hh
  have htk : 1 ≤ takes b.length := by unfold takes; omega
  obtain ⟨a, ha⟩ : ∃ a, a = 1 + (1 - P.half) * hp D.safe.length := ⟨_, rfl⟩
  rw [← ha] at hle
  obtain ⟨l1, l2, l3, l4⟩ := lay_live h.live (a := a) (hf := 1 - P.half) (b := b) (by omega) (by omega)
  have hs : DS.look (lay D a (1 - P.half) b).2.safe (lay D a (1 - P.half) b).2.waits (a + takes b.length) = List.replicate 256 0 := by
    rw [l4 _ (by omega), if_neg (by omega), if_neg (by omega), if_pos rfl]
  have hon := TS.On.start l2 (lo := a + takes b.length) (hi := a + hp D.safe.length) (by omega) (by rw [l3]; exact hle) (by rw [hs]; rfl)
  have ho := hon.opn
  have e : PS.save D P b = (0, (lay D a (1 - P.half) b).2, ⟨1 - P.half, ⟨a + takes b.length, a + hp D.safe.length, 0, 0, 0⟩, 0⟩) := by
    unfold PS.save
    rw [if_neg (by omega), if_neg (by simp [h.sick])]
    simp only [← ha]
    rw [if_neg (by rw [l1]; simp), ho, if_neg (by simp)]
    rfl
  rw [e]
  have hho := hon.holds
  have hroot : DS.look (lay D a (1 - P.half) b).2.safe (lay D a (1 - P.half) b).2.waits 0 = rootPage (1 - P.half) := by rw [l4 0 (by have := h.n5; omega), if_pos rfl]
  refine ⟨rfl, ⟨by rw [l3]; exact h.n5, hh, rfl, ?_, ⟨takes b.length, ?_, htk, by rw [l3]; exact hK, by rw [l3]; show a + _ = _; rw [ha]⟩, by rw [l3]; show a + _ = _; rw [ha], hho⟩, l3, rfl, rfl, ?_, ?_⟩
  · show PS.root (PS.lay D a (1 - P.half) b).2 = 1 - P.half
    unfold PS.root
    rw [hroot]
    unfold rootPage
    have : 1 - P.half = 0 ∨ 1 - P.half = 1 := by omega
    rcases this with e | e <;> rw [e] <;> rfl
  · show PS.load (halfOf _ (1 - P.half)) _ = _
    rw [l3]
    refine load_all hb hK ?_
    unfold halfOf
    rw [l3, ← ha]
    apply List.ext_getElem?
    intro j
    rw [List.getElem?_take]
    by_cases hj : j < 256 * takes b.length
    · rw [if_pos hj, TS.stretch_get l2.ok (by rw [l3]; exact hle) (by omega), l4 _ (by omega), if_neg (by omega), if_pos (by omega)]
      unfold paged TS.pagesOf
      rw [List.getD_eq_getElem?_getD, List.getElem?_map, List.getElem?_range (by omega), Option.map_some, Option.getD_some, List.getElem?_take, if_pos (Nat.mod_lt _ (by decide)), List.getElem?_drop]
      congr 1
      omega
    · rw [if_neg hj, List.getElem?_eq_none (by rw [all_len']; omega)]
  · show (a + hp D.safe.length - (a + takes b.length)) * 256 = _
    rw [Nat.add_sub_add_left, Nat.mul_comm]
  · intro k hk h0 ho
    rw [← ha] at ho
    rw [l4 k hk, if_neg h0, if_neg (by omega), if_neg (by omega)]
/-- A new drum. -/
theorem Has.new {n : Nat} (h5 : 5 ≤ n) (hn : n ≤ 4096) : Has (DS.new n) ⟨0, ⟨2, 1 + hp n, 0, 0, 0⟩, 0⟩ [] [] := by
  have hl : (DS.new n).safe.length = n := by show (List.replicate n page0).length = n; rw [List.length_replicate]
  have h2 := hp_two h5
  have hon := TS.On.new (n := n) (lo := 2) (hi := 1 + hp n) (by omega) hn (by omega) (by omega)
  have hpg : ∀ k, k < n → DS.look (DS.new n).safe (DS.new n).waits k = page0 := fun k hk => DS.look_new n k hk
  refine ⟨by rw [hl]; exact h5, Nat.zero_le _, rfl, ?_, ⟨1, ?_, Nat.le_refl _, by rw [hl]; omega, by rw [hl]; simp⟩, by rw [hl]; simp, hon.holds⟩
  · unfold PS.root
    rw [hpg 0 (by omega)]
    rfl
  · unfold PS.load
    rw [if_pos]
    unfold halfOf
    rw [hl]
    apply List.ext_getElem?
    intro j
    rw [List.getElem?_take]
    by_cases hj : j < 12
    · rw [if_pos hj, TS.stretch_get hon.live.ok (by rw [hl]; simp only; omega) (by omega), hpg _ (by simp only; omega)]
      unfold page0
      rw [List.getElem?_replicate, List.getElem?_replicate, if_pos (by omega), if_pos hj]
    · rw [if_neg hj, List.getElem?_eq_none (by rw [List.length_replicate]; omega)]
end PS
end Go.Proofs.Ytoaeapnkefjpaaa
