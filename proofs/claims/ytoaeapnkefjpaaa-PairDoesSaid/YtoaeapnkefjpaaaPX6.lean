/-
  Part 6 of what PairDoes lean on: contracts of the functions that they reach, and plain lemmas. Conditions: those that each lemma names.
-/
import Derived.Test.YtoaeapnkefjpaaaPX5
import Derived.Test.YtoaeapnkefjpaaaPX3
import Derived.Test.YtoaeapnkefjpaaaPX4
namespace Go.Proofs.Ytoaeapnkefjpaaa
open Go.RowKit
set_option linter.unusedVariables false
set_option linter.unusedSimpArgs false

set_option maxRecDepth 100000 in
set_option maxHeartbeats 3200000 in
theorem psave_in (z : Nat) (W : World) (q t p : Nat) (own0 : Nat → Prop) (P : PS) (vb : Value) (b : List UInt8) (ba bn : Nat) (D : DS) (X : Int × DS × PS)
    (hs : SIn z q vb (1 - P.half) (1 + (1 - P.half) * PS.hp D.safe.length) (PS.takes b.length) ba bn W) (hp : PairIn W q t p D.safe.length P) (hd : DrumAt W p own0 D) (hlt : ∀ j, own0 j → j < z) (hq : q < z) (ht : t < z) (hnq : ¬ own0 q) (hnt : ¬ own0 t) (hz : z + 5 ≤ W.heap.size)
    (hv : Sees W vb b) (hK : PS.takes b.length < PS.hp D.safe.length) (hP0 : P.sick = 0) (hX : X = PS.save D P b) (hN : D.waits.length ≤ 700000000) :
    Calls Try.prog 88 #[.pointer (some ⟨z + 1, 0, none⟩), .pointer (some ⟨bn, 0, none⟩), .pointer (some ⟨z, 0, none⟩), .pointer (some ⟨ba, 0, none⟩), .pointer (some ⟨z + 2, 0, none⟩)] W fun e w' => e = endOr5 X.1 (.tuple #[]) ∧ SEnd z W q t p D.safe.length own0 P X w' := by
  have hn := hd.ok.n2
  have hok := hd.ok
  obtain ⟨ao, co, rfl, -⟩ := hv.form0
  obtain ⟨K, hKe⟩ : ∃ K, K = PS.takes b.length := ⟨_, rfl⟩
  obtain ⟨Q, hQe⟩ : ∃ Q, Q = PS.hp D.safe.length := ⟨_, rfl⟩
  obtain ⟨hf, hhf⟩ : ∃ hf, hf = 1 - P.half := ⟨_, rfl⟩
  have hh1 : hf ≤ 1 := by omega
  rw [← hhf] at hs
  obtain ⟨A0, hA0⟩ : ∃ A0, A0 = 1 + hf * PS.hp D.safe.length := ⟨_, rfl⟩
  have hAQ : A0 + Q ≤ D.safe.length ∧ 1 ≤ A0 := by
    have h1 : hf * PS.hp D.safe.length ≤ 1 * PS.hp D.safe.length := Nat.mul_le_mul_right _ hh1
    have h2 : 2 * PS.hp D.safe.length + 1 ≤ D.safe.length := by have := hp.n5; unfold PS.hp; omega
    omega
  have hKb : b.length + 12 ≤ 256 * K ∧ 256 * K ≤ b.length + 267 ∧ 1 ≤ K := by rw [hKe]; unfold PS.takes; omega
  unfold PS.save at hX
  rw [if_neg (by omega), if_neg (by simpa using hP0)] at hX
  rw [← hKe, ← hA0] at hs
  simp only [← hhf] at hX
  rw [← hA0, ← hQe, ← hKe] at hX
  have HHF := hid hhf
  clear hhf
  rw [← hKe, ← hQe] at hK
  have hfr := pframed_any W.drew (.slice ao b.length co) b hv.drew (by omega)
  have k1 : ∀ w', Low W.heap.size W.drew w' → w'.cell? ⟨z + 1, 0, none⟩ = some (.slice ao b.length co) := fun w' hh => (hs.keep (fun j _ hj => (hh.b.block j (by omega)))).c1
  have kn : ∀ w', Low W.heap.size W.drew w' → w'.cell? ⟨bn, 0, none⟩ = some (I K) := fun w' hh => (hs.keep (fun j _ hj => (hh.b.block j (by omega)))).cn
  have HS := hid hs
  have HPR := hid hp
  have HD := hid hd
  have HV := hid hv
  have HX := hid hX
  have HFR := hid hfr
  have HLT := hid hlt
  have HNQ := hid hnq
  have HNT := hid hnt
  have HOK := hid hok
  have HKE := hid hKe
  have HQE := hid hQe
  have HA0 := hid hA0
  have HP0 := hid hP0
  clear hs hp hd hv hX hfr hlt hnq hnt hok hKe hQe hA0 hP0
  have hw1 : IntKind.i64.wrap ((K : Int) * 256) = (K : Int) * 256 := IntWalk.i64_in _ (by omega)
  have hw2 : IntKind.i64.wrap ((K : Int) * 256 - 12) = (K : Int) * 256 - 12 := IntWalk.i64_in _ (by omega)
  obtain ⟨kz, hkz⟩ : ∃ kz, kz = K * 256 - 12 - b.length := ⟨_, rfl⟩
  have hw3 : IntKind.i64.wrap ((K : Int) * 256 - 12 - (b.length : Int)) = ((kz : Nat) : Int) := by rw [IntWalk.i64_in _ (by omega)]; omega
  have HKZ := hid hkz
  have hkzb : kz ≤ 267 := by omega
  clear hkz
  go_enter Try.func88, Try.ntmps88
  go_wp2
  refine wp_region_order (Low W.heap.size) [] [(0,0),(2,0),(3,0),(4,0),(5,0),(6,0),(7,0),(1,1),(8,1),(9,0)] _ (by kernel_rfl) rfl Low.refl Low.trans (by kernel_rfl) (by simp only [pick, List.getElem?_toArray, List.getElem?_cons_zero, List.getElem?_cons_succ]; rfl) (fun c a d v w h => by cases d <;> exact h) ?_
  refine wpK_q (v := ?_) (a' := ?_) (by rfl) (fun w' hR => ?_) ?_ ?_
  rotate_left 2
  · go_simp; with_reducible rfl
  · simp only [Act.put, List.setIfInBounds_toArray, List.set_cons_zero, List.set_cons_succ]; rfl
  refine wpK_q (v := ?_) (a' := ?_) (by rfl) (fun w' hR => ?_) ?_ ?_
  rotate_left 2
  · go_simp; with_reducible rfl
  · simp only [Act.put, List.setIfInBounds_toArray, List.set_cons_zero, List.set_cons_succ]; rfl
  refine wpK_q (v := ?_) (a' := ?_) (by rfl) (fun w' hR => ?_) ?_ ?_
  rotate_left 2
  · go_simp; with_reducible rfl
  · simp only [Act.put, List.setIfInBounds_toArray, List.set_cons_zero, List.set_cons_succ]; rfl
  refine wpK_q (v := ?_) (a' := ?_) (by rfl) (fun w' hR => ?_) ?_ ?_
  rotate_left 2
  · go_simp; with_reducible rfl
  · simp only [Act.put, List.setIfInBounds_toArray, List.set_cons_zero, List.set_cons_succ]; rfl
  refine wpK_q (v := ?_) (a' := ?_) (by rfl) (fun w' hR => ?_) ?_ ?_
  rotate_left 2
  · go_simp; with_reducible rfl
  · simp only [Act.put, List.setIfInBounds_toArray, List.set_cons_zero, List.set_cons_succ]; rfl
  refine wpK_q (v := ?_) (a' := ?_) (by rfl) (fun w' hR => ?_) ?_ ?_
  rotate_left 2
  · go_simp; with_reducible rfl
  · simp only [Act.put, List.setIfInBounds_toArray, List.set_cons_zero, List.set_cons_succ]; rfl
  refine wpK_q (v := ?_) (a' := ?_) (by rfl) (fun w' hR => ?_) ?_ ?_
  rotate_left 2
  · go_simp; with_reducible rfl
  · simp only [Act.put, List.setIfInBounds_toArray, List.set_cons_zero, List.set_cons_succ]; rfl
  refine wpK_call Try.func89 (by kernel_rfl) rfl rfl (by rfl) #[.slice ao b.length co] (by simp only [List.map_toArray, List.map_cons, List.map_nil]; rfl) ?_
  refine HFR.out.mono ?_
  rintro e w1 ⟨v1, rfl, ho1, hb1⟩
  refine ⟨_, rfl, fun _ => ⟨hb1⟩, ?_⟩
  have hfl := PS.framed_len b
  obtain ⟨v2, w2, hr2, ho2, hg2, hat2⟩ := run_app_zeros w1 W.drew.heap.size 23 v1 _ _ ho1 kz (by omega) (by omega) hb1.size
  have hx2 : Below W.drew.heap.size W.drew w2 := hb1.grown hg2 hb1.size (fun k hk => (own_lt ho1 k hk).1)
  have hx3 : Below W.heap.size w1 w2 := (Below.refl _ _).grown hg2 hb1.size (fun k hk => (own_lt ho1 k hk).1)
  refine wpK_v (by rfl) (exec_append rfl _ (by simp only [List.map_toArray, List.map_cons, List.map_nil]; rfl) hr2) (fun _ => ⟨hx3⟩) (by simp only [Act.put, List.setIfInBounds_toArray, List.set_cons_zero, List.set_cons_succ]; rfl) ?_
  refine wpK_q (v := ?_) (a' := ?_) (by rfl) (fun w' hR => ?_) ?_ ?_
  rotate_left 2
  · go_simp; with_reducible rfl
  · simp only [Act.put, List.setIfInBounds_toArray, List.set_cons_zero, List.set_cons_succ]; rfl
  refine wpK_done ?_
  clear k1 kn
  have HW2 : Hid (Below W.heap.size W w2) := hid (Ext.trans _ _ _ (Ext.drew W) hx2)
  have hall : PS.framed b ++ List.replicate kz 0 = PS.all b := by unfold PS.all; rw [HKZ.out, ← HKE.out]
  have hall2 : w2.ownsRow W.heap.size 5 1 v2 (K * 256) ((PS.all b).map B) := own_len ho2 (by rw [hfl]; have := HKZ.out; omega) (by rw [← hall, List.map_append, List.map_replicate])
  have hal : (PS.all b).length = K * 256 := by rw [PS.all_len, ← HKE.out]
  obtain ⟨gA, cA, rfl, h1A, h2A, h3A⟩ := own_slice hall2 (by omega)
  unfold maxLen at h2A
  have HALL := hid hall2
  have HAL := hid hal
  have hbz : W.heap.size ≤ w2.heap.size := HW2.out.size
  have HAT : Hid (SAt z W q t p D.safe.length own0 P (.slice ao b.length co) hf A0 K ba bn w2.heap.size D w2) := hid ⟨HS.out.keep (fun j _ hj => HW2.out.block j (by omega)), HPR.out.below HW2.out, ⟨own0, HD.out.below HW2.out, fun j hj => .inl hj⟩, Mod.of_below _ HW2.out, HLT.out, hq, ht, HNQ.out, HNT.out, hz, hbz, rfl⟩
  clear hr2 ho2 hg2 hat2 hx2 hx3 ho1 hb1 hfl hall hall2 hal HS HPR HFR HV hw1 hw2 hw3 HKZ hkzb
  obtain ⟨bz, hbz2⟩ : ∃ bz, bz = w2.heap.size := ⟨_, rfl⟩
  rw [← hbz2] at HAT
  have hgb : W.heap.size ≤ gA ∧ gA < bz := by rw [hbz2]; exact h3A
  have hb2 : bz ≤ w2.heap.size := Nat.le_of_eq hbz2
  have cn := HAT.out.sin.cn
  clear hbz2 h3A
  go_wp2
  go_loopw [21] (fun i wr => ∃ (j : Nat) (Dj : DS), j ≤ K ∧ i = I j ∧ Hid (TS.wr D A0 ((PS.paged b).take j) = (0, Dj)) ∧ Hid (SAt z W q t p D.safe.length own0 P (.slice ao b.length co) hf A0 K ba bn bz Dj wr) ∧ Hid (wr.ownsRow W.heap.size 5 1 (.slice (some ⟨gA, 0, none⟩) (K * 256) cA) (K * 256) ((PS.all b).map B)) ∧ bz ≤ wr.heap.size) (fun i _ => K - (intOf i).toNat)
  case atStart => exact ⟨0, D, by omega, rfl, hid rfl, HAT, HALL, hb2⟩
  case round =>
    obtain ⟨j, Dj, hj, rfl, HWR, HSJ, HAJ, hbj⟩ := hrel
    clear cn HAT HALL hb2
    have c0 := HSJ.out.sin.c0
    have ca := HSJ.out.sin.ca
    by_cases hlt : j < K
    · obtain ⟨own, hdj, hoj⟩ := HSJ.out.drum
      have f1 : decide ((j : Int) < (K : Int)) = true := decide_eq_true (by omega)
      obtain ⟨lo, hlo⟩ : ∃ lo, lo = j * 256 := ⟨_, rfl⟩
      obtain ⟨hi, hhi⟩ : ∃ hi, hi = (j + 1) * 256 := ⟨_, rfl⟩
      have w33 : IntKind.i64.wrap ((j : Int) * 256) = (lo : Int) := by rw [IntWalk.i64_in _ (by omega)]; omega
      have w35 : IntKind.i64.wrap ((j : Int) + 1) = (j : Int) + 1 := IntWalk.i64_in _ (by omega)
      have w36 : IntKind.i64.wrap (((j : Int) + 1) * 256) = (hi : Int) := by rw [IntWalk.i64_in _ (by omega)]; omega
      have w30 : IntKind.i64.wrap ((A0 : Int) + (j : Int)) = (A0 : Int) + (j : Int) := IntWalk.i64_in _ (by omega)
      have b1 : (lo : Int) ≤ (hi : Int) := by omega
      have b2 : hi ≤ cA := by omega
      have b2i : (hi : Int) ≤ (cA : Int) := by omega
      have b3 : hi - lo = 256 := by omega
      have b4 : ¬ cA = lo := by omega
      have b5 : lo ≤ hi := by omega
      obtain ⟨pg, hpg⟩ : ∃ pg, pg = ((PS.all b).drop (256 * j)).take 256 := ⟨_, rfl⟩
      have hpl : pg.length = 256 := by rw [hpg]; exact PS.page_len b (by rw [← HKE.out]; exact hlt)
      have hsee := (own_sees' HAJ.out HAL.out).sl (lo := lo) (hi := hi) b5 (by omega)
      have hsl : sl (some ⟨gA, 0, none⟩) cA lo hi = .slice (some ⟨gA, lo, none⟩) 256 (cA - lo) := by unfold sl; rw [if_neg (by omega), b3, Option.map_some, add_off, Nat.zero_add]
      have hpe : ((PS.all b).take hi).drop lo = pg := by rw [hpg, List.drop_take, b3, hlo, Nat.mul_comm]
      rw [hsl, hpe] at hsee
      have hpat : (PS.paged b)[j]? = some pg := by rw [hpg]; exact PS.paged_at b (by rw [← HKE.out]; exact hlt)
      have hNj : Dj.waits.length ≤ 1000000000 := by
        have h1 := TS.wr_waits ((PS.paged b).take j) D A0
        rw [HWR.out] at h1
        have h2 : ((PS.paged b).take j).length ≤ j := List.length_take_le _ _
        simp only at h1; omega
      have hng : ∀ k, (Value.slice (some ⟨gA, lo, none⟩) 256 (cA - lo)).ownBlock = some k → ¬ own k := fun k hk ho => by
        obtain rfl : gA = k := Option.some.inj hk
        rcases hoj gA ho with h3 | h3
        · have := HLT.out gA h3; omega
        · omega
      have hwr := write_any wr.drew p own Dj ((A0 + j : Nat) : Int) _ pg (hdj.below (Ext.drew wr)) hsee.drew (by omega) hng hNj
      have hsn : TS.wr D A0 ((PS.paged b).take (j + 1)) = Dj.write ((A0 + j : Nat) : Int) pg := by
        have hl : ((PS.paged b).take j).length = j := by rw [List.length_take, PS.paged_len, ← HKE.out]; omega
        have := TS.wr_snoc D A0 ((PS.paged b).take j) pg HWR.out
        rw [hl] at this
        rw [← this, take_snoc hpat]
      have hlenw := DS.write_len Dj ((A0 + j : Nat) : Int) pg
      have ecast : ((A0 + j : Nat) : Int) = (A0 : Int) + (j : Int) := by omega
      rw [ecast] at hwr hsn hlenw
      have hdj0 := HSJ.out.pair.c0
      have k0 : ∀ w', Ext wr.drew w' → w'.cell? ⟨z, 0, none⟩ = some (.pointer (some ⟨q, 0, none⟩)) := fun w' hh => (HSJ.out.on (Ext.trans _ _ _ (Ext.drew wr) hh)).sin.c0
      have ka : ∀ w', Ext wr.drew w' → w'.cell? ⟨ba, 0, none⟩ = some (I A0) := fun w' hh => (HSJ.out.on (Ext.trans _ _ _ (Ext.drew wr) hh)).sin.ca
      have kp : ∀ w', Ext wr.drew w' → w'.cell? ⟨q, 0, none⟩ = some (.pointer (some ⟨p, 0, none⟩)) := fun w' hh => (HSJ.out.on (Ext.trans _ _ _ (Ext.drew wr) hh)).pair.c0
      have HWA := hid hwr
      have HSN := hid hsn
      have HLW := hid hlenw
      have HOJ := hid hoj
      obtain ⟨R, hR⟩ : ∃ R, R = Dj.write ((A0 : Int) + (j : Int)) pg := ⟨_, rfl⟩
      rw [← hR] at HWA HSN HLW
      obtain ⟨c, D1⟩ := R
      have hcd := DS.write_code Dj ((A0 : Int) + (j : Int)) pg
      rw [← hR] at hcd
      have HCD := hid hcd
      have HLO := hid hlo
      have HHI := hid hhi
      clear hwr hsn hlenw hoj hR hcd hlo hhi hsl hpe hpat hNj hng hsee hpl ecast hdj0 hdj hpg c0 ca
      go_wp2
      by_cases hc0 : c = 0
      · subst hc0
        refine wp_region_order Ext [14,15] [(0,0),(1,0),(2,0),(3,0),(4,0),(5,0),(6,0),(7,0),(8,0),(9,0),(10,0),(11,0),(12,0),(13,0),(14,2),(15,2)] _ (by kernel_rfl) rfl Ext.refl Ext.trans (by kernel_rfl) (by simp only [pick, List.getElem?_toArray, List.getElem?_cons_zero, List.getElem?_cons_succ]; rfl) (fun c a d v w h => by cases d <;> exact h) ?_
        refine wpK_q (v := ?_) (a' := ?_) (by rfl) (fun w' hR => ?_) ?_ ?_
        rotate_left 2
        · go_simp; with_reducible rfl
        · simp only [Act.put, List.setIfInBounds_toArray, List.set_cons_zero, List.set_cons_succ]; rfl
        refine wpK_q (v := ?_) (a' := ?_) (by rfl) (fun w' hR => ?_) ?_ ?_
        rotate_left 2
        · go_simp; with_reducible rfl
        · simp only [Act.put, List.setIfInBounds_toArray, List.set_cons_zero, List.set_cons_succ]; rfl
        refine wpK_q (v := ?_) (a' := ?_) (by rfl) (fun w' hR => ?_) ?_ ?_
        rotate_left 2
        · go_simp; with_reducible rfl
        · simp only [Act.put, List.setIfInBounds_toArray, List.set_cons_zero, List.set_cons_succ]; rfl
        refine wpK_q (v := ?_) (a' := ?_) (by rfl) (fun w' hR => ?_) ?_ ?_
        rotate_left 2
        · go_simp; with_reducible rfl
        · simp only [Act.put, List.setIfInBounds_toArray, List.set_cons_zero, List.set_cons_succ]; rfl
        refine wpK_q (v := ?_) (a' := ?_) (by rfl) (fun w' hR => ?_) ?_ ?_
        rotate_left 2
        · go_simp; with_reducible rfl
        · simp only [Act.put, List.setIfInBounds_toArray, List.set_cons_zero, List.set_cons_succ]; rfl
        refine wpK_q (v := ?_) (a' := ?_) (by rfl) (fun w' hR => ?_) ?_ ?_
        rotate_left 2
        · go_simp; with_reducible rfl
        · simp only [Act.put, List.setIfInBounds_toArray, List.set_cons_zero, List.set_cons_succ]; rfl
        refine wpK_q (v := ?_) (a' := ?_) (by rfl) (fun w' hR => ?_) ?_ ?_
        rotate_left 2
        · go_simp; with_reducible rfl
        · simp only [Act.put, List.setIfInBounds_toArray, List.set_cons_zero, List.set_cons_succ]; rfl
        refine wpK_q (v := ?_) (a' := ?_) (by rfl) (fun w' hR => ?_) ?_ ?_
        rotate_left 2
        · go_simp; with_reducible rfl
        · simp only [Act.put, List.setIfInBounds_toArray, List.set_cons_zero, List.set_cons_succ]; rfl
        refine wpK_q (v := ?_) (a' := ?_) (by rfl) (fun w' hR => ?_) ?_ ?_
        rotate_left 2
        · go_simp; with_reducible rfl
        · simp only [Act.put, List.setIfInBounds_toArray, List.set_cons_zero, List.set_cons_succ]; rfl
        refine wpK_q (v := ?_) (a' := ?_) (by rfl) (fun w' hR => ?_) ?_ ?_
        rotate_left 2
        · go_simp; with_reducible rfl
        · simp only [Act.put, List.setIfInBounds_toArray, List.set_cons_zero, List.set_cons_succ]; rfl
        refine wpK_q (v := ?_) (a' := ?_) (by rfl) (fun w' hR => ?_) ?_ ?_
        rotate_left 2
        · go_simp; with_reducible rfl
        · simp only [Act.put, List.setIfInBounds_toArray, List.set_cons_zero, List.set_cons_succ]; rfl
        refine wpK_q (v := ?_) (a' := ?_) (by rfl) (fun w' hR => ?_) ?_ ?_
        rotate_left 2
        · go_simp; with_reducible rfl
        · simp only [Act.put, List.setIfInBounds_toArray, List.set_cons_zero, List.set_cons_succ]; rfl
        refine wpK_q (v := ?_) (a' := ?_) (by rfl) (fun w' hR => ?_) ?_ ?_
        rotate_left 2
        · go_simp; with_reducible rfl
        · simp only [Act.put, List.setIfInBounds_toArray, List.set_cons_zero, List.set_cons_succ]; rfl
        refine wpK_q (v := ?_) (a' := ?_) (by rfl) (fun w' hR => ?_) ?_ ?_
        rotate_left 2
        · go_simp; with_reducible rfl
        · simp only [Act.put, List.setIfInBounds_toArray, List.set_cons_zero, List.set_cons_succ]; rfl
        refine wpK_call Try.func50 (by kernel_rfl) rfl rfl (by rfl) #[.pointer (some ⟨p, 0, none⟩), I ((A0 : Int) + (j : Int)), .slice (some ⟨gA, lo, none⟩) 256 (cA - lo)] (by simp only [List.map_toArray, List.map_cons, List.map_nil]; rfl) ?_
        refine HWA.out.mono ?_
        rintro e w5 ⟨rfl, own', hd5, ho5, hm5⟩
        refine ⟨_, rfl, (fun h => by cases h), ?_⟩
        refine wpK_call Try.func80 (by kernel_rfl) rfl rfl (by rfl) #[I 0] (by simp only [List.map_toArray, List.map_cons, List.map_nil]; rfl) ?_
        refine (fail_ok _).mono ?_
        rintro e w6 ⟨rfl, rfl⟩
        refine ⟨_, rfl, (fun h => by cases h), ?_⟩
        refine wpK_done ?_
        have hbj2 : bz ≤ wr.drew.heap.size := hbj
        have HS5 := hid ((HSJ.out.on (Ext.drew wr)).step HOJ.out hd5 ho5 hm5 (HLW.out.trans HSJ.out.len) hbj2)
        have HA5 := hid (own_mod (own_below HAJ.out (Ext.drew wr)) (fun k hk => hm5.block k (own_lt (own_below HAJ.out (Ext.drew wr)) k hk).2 (fun ho => by
          obtain rfl : gA = k := Option.some.inj hk
          rcases HOJ.out gA ho with h3 | h3
          · have := HLT.out gA h3; omega
          · omega)))
        have hb5 : bz ≤ w5.heap.size := Nat.le_trans hbj2 hm5.size
        clear hd5 ho5 hm5 k0 ka kp
        go_wp2
        go_roundw
        case rel => exact ⟨j + 1, D1, by omega, by go_num, HSN, HS5, HA5, hb5⟩
        case measure => simp [intOf]; omega
      · skip
        refine wp_region_order Ext [14,15] [(0,0),(1,0),(2,0),(3,0),(4,0),(5,0),(6,0),(7,0),(8,0),(9,0),(10,0),(11,0),(12,0),(13,0),(14,2),(15,2)] _ (by kernel_rfl) rfl Ext.refl Ext.trans (by kernel_rfl) (by simp only [pick, List.getElem?_toArray, List.getElem?_cons_zero, List.getElem?_cons_succ]; rfl) (fun c a d v w h => by cases d <;> exact h) ?_
        refine wpK_q (v := ?_) (a' := ?_) (by rfl) (fun w' hR => ?_) ?_ ?_
        rotate_left 2
        · go_simp; with_reducible rfl
        · simp only [Act.put, List.setIfInBounds_toArray, List.set_cons_zero, List.set_cons_succ]; rfl
        refine wpK_q (v := ?_) (a' := ?_) (by rfl) (fun w' hR => ?_) ?_ ?_
        rotate_left 2
        · go_simp; with_reducible rfl
        · simp only [Act.put, List.setIfInBounds_toArray, List.set_cons_zero, List.set_cons_succ]; rfl
        refine wpK_q (v := ?_) (a' := ?_) (by rfl) (fun w' hR => ?_) ?_ ?_
        rotate_left 2
        · go_simp; with_reducible rfl
        · simp only [Act.put, List.setIfInBounds_toArray, List.set_cons_zero, List.set_cons_succ]; rfl
        refine wpK_q (v := ?_) (a' := ?_) (by rfl) (fun w' hR => ?_) ?_ ?_
        rotate_left 2
        · go_simp; with_reducible rfl
        · simp only [Act.put, List.setIfInBounds_toArray, List.set_cons_zero, List.set_cons_succ]; rfl
        refine wpK_q (v := ?_) (a' := ?_) (by rfl) (fun w' hR => ?_) ?_ ?_
        rotate_left 2
        · go_simp; with_reducible rfl
        · simp only [Act.put, List.setIfInBounds_toArray, List.set_cons_zero, List.set_cons_succ]; rfl
        refine wpK_q (v := ?_) (a' := ?_) (by rfl) (fun w' hR => ?_) ?_ ?_
        rotate_left 2
        · go_simp; with_reducible rfl
        · simp only [Act.put, List.setIfInBounds_toArray, List.set_cons_zero, List.set_cons_succ]; rfl
        refine wpK_q (v := ?_) (a' := ?_) (by rfl) (fun w' hR => ?_) ?_ ?_
        rotate_left 2
        · go_simp; with_reducible rfl
        · simp only [Act.put, List.setIfInBounds_toArray, List.set_cons_zero, List.set_cons_succ]; rfl
        refine wpK_q (v := ?_) (a' := ?_) (by rfl) (fun w' hR => ?_) ?_ ?_
        rotate_left 2
        · go_simp; with_reducible rfl
        · simp only [Act.put, List.setIfInBounds_toArray, List.set_cons_zero, List.set_cons_succ]; rfl
        refine wpK_q (v := ?_) (a' := ?_) (by rfl) (fun w' hR => ?_) ?_ ?_
        rotate_left 2
        · go_simp; with_reducible rfl
        · simp only [Act.put, List.setIfInBounds_toArray, List.set_cons_zero, List.set_cons_succ]; rfl
        refine wpK_q (v := ?_) (a' := ?_) (by rfl) (fun w' hR => ?_) ?_ ?_
        rotate_left 2
        · go_simp; with_reducible rfl
        · simp only [Act.put, List.setIfInBounds_toArray, List.set_cons_zero, List.set_cons_succ]; rfl
        refine wpK_q (v := ?_) (a' := ?_) (by rfl) (fun w' hR => ?_) ?_ ?_
        rotate_left 2
        · go_simp; with_reducible rfl
        · simp only [Act.put, List.setIfInBounds_toArray, List.set_cons_zero, List.set_cons_succ]; rfl
        refine wpK_q (v := ?_) (a' := ?_) (by rfl) (fun w' hR => ?_) ?_ ?_
        rotate_left 2
        · go_simp; with_reducible rfl
        · simp only [Act.put, List.setIfInBounds_toArray, List.set_cons_zero, List.set_cons_succ]; rfl
        refine wpK_q (v := ?_) (a' := ?_) (by rfl) (fun w' hR => ?_) ?_ ?_
        rotate_left 2
        · go_simp; with_reducible rfl
        · simp only [Act.put, List.setIfInBounds_toArray, List.set_cons_zero, List.set_cons_succ]; rfl
        refine wpK_q (v := ?_) (a' := ?_) (by rfl) (fun w' hR => ?_) ?_ ?_
        rotate_left 2
        · go_simp; with_reducible rfl
        · simp only [Act.put, List.setIfInBounds_toArray, List.set_cons_zero, List.set_cons_succ]; rfl
        refine wpK_call Try.func50 (by kernel_rfl) rfl rfl (by rfl) #[.pointer (some ⟨p, 0, none⟩), I ((A0 : Int) + (j : Int)), .slice (some ⟨gA, lo, none⟩) 256 (cA - lo)] (by simp only [List.map_toArray, List.map_cons, List.map_nil]; rfl) ?_
        refine HWA.out.mono ?_
        rintro e w5 ⟨rfl, own', hd5, ho5, hm5⟩
        refine ⟨_, rfl, (fun h => by cases h), ?_⟩
        refine wpK_callp Try.func80 (by kernel_rfl) rfl rfl (by rfl) #[I c] (by simp only [List.map_toArray, List.map_cons, List.map_nil]; rfl) ?_
        refine (fail_no c (by simpa using hc0) _).mono ?_
        rintro e w6 ⟨rfl, rfl⟩
        refine ⟨_, rfl, ?_⟩
        have hst : TS.wr D A0 (PS.paged b) = (c, D1) := by
          have := TS.wr_stop D A0 ((PS.paged b).take (j + 1)) ((PS.paged b).drop (j + 1)) (by rw [HSN.out]; exact hc0)
          rw [List.take_append_drop] at this
          rw [this, HSN.out]
        have hXX : X = (c, D1, { P with sick := c }) := by
          rw [HX.out, PS.lay_1 hst hc0, if_pos hc0]
        have hS5 := (HSJ.out.on (Ext.drew wr)).step HOJ.out hd5 ho5 hm5 (HLW.out.trans HSJ.out.len) hbj
        refine And.intro rfl ?_
        rw [hXX]
        exact ⟨(endOr5_no hc0 _).symm, hS5.bad c⟩
    · have f1 : decide ((j : Int) < (K : Int)) = false := decide_eq_false (by omega)
      have hW1 : TS.wr D A0 (PS.paged b) = (0, Dj) := by
        have := HWR.out
        rwa [List.take_of_length_le (by rw [PS.paged_len, ← HKE.out]; omega)] at this
      have HW1 := hid hW1
      have hNj : Dj.waits.length ≤ 700010000 := by
        have h1 := TS.wr_waits (PS.paged b) D A0
        rw [hW1, PS.paged_len, ← HKE.out] at h1
        simp only at h1; omega
      clear hW1 HWR c0 ca hj
      have HNJ := hid hNj
      obtain ⟨ow, hdk, hok'⟩ := HSJ.out.drum
      have hcl := tclear_any wr.drew p ow Dj ((A0 + K : Nat) : Int) (hdk.below (Ext.drew wr)) (by omega) (by omega)
      have hl2 := DS.write_len Dj ((A0 + K : Nat) : Int) page0
      have hn2 := DS.write_waits' Dj ((A0 + K : Nat) : Int) page0
      obtain ⟨R2, hR2⟩ : ∃ R2, R2 = Dj.write ((A0 + K : Nat) : Int) page0 := ⟨_, rfl⟩
      rw [← hR2] at hcl hl2 hn2
      obtain ⟨c2, D2⟩ := R2
      have HR2 : Hid (Dj.write (A0 + PS.takes b.length : Nat) (List.replicate 256 0) = (c2, D2)) := hid (by rw [← HKE.out]; exact hR2.symm)
      have ecast : ((A0 + K : Nat) : Int) = (A0 : Int) + (K : Int) := by omega
      rw [ecast] at hcl
      have w30 : IntKind.i64.wrap ((A0 : Int) + (K : Int)) = (A0 : Int) + (K : Int) := IntWalk.i64_in _ (by omega)
      have HCL := hid hcl
      have HL2 := hid (hl2.trans HSJ.out.len)
      have HN2 := hid hn2
      have HOK2 := hid hok'
      have k0 : ∀ w', Ext wr.drew w' → w'.cell? ⟨z, 0, none⟩ = some (.pointer (some ⟨q, 0, none⟩)) := fun w' hh => (HSJ.out.on (Ext.trans _ _ _ (Ext.drew wr) hh)).sin.c0
      have ka : ∀ w', Ext wr.drew w' → w'.cell? ⟨ba, 0, none⟩ = some (I A0) := fun w' hh => (HSJ.out.on (Ext.trans _ _ _ (Ext.drew wr) hh)).sin.ca
      have kn : ∀ w', Ext wr.drew w' → w'.cell? ⟨bn, 0, none⟩ = some (I K) := fun w' hh => (HSJ.out.on (Ext.trans _ _ _ (Ext.drew wr) hh)).sin.cn
      have kp : ∀ w', Ext wr.drew w' → w'.cell? ⟨q, 0, none⟩ = some (.pointer (some ⟨p, 0, none⟩)) := fun w' hh => (HSJ.out.on (Ext.trans _ _ _ (Ext.drew wr) hh)).pair.c0
      clear hcl hl2 hn2 hR2 hdk hok' hNj ecast
      go_wp2
      by_cases hc2 : c2 = 0
      rotate_left
      · skip
        refine wp_region_order Ext [7,8] [(0,0),(1,0),(2,0),(3,0),(4,0),(5,0),(6,0),(7,2),(8,2)] _ (by kernel_rfl) rfl Ext.refl Ext.trans (by kernel_rfl) (by simp only [pick, List.getElem?_toArray, List.getElem?_cons_zero, List.getElem?_cons_succ]; rfl) (fun c a d v w h => by cases d <;> exact h) ?_
        refine wpK_q (v := ?_) (a' := ?_) (by rfl) (fun w' hR => ?_) ?_ ?_
        rotate_left 2
        · go_simp; with_reducible rfl
        · simp only [Act.put, List.setIfInBounds_toArray, List.set_cons_zero, List.set_cons_succ]; rfl
        refine wpK_q (v := ?_) (a' := ?_) (by rfl) (fun w' hR => ?_) ?_ ?_
        rotate_left 2
        · go_simp; with_reducible rfl
        · simp only [Act.put, List.setIfInBounds_toArray, List.set_cons_zero, List.set_cons_succ]; rfl
        refine wpK_q (v := ?_) (a' := ?_) (by rfl) (fun w' hR => ?_) ?_ ?_
        rotate_left 2
        · go_simp; with_reducible rfl
        · simp only [Act.put, List.setIfInBounds_toArray, List.set_cons_zero, List.set_cons_succ]; rfl
        refine wpK_q (v := ?_) (a' := ?_) (by rfl) (fun w' hR => ?_) ?_ ?_
        rotate_left 2
        · go_simp; with_reducible rfl
        · simp only [Act.put, List.setIfInBounds_toArray, List.set_cons_zero, List.set_cons_succ]; rfl
        refine wpK_q (v := ?_) (a' := ?_) (by rfl) (fun w' hR => ?_) ?_ ?_
        rotate_left 2
        · go_simp; with_reducible rfl
        · simp only [Act.put, List.setIfInBounds_toArray, List.set_cons_zero, List.set_cons_succ]; rfl
        refine wpK_q (v := ?_) (a' := ?_) (by rfl) (fun w' hR => ?_) ?_ ?_
        rotate_left 2
        · go_simp; with_reducible rfl
        · simp only [Act.put, List.setIfInBounds_toArray, List.set_cons_zero, List.set_cons_succ]; rfl
        refine wpK_q (v := ?_) (a' := ?_) (by rfl) (fun w' hR => ?_) ?_ ?_
        rotate_left 2
        · go_simp; with_reducible rfl
        · simp only [Act.put, List.setIfInBounds_toArray, List.set_cons_zero, List.set_cons_succ]; rfl
        refine wpK_call Try.func68 (by kernel_rfl) rfl rfl (by rfl) #[.pointer (some ⟨p, 0, none⟩), I ((A0 : Int) + (K : Int))] (by simp only [List.map_toArray, List.map_cons, List.map_nil]; rfl) ?_
        refine HCL.out.mono ?_
        rintro e w5 ⟨rfl, own', hd5, ho5, hm5⟩
        refine ⟨_, rfl, (fun h => by cases h), ?_⟩
        refine wpK_callp Try.func80 (by kernel_rfl) rfl rfl (by rfl) #[I c2] (by simp only [List.map_toArray, List.map_cons, List.map_nil]; rfl) ?_
        refine (fail_no c2 (by simpa using hc2) _).mono ?_
        rintro e w6 ⟨rfl, rfl⟩
        refine ⟨_, rfl, ?_⟩
        have hXX : X = (c2, D2, { P with sick := c2 }) := by
          rw [HX.out, PS.lay_2 HW1.out HR2.out hc2, if_pos hc2]
        have hS5 := (HSJ.out.on (Ext.drew wr)).step HOK2.out hd5 ho5 hm5 HL2.out hbj
        refine And.intro rfl ?_
        rw [hXX]
        exact ⟨(endOr5_no hc2 _).symm, hS5.bad c2⟩
      subst hc2
      refine wp_region_order Ext [7,8] [(0,0),(1,0),(2,0),(3,0),(4,0),(5,0),(6,0),(7,2),(8,2)] _ (by kernel_rfl) rfl Ext.refl Ext.trans (by kernel_rfl) (by simp only [pick, List.getElem?_toArray, List.getElem?_cons_zero, List.getElem?_cons_succ]; rfl) (fun c a d v w h => by cases d <;> exact h) ?_
      refine wpK_q (v := ?_) (a' := ?_) (by rfl) (fun w' hR => ?_) ?_ ?_
      rotate_left 2
      · go_simp; with_reducible rfl
      · simp only [Act.put, List.setIfInBounds_toArray, List.set_cons_zero, List.set_cons_succ]; rfl
      refine wpK_q (v := ?_) (a' := ?_) (by rfl) (fun w' hR => ?_) ?_ ?_
      rotate_left 2
      · go_simp; with_reducible rfl
      · simp only [Act.put, List.setIfInBounds_toArray, List.set_cons_zero, List.set_cons_succ]; rfl
      refine wpK_q (v := ?_) (a' := ?_) (by rfl) (fun w' hR => ?_) ?_ ?_
      rotate_left 2
      · go_simp; with_reducible rfl
      · simp only [Act.put, List.setIfInBounds_toArray, List.set_cons_zero, List.set_cons_succ]; rfl
      refine wpK_q (v := ?_) (a' := ?_) (by rfl) (fun w' hR => ?_) ?_ ?_
      rotate_left 2
      · go_simp; with_reducible rfl
      · simp only [Act.put, List.setIfInBounds_toArray, List.set_cons_zero, List.set_cons_succ]; rfl
      refine wpK_q (v := ?_) (a' := ?_) (by rfl) (fun w' hR => ?_) ?_ ?_
      rotate_left 2
      · go_simp; with_reducible rfl
      · simp only [Act.put, List.setIfInBounds_toArray, List.set_cons_zero, List.set_cons_succ]; rfl
      refine wpK_q (v := ?_) (a' := ?_) (by rfl) (fun w' hR => ?_) ?_ ?_
      rotate_left 2
      · go_simp; with_reducible rfl
      · simp only [Act.put, List.setIfInBounds_toArray, List.set_cons_zero, List.set_cons_succ]; rfl
      refine wpK_q (v := ?_) (a' := ?_) (by rfl) (fun w' hR => ?_) ?_ ?_
      rotate_left 2
      · go_simp; with_reducible rfl
      · simp only [Act.put, List.setIfInBounds_toArray, List.set_cons_zero, List.set_cons_succ]; rfl
      refine wpK_call Try.func68 (by kernel_rfl) rfl rfl (by rfl) #[.pointer (some ⟨p, 0, none⟩), I ((A0 : Int) + (K : Int))] (by simp only [List.map_toArray, List.map_cons, List.map_nil]; rfl) ?_
      refine HCL.out.mono ?_
      rintro e w5 ⟨rfl, own5, hd5, ho5, hm5⟩
      refine ⟨_, rfl, (fun h => by cases h), ?_⟩
      refine wpK_call Try.func80 (by kernel_rfl) rfl rfl (by rfl) #[I 0] (by simp only [List.map_toArray, List.map_cons, List.map_nil]; rfl) ?_
      refine (fail_ok _).mono ?_
      rintro e w6 ⟨rfl, rfl⟩
      refine ⟨_, rfl, (fun h => by cases h), ?_⟩
      refine wpK_done ?_
      have HS5 := hid ((HSJ.out.on (Ext.drew wr)).step HOK2.out hd5 ho5 hm5 HL2.out hbj)
      have hb5 : bz ≤ w5.heap.size := Nat.le_trans (show bz ≤ wr.drew.heap.size from hbj) hm5.size
      clear hd5 ho5 hm5 k0 ka kn kp HCL HSJ HAJ HOK2 hbj w30
      have c0 := HS5.out.sin.c0
      have cp := HS5.out.pair.c0
      obtain ⟨ow3, hd3, ho3⟩ := HS5.out.drum
      have hfl := flush_any w5 p ow3 D2 hd3
      have hl3 := DS.Flush_len D2
      have hn3 := DS.Flush_waits D2
      obtain ⟨R3, hR3⟩ : ∃ R3, R3 = D2.Flush := ⟨_, rfl⟩
      rw [← hR3] at hfl hl3 hn3
      obtain ⟨c3, D3⟩ := R3
      have HR3 := hid hR3.symm
      have HFL := hid hfl
      have HL3 := hid (hl3.trans HL2.out)
      have HN3 := hid hn3
      have HO3 := hid ho3
      clear hfl hl3 hn3 hR3 hd3 ho3
      by_cases hc3 : c3 = 0
      rotate_left
      · have hne : (c3 != 0) = true := by simpa using hc3
        have HC3 := hid hc3
        clear hc3
        go_wp2_with (first | (go_at_call 52; refine HFL.out.mono ?_; rintro e w7 ⟨rfl, hd7, hm7⟩; have HD7 := hid (And.intro hd7 hm7); clear hd7 hm7) | (go_at_call 80; refine (fail_no c3 hne _).mono ?_; rintro e w8 ⟨rfl, rfl⟩))
        have hXX : X = (c3, D3, { P with sick := c3 }) := by
          rw [HX.out, PS.lay_3 HW1.out HR2.out HR3.out HC3.out, if_pos HC3.out]
        have hS7 := HS5.out.step HO3.out HD7.out.1 (fun k hk => .inl hk) HD7.out.2 HL3.out hb5
        refine And.intro rfl ?_
        rw [hXX]
        exact ⟨(endOr5_no HC3.out _).symm, hS7.bad c3⟩
      subst hc3
      have hmk := fun w => run_page0 w 23 rfl
      have HMK := hid hmk
      clear hmk
      go_upto_region 8 with (first | (go_at_call 52; refine HFL.out.mono ?_; rintro e w7 ⟨rfl, hd7, hm7⟩; have HD7 := hid (And.intro hd7 hm7); clear hd7 hm7) | (go_at_call 80; refine (fail_ok _).mono ?_; rintro e w8 ⟨rfl, rfl⟩))
      have HS7 := hid (HS5.out.step HO3.out HD7.out.1 (fun k hk => .inl hk) HD7.out.2 HL3.out hb5)
      have hb7 : bz ≤ w7.heap.size := Nat.le_trans hb5 HD7.out.2.size
      have hmk := HMK.out w7
      clear HS5 HD7 hb5 HO3 c0 cp HFL
      go_upto_region 9 with (fail)
      obtain ⟨w8, hw8⟩ : ∃ w8, w8 = w7.alloc (.cells (page0.map B).toArray 5) := ⟨_, rfl⟩
      have hrow := own_page0 w7
      rw [← hw8] at hrow ⊢
      have hc8 := own_cell hrow (i := 0) (u := B 0) rfl
      have hf8 := own_frozen hrow 0
      obtain ⟨gr, hgr⟩ : ∃ gr, gr = w7.heap.size := ⟨_, rfl⟩
      rw [← hgr] at hc8 hf8 hrow ⊢
      have hbel9 : Below w7.heap.size w7 (w8.setCell ⟨gr, 0, none⟩ (.int .u8 (hf : Int))) := by
        rw [hw8, hgr]
        exact ((Below.refl _ _).alloc (Nat.le_refl _) _).trans ((Mod.set (own := fun k => k = w7.heap.size) rfl).below (by simp) (fun i hi e => by omega))
      have hbel8 : Below w7.heap.size w7 w8 := by rw [hw8]; exact (Below.refl _ _).alloc (Nat.le_refl _) _
      have hu8 : (.int .u8 (hf : Int) : Value) = B (UInt8.ofNat hf) := by
        have : hf = 0 ∨ hf = 1 := by omega
        rcases this with e | e <;> (rw [e]; rfl)
      have hr9 := own_set hrow (i := 0) (by omega) (B (UInt8.ofNat hf))
      rw [← hu8] at hr9
      have hrp : (page0.map B).set 0 (.int .u8 (hf : Int)) = (PS.rootPage hf).map B := by rw [hu8]; rfl
      rw [hrp] at hr9
      obtain ⟨ow7, hd7, ho7⟩ := HS7.out.drum
      have hwr := write_any (w8.setCell ⟨gr, 0, none⟩ (.int .u8 (hf : Int))) p ow7 D3 0 _ (PS.rootPage hf) (hd7.below hbel9) (own_sees' hr9 rfl) (by omega) (fun k hk ho => by have h1 := hd7.lt k ho; have h3 : gr = k := Option.some.inj hk; omega) (by have h1 : D3.waits.length ≤ D2.waits.length := HN3.out; have h2 : D2.waits.length ≤ Dj.waits.length + 1 := HN2.out; have h3 := HNJ.out; omega)
      have hl4 := DS.write_len D3 0 (PS.rootPage hf)
      have hn4 := DS.write_waits' D3 0 (PS.rootPage hf)
      obtain ⟨R4, hR4⟩ : ∃ R4, R4 = D3.write 0 (PS.rootPage hf) := ⟨_, rfl⟩
      rw [← hR4] at hwr hl4 hn4
      obtain ⟨c4, D4⟩ := R4
      have HR4 := hid hR4.symm
      have HWR4 := hid hwr
      have HL4 := hid (hl4.trans HL3.out)
      have HO7 := hid ho7
      have HS8 := hid (HS7.out.on hbel8)
      have HS9 := hid (HS7.out.on hbel9)
      have hz9 : bz ≤ (w8.setCell ⟨gr, 0, none⟩ (.int .u8 (hf : Int))).heap.size := Nat.le_trans hb7 hbel9.size
      have hw8u : IntKind.u8.wrap (hf : Int) = (hf : Int) := IntWalk.u8_in _ (by omega)
      have c2 := HS8.out.sin.c2
      have c0 := HS9.out.sin.c0
      have cp := HS9.out.pair.c0
      clear hmk hw8 hrow hgr hbel9 hbel8 hu8 hr9 hrp hd7 ho7 hwr hl4 hn4 hR4 HS7 hb7
      go_upto_region 10 with (fail)
      generalize w8.setCell ⟨gr, 0, none⟩ (.int .u8 (hf : Int)) = w9 at *
      clear hc8 hf8 HS8 c2
      by_cases hc4 : c4 = 0
      rotate_left
      · have hne : (c4 != 0) = true := by simpa using hc4
        have HC4 := hid hc4
        clear hc4
        go_wp2_with (first | (go_at_call 50; refine HWR4.out.mono ?_; rintro e wa ⟨rfl, own', hda, hoa, hma⟩; have HDA := hid (And.intro hda (And.intro hoa hma)); clear hda hoa hma) | (go_at_call 80; refine (fail_no c4 hne _).mono ?_; rintro e wb ⟨rfl, rfl⟩))
        have hXX : X = (c4, D4, { P with sick := c4 }) := by
          rw [HX.out, PS.lay_4 HW1.out HR2.out HR3.out HR4.out HC4.out, if_pos HC4.out]
        have hSa := HS9.out.step HO7.out HDA.out.1 HDA.out.2.1 HDA.out.2.2 HL4.out hz9
        refine And.intro rfl ?_
        rw [hXX]
        exact ⟨(endOr5_no HC4.out _).symm, hSa.bad c4⟩
      subst hc4
      go_upto_region 11 with (first | (go_at_call 50; refine HWR4.out.mono ?_; rintro e wa ⟨rfl, own', hda, hoa, hma⟩; have HDA := hid (And.intro hda (And.intro hoa hma)); clear hda hoa hma) | (go_at_call 80; refine (fail_ok _).mono ?_; rintro e wb ⟨rfl, rfl⟩))
      have HSA := hid (HS9.out.step HO7.out HDA.out.1 HDA.out.2.1 HDA.out.2.2 HL4.out hz9)
      have hza : bz ≤ wa.heap.size := Nat.le_trans hz9 HDA.out.2.2.size
      clear HS9 HDA hz9 c0 cp HO7 HWR4
      have c0 := HSA.out.sin.c0
      have cp := HSA.out.pair.c0
      obtain ⟨owa, hda, hoa⟩ := HSA.out.drum
      have hfl := flush_any wa p owa D4 hda
      have hl5 := DS.Flush_len D4
      obtain ⟨R5, hR5⟩ : ∃ R5, R5 = D4.Flush := ⟨_, rfl⟩
      rw [← hR5] at hfl hl5
      obtain ⟨c5, D5⟩ := R5
      have HR5 := hid hR5.symm
      have HFL := hid hfl
      have HL5 := hid (hl5.trans HL4.out)
      have HOA := hid hoa
      clear hfl hl5 hR5 hda hoa
      by_cases hc5 : c5 = 0
      rotate_left
      · have hne : (c5 != 0) = true := by simpa using hc5
        have HC5 := hid hc5
        clear hc5
        go_wp2_with (first | (go_at_call 52; refine HFL.out.mono ?_; rintro e wc ⟨rfl, hdc, hmc⟩; have HDC := hid (And.intro hdc hmc); clear hdc hmc) | (go_at_call 80; refine (fail_no c5 hne _).mono ?_; rintro e wd ⟨rfl, rfl⟩))
        have hXX : X = (c5, D5, { P with sick := c5 }) := by
          rw [HX.out, PS.lay_5 HW1.out HR2.out HR3.out HR4.out HR5.out, if_pos HC5.out]
        have hSc := HSA.out.step HOA.out HDC.out.1 (fun k hk => .inl hk) HDC.out.2 HL5.out hza
        refine And.intro rfl ?_
        rw [hXX]
        exact ⟨(endOr5_no HC5.out _).symm, hSc.bad c5⟩
      subst hc5
      go_upto_region 12 with (first | (go_at_call 52; refine HFL.out.mono ?_; rintro e wc ⟨rfl, hdc, hmc⟩; have HDC := hid (And.intro hdc hmc); clear hdc hmc) | (go_at_call 80; refine (fail_ok _).mono ?_; rintro e wd ⟨rfl, rfl⟩))
      have HSC := hid (HSA.out.step HOA.out HDC.out.1 (fun k hk => .inl hk) HDC.out.2 HL5.out hza)
      have hzc : bz ≤ wc.heap.size := Nat.le_trans hza HDC.out.2.size
      clear HSA HDC hza c0 cp HOA HFL
      have hLAY : PS.lay D A0 hf b = (0, D5) := PS.lay_5 HW1.out HR2.out HR3.out HR4.out HR5.out
      have HX5 := hid (show X = _ from by rw [HX.out, hLAY, if_neg (by simp)])
      clear hLAY HX HW1 HR2 HR3 HR4 HR5 HN2 HN3 HNJ HL2 HL3 HL4
      obtain ⟨owc, hdc, hoc⟩ := HSC.out.drum
      have hop := open_any wc.drew p owc D5 ((A0 + K : Nat) : Int) ((A0 + Q : Nat) : Int) (hdc.below (Ext.drew wc)) (by omega) (by omega)
      have hpp := ppages_any wc.drew p owc D5 (hdc.below (Ext.drew wc)) (by have := HL5.out; omega)
      rw [show D5.safe.length = D.safe.length from HL5.out] at hop hpp
      rw [← HQE.out] at hpp
      obtain ⟨y, hy⟩ : ∃ y, y = TS.opn D5 ((A0 + K : Nat) : Int) ((A0 + Q : Nat) : Int) := ⟨_, rfl⟩
      have HX6 := hid HX5.out
      simp only [← hy] at HX6
      rw [← hy] at hop
      rw [Int.toNat_natCast, Int.toNat_natCast] at hop
      obtain ⟨lo, hlo⟩ : ∃ lo, lo = A0 + K := ⟨_, rfl⟩
      obtain ⟨hi, hhi⟩ : ∃ hi, hi = A0 + Q := ⟨_, rfl⟩
      rw [← hlo, ← hhi] at hop HX6
      have el : (lo : Int) = (A0 : Int) + (K : Int) := by omega
      have eh : (hi : Int) = (A0 : Int) + (Q : Int) := by omega
      rw [el, eh] at hop
      have w30 : IntKind.i64.wrap ((A0 : Int) + (K : Int)) = (A0 : Int) + (K : Int) := IntWalk.i64_in _ (by omega)
      have w31 : IntKind.i64.wrap ((A0 : Int) + (Q : Int)) = (A0 : Int) + (Q : Int) := IntWalk.i64_in _ (by omega)
      have HOP := hid hop
      have HPP := hid hpp
      have HOC := hid hoc
      have HDC := hid hdc
      clear hop hpp hy hlo hhi el eh hdc hoc HX5
      have k0 : ∀ w', Ext wc.drew w' → w'.cell? ⟨z, 0, none⟩ = some (.pointer (some ⟨q, 0, none⟩)) := fun w' hh => (HSC.out.on (Ext.trans _ _ _ (Ext.drew wc) hh)).sin.c0
      have ka : ∀ w', Ext wc.drew w' → w'.cell? ⟨ba, 0, none⟩ = some (I A0) := fun w' hh => (HSC.out.on (Ext.trans _ _ _ (Ext.drew wc) hh)).sin.ca
      have kn : ∀ w', Ext wc.drew w' → w'.cell? ⟨bn, 0, none⟩ = some (I K) := fun w' hh => (HSC.out.on (Ext.trans _ _ _ (Ext.drew wc) hh)).sin.cn
      have kp : ∀ w', Ext wc.drew w' → w'.cell? ⟨q, 0, none⟩ = some (.pointer (some ⟨p, 0, none⟩)) := fun w' hh => (HSC.out.on (Ext.trans _ _ _ (Ext.drew wc) hh)).pair.c0
      have HBD := hid (HSC.out.on (Ext.drew wc))
      by_cases hy0 : y.1 = 0
      rotate_left
      · have hcl : Calls Try.prog 65 #[.pointer (some ⟨p, 0, none⟩), I ((A0 : Int) + (K : Int)), I ((A0 : Int) + (Q : Int))] wc.drew fun e w' => e = .returned (.tuple #[.pointer none, .slice none 0 0, I y.1]) ∧ Below wc.drew.heap.size wc.drew w' := HOP.out.mono fun e w' h => by
          rcases h with h | h
          · exact h.2
          · exact absurd h.1 hy0
        have HXX := hid (show X = (y.1, D5, { P with sick := y.1 }) from by rw [HX6.out, if_pos hy0])
        have HCL := hid hcl
        have hne : (y.1 != 0) = true := by simpa using hy0
        clear hcl HOP
        refine wp_region_order Ext [] [(0,0),(1,0),(2,0),(3,0),(4,0),(5,0),(6,0),(7,0),(8,0),(9,0),(10,0),(11,0),(12,1),(13,0),(14,1),(15,0),(16,0),(17,0),(18,0),(19,0),(20,0),(21,0)] _ (by kernel_rfl) rfl Ext.refl Ext.trans (by kernel_rfl) (by simp only [pick, List.getElem?_toArray, List.getElem?_cons_zero, List.getElem?_cons_succ]; rfl) (fun c a d v w h => by cases d <;> exact h) ?_
        refine wpK_q (v := ?_) (a' := ?_) (by rfl) (fun w' hR => ?_) ?_ ?_
        rotate_left 2
        · go_simp; with_reducible rfl
        · simp only [Act.put, List.setIfInBounds_toArray, List.set_cons_zero, List.set_cons_succ]; rfl
        refine wpK_q (v := ?_) (a' := ?_) (by rfl) (fun w' hR => ?_) ?_ ?_
        rotate_left 2
        · go_simp; with_reducible rfl
        · simp only [Act.put, List.setIfInBounds_toArray, List.set_cons_zero, List.set_cons_succ]; rfl
        refine wpK_q (v := ?_) (a' := ?_) (by rfl) (fun w' hR => ?_) ?_ ?_
        rotate_left 2
        · go_simp; with_reducible rfl
        · simp only [Act.put, List.setIfInBounds_toArray, List.set_cons_zero, List.set_cons_succ]; rfl
        refine wpK_q (v := ?_) (a' := ?_) (by rfl) (fun w' hR => ?_) ?_ ?_
        rotate_left 2
        · go_simp; with_reducible rfl
        · simp only [Act.put, List.setIfInBounds_toArray, List.set_cons_zero, List.set_cons_succ]; rfl
        refine wpK_q (v := ?_) (a' := ?_) (by rfl) (fun w' hR => ?_) ?_ ?_
        rotate_left 2
        · go_simp; with_reducible rfl
        · simp only [Act.put, List.setIfInBounds_toArray, List.set_cons_zero, List.set_cons_succ]; rfl
        refine wpK_q (v := ?_) (a' := ?_) (by rfl) (fun w' hR => ?_) ?_ ?_
        rotate_left 2
        · go_simp; with_reducible rfl
        · simp only [Act.put, List.setIfInBounds_toArray, List.set_cons_zero, List.set_cons_succ]; rfl
        refine wpK_q (v := ?_) (a' := ?_) (by rfl) (fun w' hR => ?_) ?_ ?_
        rotate_left 2
        · go_simp; with_reducible rfl
        · simp only [Act.put, List.setIfInBounds_toArray, List.set_cons_zero, List.set_cons_succ]; rfl
        refine wpK_q (v := ?_) (a' := ?_) (by rfl) (fun w' hR => ?_) ?_ ?_
        rotate_left 2
        · go_simp; with_reducible rfl
        · simp only [Act.put, List.setIfInBounds_toArray, List.set_cons_zero, List.set_cons_succ]; rfl
        refine wpK_q (v := ?_) (a' := ?_) (by rfl) (fun w' hR => ?_) ?_ ?_
        rotate_left 2
        · go_simp; with_reducible rfl
        · simp only [Act.put, List.setIfInBounds_toArray, List.set_cons_zero, List.set_cons_succ]; rfl
        refine wpK_q (v := ?_) (a' := ?_) (by rfl) (fun w' hR => ?_) ?_ ?_
        rotate_left 2
        · go_simp; with_reducible rfl
        · simp only [Act.put, List.setIfInBounds_toArray, List.set_cons_zero, List.set_cons_succ]; rfl
        refine wpK_q (v := ?_) (a' := ?_) (by rfl) (fun w' hR => ?_) ?_ ?_
        rotate_left 2
        · go_simp; with_reducible rfl
        · simp only [Act.put, List.setIfInBounds_toArray, List.set_cons_zero, List.set_cons_succ]; rfl
        refine wpK_q (v := ?_) (a' := ?_) (by rfl) (fun w' hR => ?_) ?_ ?_
        rotate_left 2
        · go_simp; with_reducible rfl
        · simp only [Act.put, List.setIfInBounds_toArray, List.set_cons_zero, List.set_cons_succ]; rfl
        refine wpK_call Try.func83 (by kernel_rfl) rfl rfl (by rfl) #[.pointer (some ⟨p, 0, none⟩)] (by simp only [List.map_toArray, List.map_cons, List.map_nil]; rfl) ?_
        refine HPP.out.mono ?_
        rintro e w6 ⟨rfl, rfl⟩
        refine ⟨_, rfl, fun _ => Ext.refl _, ?_⟩
        refine wpK_q (v := ?_) (a' := ?_) (by rfl) (fun w' hR => ?_) ?_ ?_
        rotate_left 2
        · go_simp; with_reducible rfl
        · simp only [Act.put, List.setIfInBounds_toArray, List.set_cons_zero, List.set_cons_succ]; rfl
        refine wpK_call Try.func65 (by kernel_rfl) rfl rfl (by rfl) #[.pointer (some ⟨p, 0, none⟩), I ((A0 : Int) + (K : Int)), I ((A0 : Int) + (Q : Int))] (by simp only [List.map_toArray, List.map_cons, List.map_nil]; rfl) ?_
        refine HCL.out.mono ?_
        rintro e w6 ⟨rfl, hb6⟩
        refine ⟨_, rfl, fun _ => hb6, ?_⟩
        have HB6 := hid hb6
        clear hb6
        refine wpK_q (v := ?_) (a' := ?_) (by rfl) (fun w' hR => ?_) ?_ ?_
        rotate_left 2
        · go_simp; with_reducible rfl
        · simp only [Act.put, List.setIfInBounds_toArray, List.set_cons_zero, List.set_cons_succ]; rfl
        refine wpK_q (v := ?_) (a' := ?_) (by rfl) (fun w' hR => ?_) ?_ ?_
        rotate_left 2
        · go_simp; with_reducible rfl
        · simp only [Act.put, List.setIfInBounds_toArray, List.set_cons_zero, List.set_cons_succ]; rfl
        refine wpK_q (v := ?_) (a' := ?_) (by rfl) (fun w' hR => ?_) ?_ ?_
        rotate_left 2
        · go_simp; with_reducible rfl
        · simp only [Act.put, List.setIfInBounds_toArray, List.set_cons_zero, List.set_cons_succ]; rfl
        refine wpK_q (v := ?_) (a' := ?_) (by rfl) (fun w' hR => ?_) ?_ ?_
        rotate_left 2
        · go_simp; with_reducible rfl
        · simp only [Act.put, List.setIfInBounds_toArray, List.set_cons_zero, List.set_cons_succ]; rfl
        refine wpK_q (v := ?_) (a' := ?_) (by rfl) (fun w' hR => ?_) ?_ ?_
        rotate_left 2
        · go_simp; with_reducible rfl
        · simp only [Act.put, List.setIfInBounds_toArray, List.set_cons_zero, List.set_cons_succ]; rfl
        refine wpK_q (v := ?_) (a' := ?_) (by rfl) (fun w' hR => ?_) ?_ ?_
        rotate_left 2
        · go_simp; with_reducible rfl
        · simp only [Act.put, List.setIfInBounds_toArray, List.set_cons_zero, List.set_cons_succ]; rfl
        refine wpK_q (v := ?_) (a' := ?_) (by rfl) (fun w' hR => ?_) ?_ ?_
        rotate_left 2
        · go_simp; with_reducible rfl
        · simp only [Act.put, List.setIfInBounds_toArray, List.set_cons_zero, List.set_cons_succ]; rfl
        refine wpK_done ?_
        go_wp2_with (first | (go_at_call 80; refine (fail_no y.1 hne _).mono ?_; rintro e w7 ⟨rfl, rfl⟩))
        refine And.intro rfl ?_
        rw [HXX.out]
        exact ⟨(endOr5_no hy0 _).symm, (HBD.out.on HB6.out).bad y.1⟩
      have hcl : Calls Try.prog 65 #[.pointer (some ⟨p, 0, none⟩), I ((A0 : Int) + (K : Int)), I ((A0 : Int) + (Q : Int))] wc.drew fun e w' => ∃ t v, e = .returned (.tuple #[.pointer (some ⟨t, 0, none⟩), v, I 0]) ∧ wc.drew.heap.size ≤ t ∧ TapeIn w' t p D.safe.length ⟨lo, hi, y.2.2.1, y.2.2.2, 0⟩ ∧ Recs w' (t + 1) v y.2.1 ∧ Below wc.drew.heap.size wc.drew w' := HOP.out.mono fun e w' h => by
        rcases h with h | h
        · exact absurd hy0 h.1
        · exact h.2
      have HXX := hid (show X = _ from by rw [HX6.out, if_neg (by rw [hy0]; simp)])
      have HCL := hid hcl
      clear hcl HOP HX6 hy0
      refine wp_region_order Ext [] [(0,0),(1,0),(2,0),(3,0),(4,0),(5,0),(6,0),(7,0),(8,0),(9,0),(10,0),(11,0),(12,1),(13,0),(14,1),(15,0),(16,0),(17,0),(18,0),(19,0),(20,0),(21,0)] _ (by kernel_rfl) rfl Ext.refl Ext.trans (by kernel_rfl) (by simp only [pick, List.getElem?_toArray, List.getElem?_cons_zero, List.getElem?_cons_succ]; rfl) (fun c a d v w h => by cases d <;> exact h) ?_
      refine wpK_q (v := ?_) (a' := ?_) (by rfl) (fun w' hR => ?_) ?_ ?_
      rotate_left 2
      · go_simp; with_reducible rfl
      · simp only [Act.put, List.setIfInBounds_toArray, List.set_cons_zero, List.set_cons_succ]; rfl
      refine wpK_q (v := ?_) (a' := ?_) (by rfl) (fun w' hR => ?_) ?_ ?_
      rotate_left 2
      · go_simp; with_reducible rfl
      · simp only [Act.put, List.setIfInBounds_toArray, List.set_cons_zero, List.set_cons_succ]; rfl
      refine wpK_q (v := ?_) (a' := ?_) (by rfl) (fun w' hR => ?_) ?_ ?_
      rotate_left 2
      · go_simp; with_reducible rfl
      · simp only [Act.put, List.setIfInBounds_toArray, List.set_cons_zero, List.set_cons_succ]; rfl
      refine wpK_q (v := ?_) (a' := ?_) (by rfl) (fun w' hR => ?_) ?_ ?_
      rotate_left 2
      · go_simp; with_reducible rfl
      · simp only [Act.put, List.setIfInBounds_toArray, List.set_cons_zero, List.set_cons_succ]; rfl
      refine wpK_q (v := ?_) (a' := ?_) (by rfl) (fun w' hR => ?_) ?_ ?_
      rotate_left 2
      · go_simp; with_reducible rfl
      · simp only [Act.put, List.setIfInBounds_toArray, List.set_cons_zero, List.set_cons_succ]; rfl
      refine wpK_q (v := ?_) (a' := ?_) (by rfl) (fun w' hR => ?_) ?_ ?_
      rotate_left 2
      · go_simp; with_reducible rfl
      · simp only [Act.put, List.setIfInBounds_toArray, List.set_cons_zero, List.set_cons_succ]; rfl
      refine wpK_q (v := ?_) (a' := ?_) (by rfl) (fun w' hR => ?_) ?_ ?_
      rotate_left 2
      · go_simp; with_reducible rfl
      · simp only [Act.put, List.setIfInBounds_toArray, List.set_cons_zero, List.set_cons_succ]; rfl
      refine wpK_q (v := ?_) (a' := ?_) (by rfl) (fun w' hR => ?_) ?_ ?_
      rotate_left 2
      · go_simp; with_reducible rfl
      · simp only [Act.put, List.setIfInBounds_toArray, List.set_cons_zero, List.set_cons_succ]; rfl
      refine wpK_q (v := ?_) (a' := ?_) (by rfl) (fun w' hR => ?_) ?_ ?_
      rotate_left 2
      · go_simp; with_reducible rfl
      · simp only [Act.put, List.setIfInBounds_toArray, List.set_cons_zero, List.set_cons_succ]; rfl
      refine wpK_q (v := ?_) (a' := ?_) (by rfl) (fun w' hR => ?_) ?_ ?_
      rotate_left 2
      · go_simp; with_reducible rfl
      · simp only [Act.put, List.setIfInBounds_toArray, List.set_cons_zero, List.set_cons_succ]; rfl
      refine wpK_q (v := ?_) (a' := ?_) (by rfl) (fun w' hR => ?_) ?_ ?_
      rotate_left 2
      · go_simp; with_reducible rfl
      · simp only [Act.put, List.setIfInBounds_toArray, List.set_cons_zero, List.set_cons_succ]; rfl
      refine wpK_q (v := ?_) (a' := ?_) (by rfl) (fun w' hR => ?_) ?_ ?_
      rotate_left 2
      · go_simp; with_reducible rfl
      · simp only [Act.put, List.setIfInBounds_toArray, List.set_cons_zero, List.set_cons_succ]; rfl
      refine wpK_call Try.func83 (by kernel_rfl) rfl rfl (by rfl) #[.pointer (some ⟨p, 0, none⟩)] (by simp only [List.map_toArray, List.map_cons, List.map_nil]; rfl) ?_
      refine HPP.out.mono ?_
      rintro e w6 ⟨rfl, rfl⟩
      refine ⟨_, rfl, fun _ => Ext.refl _, ?_⟩
      refine wpK_q (v := ?_) (a' := ?_) (by rfl) (fun w' hR => ?_) ?_ ?_
      rotate_left 2
      · go_simp; with_reducible rfl
      · simp only [Act.put, List.setIfInBounds_toArray, List.set_cons_zero, List.set_cons_succ]; rfl
      refine wpK_call Try.func65 (by kernel_rfl) rfl rfl (by rfl) #[.pointer (some ⟨p, 0, none⟩), I ((A0 : Int) + (K : Int)), I ((A0 : Int) + (Q : Int))] (by simp only [List.map_toArray, List.map_cons, List.map_nil]; rfl) ?_
      refine HCL.out.mono ?_
      rintro e w6 ⟨t', v, rfl, ht6, htp6, hrc6, hb6⟩
      refine ⟨_, rfl, fun _ => hb6, ?_⟩
      have HB6 := hid (HBD.out.on hb6)
      have HD6 := hid (HDC.out.below (Ext.trans _ _ _ (Ext.drew wc) hb6))
      have HTP := hid htp6
      have hzt : wc.heap.size ≤ t' := ht6
      obtain ⟨avl, cvl, hvl⟩ : ∃ ao cap, v = .slice ao y.2.1.length cap := by obtain ⟨ao, cap, h, -⟩ := hrc6.shows.len; exact ⟨ao, cap, h⟩
      subst hvl
      clear hrc6 htp6 ht6 hb6
      refine wpK_q (v := ?_) (a' := ?_) (by rfl) (fun w' hR => ?_) ?_ ?_
      rotate_left 2
      · go_simp; with_reducible rfl
      · simp only [Act.put, List.setIfInBounds_toArray, List.set_cons_zero, List.set_cons_succ]; rfl
      refine wpK_q (v := ?_) (a' := ?_) (by rfl) (fun w' hR => ?_) ?_ ?_
      rotate_left 2
      · go_simp; with_reducible rfl
      · simp only [Act.put, List.setIfInBounds_toArray, List.set_cons_zero, List.set_cons_succ]; rfl
      refine wpK_q (v := ?_) (a' := ?_) (by rfl) (fun w' hR => ?_) ?_ ?_
      rotate_left 2
      · go_simp; with_reducible rfl
      · simp only [Act.put, List.setIfInBounds_toArray, List.set_cons_zero, List.set_cons_succ]; rfl
      refine wpK_q (v := ?_) (a' := ?_) (by rfl) (fun w' hR => ?_) ?_ ?_
      rotate_left 2
      · go_simp; with_reducible rfl
      · simp only [Act.put, List.setIfInBounds_toArray, List.set_cons_zero, List.set_cons_succ]; rfl
      refine wpK_q (v := ?_) (a' := ?_) (by rfl) (fun w' hR => ?_) ?_ ?_
      rotate_left 2
      · go_simp; with_reducible rfl
      · simp only [Act.put, List.setIfInBounds_toArray, List.set_cons_zero, List.set_cons_succ]; rfl
      refine wpK_q (v := ?_) (a' := ?_) (by rfl) (fun w' hR => ?_) ?_ ?_
      rotate_left 2
      · go_simp; with_reducible rfl
      · simp only [Act.put, List.setIfInBounds_toArray, List.set_cons_zero, List.set_cons_succ]; rfl
      refine wpK_q (v := ?_) (a' := ?_) (by rfl) (fun w' hR => ?_) ?_ ?_
      rotate_left 2
      · go_simp; with_reducible rfl
      · simp only [Act.put, List.setIfInBounds_toArray, List.set_cons_zero, List.set_cons_succ]; rfl
      refine wpK_done ?_
      clear k0 ka kn kp
      have c0 := HB6.out.sin.c0
      have c2 := HB6.out.sin.c2
      have cp1 := HB6.out.pair.c1
      have cp2 := HB6.out.pair.c2
      have fp1 := frozen_row HB6.out.pair.hq 1
      have fp2 := frozen_row HB6.out.pair.hq 2
      have hqz : z ≠ q := by omega
      have hqz2 : z + 2 ≠ q := by omega
      go_wp2_with (first | (go_at_call 80; refine (fail_ok _).mono ?_; rintro e w7 ⟨rfl, rfl⟩))
      have hm9 : Mod (fun k => k = q) w6 ((w6.setCell ⟨q, 1, none⟩ (.pointer (some ⟨t', 0, none⟩))).setCell ⟨q, 2, none⟩ (.int .i64 (hf : Int))) := (Mod.set (own := fun k => k = q) rfl).trans (Mod.set rfl)
      have hc9 : ((w6.setCell ⟨q, 1, none⟩ (.pointer (some ⟨t', 0, none⟩))).setCell ⟨q, 2, none⟩ (.int .i64 (hf : Int))).heap[q]? = some (.cells #[.pointer (some ⟨p, 0, none⟩), .pointer (some ⟨t', 0, none⟩), I hf, I P.sick] 114 (0, 0)) := heap_setCell_same _ q 2 _ _ _ (heap_setCell_same w6 q 1 _ _ _ HB6.out.pair.hq)
      generalize (w6.setCell ⟨q, 1, none⟩ (.pointer (some ⟨t', 0, none⟩))).setCell ⟨q, 2, none⟩ (.int .i64 (hf : Int)) = w9' at *
      ((try simp only [Exit.inBlock, Exit.then]); first | refine bodyPost_end (results_none rfl _ _ _) rfl ?_ | refine bodyPost_ret (results_none rfl _ _ _) rfl ?_)
      rw [HXX.out]
      have hsz := HSC.out.size
      have hbl := HSC.out.bl
      have hp0 := HB6.out.pair
      have hnoq : ¬ owc q := fun h => by
        rcases HOC.out q h with h3 | h3
        · exact HNQ.out h3
        · omega
      refine ⟨rfl, t', owc, .inr (by have := HSC.out.mod.size; omega), ⟨hc9, HTP.out.keep (hm9.block t' HTP.out.lt (by omega)), hh1, hp0.sick, by omega, hp0.n5⟩, HD6.out.mod hm9 (fun k hk e => by subst e; exact hnoq hk), fun j hj => (HOC.out j hj).imp id (Nat.le_trans hbl), fun h => ?_, (HB6.out.mod.mono (fun i _ hi => .inl hi)).trans (hm9.mono (fun i _ hi => .inr hi))⟩
      have := HDC.out.lt t' h
      omega
end Go.Proofs.Ytoaeapnkefjpaaa

namespace Go.Proofs.Ytoaeapnkefjpaaa
open Go.RowKit
set_option linter.unusedVariables false
set_option linter.unusedSimpArgs false

/-- A tree of orders. -/
inductive OT where
  | leaf (π : List (Nat × Nat))
  | one (i : Nat × Nat) (ti : OT)
  | two (i : Nat × Nat) (ti : OT) (j : Nat × Nat) (tj : OT)
  | three (i : Nat × Nat) (ti : OT) (j : Nat × Nat) (tj : OT) (k : Nat × Nat) (tk : OT)
section
variable {P : Program} {ops : Array Oper} {Q : Exit → Act → World → Prop} {md : Region.Mode} {R : World → World → Prop} {ds : List Nat}
def OT.size : OT → Nat
  | .leaf π => π.length
  | .one _ ti => ti.size + 1
  | .two _ ti _ _ => ti.size + 1
  | .three _ ti _ _ _ _ => ti.size + 1
def flagB (ds : List Nat) (i : Nat × Nat) : Bool := if i.2 = 0 then !ds.contains i.1 else ds.contains i.1
def OT.ok (md : Region.Mode) (ops : Array Oper) (ds : List Nat) : OT → Array Bool → Bool
  | .leaf π, l => fitsB md ops ds π l
  | .one i ti, l => (Region.ready md ops l == [i.1]) && flagB ds i && ti.ok md ops ds (l.setIfInBounds i.1 true)
  | .two i ti j tj, l => (Region.ready md ops l == [i.1, j.1]) && flagB ds i && flagB ds j && ti.ok md ops ds (l.setIfInBounds i.1 true) && tj.ok md ops ds (l.setIfInBounds j.1 true) && ti.size == tj.size
  | .three i ti j tj k tk, l => (Region.ready md ops l == [i.1, j.1, k.1]) && flagB ds i && flagB ds j && flagB ds k && ti.ok md ops ds (l.setIfInBounds i.1 true) && tj.ok md ops ds (l.setIfInBounds j.1 true) && tk.ok md ops ds (l.setIfInBounds k.1 true) && ti.size == tj.size && ti.size == tk.size
/-- One step, with what is asked behind it. -/
def stepK (P : Program) (ops : Array Oper) (Q : Exit → Act → World → Prop) (R : World → World → Prop) (i : Nat × Nat) (C : Act → World → Prop) (a : Act) (w : World) : Prop :=
  ∃ oi, ops[i.1]? = some oi ∧ if Region.wanted oi (yielded ops a.tmps) = true then oi.wp P a w (fun a' w' => (i.2 = 0 → R w w') ∧ C a' w') Q else C (a.put oi.dst undef) w
def OT.wp (P : Program) (ops : Array Oper) (Q : Exit → Act → World → Prop) (R : World → World → Prop) : OT → Act → World → Prop
  | .leaf π, a, w => wpK P ops Q R (pick ops π) a w
  | .one i ti, a, w => stepK P ops Q R i (ti.wp P ops Q R) a w
  | .two i ti j tj, a, w => stepK P ops Q R i (ti.wp P ops Q R) a w ∧ stepK P ops Q R j (tj.wp P ops Q R) a w
  | .three i ti j tj k tk, a, w => stepK P ops Q R i (ti.wp P ops Q R) a w ∧ stepK P ops Q R j (tj.wp P ops Q R) a w ∧ stepK P ops Q R k (tk.wp P ops Q R) a w
theorem wpOp_of_step (hrefl : ∀ w, R w w) {i : Nat × Nat} {C : Act → World → Prop} {n : Nat} {l : Array Bool} {a : Act} {w : World} (hk0 : flagB ds i = true) (hC : ∀ a w, C a w → wpC P md ops Q R ds n (l.setIfInBounds i.1 true) a w) (h : stepK P ops Q R i C a w) :
    wpOp P ops Q i.1 (fun a' w' => (i.1 ∉ ds → R w w') ∧ wpC P md ops Q R ds n (l.setIfInBounds i.1 true) a' w') a w := by
  obtain ⟨oi, hoi, h⟩ := h
  unfold wpOp
  simp only [hoi]
  by_cases hw : Region.wanted oi (yielded ops a.tmps) = true
  · rw [if_pos hw] at h ⊢
    refine .inl (Oper.wp_mono (fun a' w' hh => ⟨fun hnd => hh.1 ?_, hC _ _ hh.2⟩) h)
    by_cases hk : i.2 = 0
    · exact hk
    · unfold flagB at hk0
      rw [if_neg hk] at hk0
      exact absurd (by simpa using hk0) hnd
  · rw [if_neg hw] at h ⊢
    exact ⟨fun _ => hrefl w, hC _ _ h⟩
theorem wpC_of_tree (hrefl : ∀ w, R w w) (htr : ∀ w w' w'', R w w' → R w' w'' → R w w'') (hsel : Region.noSelect ops = true) (hQ : ∀ c a d v w, Q (.panic c) (Act.put a d v) w → Q (.panic c) a w) :
    ∀ (t : OT) (l : Array Bool) (a : Act) (w : World), t.ok md ops ds l = true → t.wp P ops Q R a w → wpC P md ops Q R ds t.size l a w
  | .leaf π, l, a, w, hf, h => wpC_of_wpK hrefl htr hsel hQ π l a w hf h
  | .one i ti, l, a, w, hf, h => by
    simp only [OT.ok, Bool.and_eq_true, beq_iff_eq] at hf
    obtain ⟨⟨f1, f2⟩, f3⟩ := hf
    refine ⟨fun h0 => (by rw [f1] at h0; cases h0), fun q hq => ?_⟩
    rw [f1] at hq
    obtain rfl := List.mem_singleton.1 hq
    exact wpOp_of_step hrefl f2 (fun a w hh => wpC_of_tree hrefl htr hsel hQ ti _ a w f3 hh) h
  | .two i ti j tj, l, a, w, hf, h => by
    simp only [OT.ok, Bool.and_eq_true, beq_iff_eq] at hf
    obtain ⟨⟨⟨⟨⟨f1, f2⟩, f3⟩, f4⟩, f5⟩, f6⟩ := hf
    refine ⟨fun h0 => (by rw [f1] at h0; cases h0), fun q hq => ?_⟩
    rw [f1] at hq
    have hq2 : q = i.1 ∨ q = j.1 := by simpa using hq
    clear hq
    rcases hq2 with e | e
    · rw [e]; exact wpOp_of_step hrefl f2 (fun a w hh => wpC_of_tree hrefl htr hsel hQ ti _ a w f4 hh) h.1
    · rw [e]; exact wpOp_of_step hrefl f3 (fun a w hh => by rw [f6]; exact wpC_of_tree hrefl htr hsel hQ tj _ a w f5 hh) h.2
  | .three i ti j tj k tk, l, a, w, hf, h => by
    simp only [OT.ok, Bool.and_eq_true, beq_iff_eq] at hf
    obtain ⟨⟨⟨⟨⟨⟨⟨⟨f1, f2⟩, f3⟩, f4⟩, f5⟩, f6⟩, f7⟩, f8⟩, f9⟩ := hf
    refine ⟨fun h0 => (by rw [f1] at h0; cases h0), fun q hq => ?_⟩
    rw [f1] at hq
    have hq2 : q = i.1 ∨ q = j.1 ∨ q = k.1 := by simpa using hq
    clear hq
    rcases hq2 with e | e | e
    · rw [e]; exact wpOp_of_step hrefl f2 (fun a w hh => wpC_of_tree hrefl htr hsel hQ ti _ a w f5 hh) h.1
    · rw [e]; exact wpOp_of_step hrefl f3 (fun a w hh => by rw [f8]; exact wpC_of_tree hrefl htr hsel hQ tj _ a w f6 hh) h.2.1
    · rw [e]; exact wpOp_of_step hrefl f4 (fun a w hh => by rw [f9]; exact wpC_of_tree hrefl htr hsel hQ tk _ a w f7 hh) h.2.2
/-- A region: reads by one order, then a tree of orders. -/
theorem wp_region_tree {id : Nat} {a : Act} {w : World} (R : World → World → Prop) (ds : List Nat) (π : List (Nat × Nat)) (t : OT) (l : List (Oper × Nat)) (hm : P.follows .mixedOrders = true) (hrefl : ∀ w, R w w) (htr : ∀ w w' w'', R w w' → R w' w'' → R w w'')
    (hc : (Region.noSelect ops && readsB .any ops ds π (Array.replicate ops.size false) && t.ok .any ops ds (listedBy π (Array.replicate ops.size false)) && (π.length + t.size == ops.size)) = true) (hl : pick ops π = l)
    (hQ : ∀ c a d v w, Q (.panic c) (Act.put a d v) w → Q (.panic c) a w)
    (h : wpK P ops (thenQ Q fun a' w' => t.wp P ops Q R a' w') R l a w.drew) : (Code.region id ops true).wp P Q a w := by
  subst hl
  simp only [Bool.and_eq_true, beq_iff_eq] at hc
  obtain ⟨⟨⟨hsel, f1⟩, f2⟩, f3⟩ := hc
  refine wp_region_any hm (wpAny_of_wpC (R := R) (ds := ds) _ _ _ _ ?_)
  have e8 := wpC_of_reads (md := .any) (ops := ops) (Q := Q) (R := R) (ds := ds) hrefl htr hsel hQ _ t.size π _ a _ f1 (fun a' w' hh => wpC_of_tree hrefl htr hsel hQ t _ a' w' f2 hh) h
  rw [f3] at e8
  exact e8
theorem stepK_call {i : Nat × Nat} {C : Act → World → Prop} {o : Oper} {a : Act} {w : World} {f : FuncId} {fn : Func} (ho : ops[i.1]? = some o) (hf : P.funcs[f]? = some fn) (hname : (fn.name == "runtime.NumGoroutine") = false) (hb : fn.body.isSome = true) {xs : Array Operand} {ts : Array TypeId} (hop : o.op = .call { callee := .value (.func f), args := xs, argTypes := ts })
    (hw : Region.wanted o (yielded ops a.tmps) = true) (args : Array Value) (hargs : xs.map a.eval = args)
    (h : Calls P f args w fun e w' => ∃ v, e = .returned v ∧ (i.2 = 0 → R w w') ∧ C (a.put o.dst v) w') : stepK P ops Q R i C a w := by
  refine ⟨o, ho, ?_⟩
  rw [if_pos hw]
  have he := enters hf hname hb args w
  have hrun : (execOp a.eval o).run P w = .ok (.enter f args) w := by
    unfold execOp
    simp [hop, resolve, Deferred.ofValue, invoke, Act.eval, hargs, he]
  unfold Oper.wp
  rw [hrun, Oper.upon_enter]
  refine h.mono fun e w'' hh => ?_
  obtain ⟨v, rfl, hk⟩ := hh
  exact hk
theorem stepK_v {i : Nat × Nat} {C : Act → World → Prop} {o : Oper} {a a' : Act} {w w' : World} {v : Value} (ho : ops[i.1]? = some o) (hw : Region.wanted o (yielded ops a.tmps) = true) (hrun : (execOp a.eval o).run P w = .ok (.value v) w') (hR : i.2 = 0 → R w w') (ha : a.put o.dst v = a')
    (h : C a' w') : stepK P ops Q R i C a w := by
  subst ha
  refine ⟨o, ho, ?_⟩
  rw [if_pos hw]
  unfold Oper.wp
  rw [hrun]
  exact ⟨hR, h⟩
end
end Go.Proofs.Ytoaeapnkefjpaaa

namespace Go.Proofs.Ytoaeapnkefjpaaa
open Go.RowKit
set_option linter.unusedVariables false
set_option linter.unusedSimpArgs false

theorem psave_nil (w : World) (ao : Option Addr) (n cap : Nat) : Calls Try.prog 42 #[.pointer none, .slice ao n cap] w fun e w' => e = .returned (I 2) ∧ Below w.heap.size w w' := by
  go_enter Try.func42, Try.ntmps42
  go_wp2
  go_ret
  exact ⟨rfl, ((Below.refl _ _).alloc (Nat.le_refl _) _).alloc (by simp) _⟩
set_option maxRecDepth 100000 in
/-- Through Save's door. -/
theorem psave_door (z : Nat) (W : World) (q t p : Nat) (own0 : Nat → Prop) (P : PS) (vb : Value) (b : List UInt8) (ba bn : Nat) (D : DS) (X : Int × DS × PS)
    (hs : SIn z q vb (1 - P.half) (1 + (1 - P.half) * PS.hp D.safe.length) (PS.takes b.length) ba bn W) (hp : PairIn W q t p D.safe.length P) (hd : DrumAt W p own0 D) (hlt : ∀ j, own0 j → j < z) (hq : q < z) (ht : t < z) (hnq : ¬ own0 q) (hnt : ¬ own0 t) (hz : z + 5 ≤ W.heap.size)
    (hv : Sees W vb b) (hK : PS.takes b.length < PS.hp D.safe.length) (hP0 : P.sick = 0) (hX : X = PS.save D P b) (hN : D.waits.length ≤ 700000000) :
    Calls Try.prog 77 #[.func (.func 88) #[] #[.pointer (some ⟨z + 1, 0, none⟩), .pointer (some ⟨bn, 0, none⟩), .pointer (some ⟨z, 0, none⟩), .pointer (some ⟨ba, 0, none⟩), .pointer (some ⟨z + 2, 0, none⟩)]] W fun e w' =>
      e = .returned (I X.1) ∧ ∃ W1 w1, Below W.heap.size W W1 ∧ SEnd z W1 q t p D.safe.length own0 P X w1 ∧ W1.heap.size = W.heap.size + 1 ∧ Mod (fun k => k = W.heap.size) w1 w' := by
  refine (guard_any W 88 _ (fun c w1 => c = X.1 ∧ ∃ W1, Below W.heap.size W W1 ∧ SEnd z W1 q t p D.safe.length own0 P X w1 ∧ W1.heap.size = W.heap.size + 1) (fun _ => rfl) (fun w1 hb hz1 => ?_)).mono ?_
  · refine (psave_in z w1 q t p own0 P vb b ba bn D X (hs.keep (fun j _ hj => hb.block j (by omega))) (hp.below hb) (hd.below hb) hlt hq ht hnq hnt (by omega) (hv.below hb) hK hP0 hX hN).mono fun e w' h => ?_
    refine ⟨X.1, h.1, ⟨rfl, w1, hb, h.2, hz1⟩, ?_⟩
    obtain ⟨t', own', h1, h2, h3, h4, h5, h6⟩ := h.2
    refine h6.block _ (by omega) (fun e => ?_)
    rcases e with e | e
    · have := hlt _ e; omega
    · omega
  · rintro e w' ⟨c, w1, rfl, ⟨rfl, W1, h1, h2, h3⟩, hs2, hm⟩
    exact ⟨rfl, W1, w1, h1, h2, h3, hm⟩
set_option maxRecDepth 100000 in
/-- Save, refused ahead of its work: too long, or sick. -/
theorem psave_no (w : World) (q t p : Nat) (own : Nat → Prop) (P : PS) (D : DS) (v : Value) (b : List UInt8) (h : PairIn w q t p D.safe.length P) (hd : DrumAt w p own D) (hv : Sees w v b) (hb : b.length ≤ 1073741824) (hno : PS.hp D.safe.length ≤ PS.takes b.length ∨ P.sick ≠ 0) :
    Calls Try.prog 42 #[.pointer (some ⟨q, 0, none⟩), v] w fun e w' => e = .returned (I (PS.save D P b).1) ∧ Below w.heap.size w w' := by
  obtain ⟨ao, cap, rfl, -⟩ := hv.form0
  have hn := hd.ok.n2
  obtain ⟨W, hW⟩ : ∃ W, W = (w.alloc (.cells #[.pointer (some ⟨q, 0, none⟩)] 44)).alloc (.cells #[.slice ao b.length cap] 23) := ⟨_, rfl⟩
  have hbW : Below w.heap.size w W := by rw [hW]; exact ((Below.refl _ _).alloc (Nat.le_refl _) _).alloc (by simp) _
  have g0 : W.heap[w.heap.size]? = some (.cells #[.pointer (some ⟨q, 0, none⟩)] 44 (0, 0)) := by rw [hW]; exact (Below.heap_alloc _ _ _ (by simp)).trans (heap_alloc_new _ _)
  have g1 : W.heap[w.heap.size + 1]? = some (.cells #[.slice ao b.length cap] 23 (0, 0)) := by rw [hW]; exact heap_alloc_at (by simp)
  have hz : W.heap.size = w.heap.size + 2 := by rw [hW]; simp
  have k0 : ∀ w', Ext W.drew w' → w'.cell? ⟨w.heap.size, 0, none⟩ = some (.pointer (some ⟨q, 0, none⟩)) := fun w' hh => by rw [cell_of_row w' _ _ _ _ _ ((hh.block _ (show _ < W.heap.size by omega)).trans g0)]; rfl
  have k1 : ∀ w', Ext W.drew w' → w'.cell? ⟨w.heap.size + 1, 0, none⟩ = some (.slice ao b.length cap) := fun w' hh => by rw [cell_of_row w' _ _ _ _ _ ((hh.block _ (show _ < W.heap.size by omega)).trans g1)]; rfl
  have HPW := hid (h.below hbW)
  have kp : ∀ w', Ext W.drew w' → w'.cell? ⟨q, 0, none⟩ = some (.pointer (some ⟨p, 0, none⟩)) := fun w' hh => (HPW.out.below (Ext.trans _ _ _ (Ext.drew W) hh)).c0
  have hpp := ppages_any W.drew p own D (hd.below (hbW.trans ((Ext.drew W).mono hbW.size))) (by have := h.n5; omega)
  have htk := fun w => takes_any w b.length (by omega)
  have HPP := hid hpp
  have HTK := hid htk
  have HBW := hid hbW
  have HWW := hid hW
  have HNO := hid hno
  have H := hid h
  clear hpp htk hbW g0 g1 hv hd hno h
  go_enter Try.func42, Try.ntmps42
  go_upto_region 3 with (fail)
  rw [← HWW.out]
  clear hW
  obtain ⟨K, hK⟩ : ∃ K, K = PS.takes b.length := ⟨_, rfl⟩
  obtain ⟨Z, hZ⟩ : ∃ Z, Z = PS.hp D.safe.length := ⟨_, rfl⟩
  have hs1 : PS.save D P b = if Z ≤ K then (3, D, P) else if P.sick ≠ 0 then (P.sick, D, P) else (PS.save D P b) := by
    rw [hK, hZ]; unfold PS.save; split; rfl; split; rfl; rfl
  have HS1 := hid hs1
  rw [← hK] at HTK
  rw [← hZ] at HPP
  rw [← hK, ← hZ] at HNO
  have hZb : Z ≤ 4096 := by rw [hZ]; unfold PS.hp; omega
  have hKb : K ≤ 1073741824 := by rw [hK]; unfold PS.takes; omega
  clear hs1 hK hZ hn
  have c0 := k0 _ (Ext.refl _)
  have c3 := (HPW.out.below (Ext.drew W)).c3
  by_cases hl : Z ≤ K
  · have hl2 : (Z : Int) ≤ (K : Int) := by omega
    have HL := hid hl
    clear hl c0 c3
    refine wp_region_order Ext [] [(0,0),(1,0),(3,0),(4,0),(5,0),(6,0),(2,1),(7,1),(8,0),(9,0)] _ (by kernel_rfl) rfl Ext.refl Ext.trans (by kernel_rfl) (by simp only [pick, List.getElem?_toArray, List.getElem?_cons_zero, List.getElem?_cons_succ]; rfl) (fun c a d v w h => by cases d <;> exact h) ?_
    refine wpK_q (v := ?_) (a' := ?_) (by rfl) (fun w' hR => ?_) ?_ ?_
    rotate_left 2
    · go_simp; with_reducible rfl
    · simp only [Act.put, List.setIfInBounds_toArray, List.set_cons_zero, List.set_cons_succ]; rfl
    refine wpK_q (v := ?_) (a' := ?_) (by rfl) (fun w' hR => ?_) ?_ ?_
    rotate_left 2
    · go_simp; with_reducible rfl
    · simp only [Act.put, List.setIfInBounds_toArray, List.set_cons_zero, List.set_cons_succ]; rfl
    refine wpK_q (v := ?_) (a' := ?_) (by rfl) (fun w' hR => ?_) ?_ ?_
    rotate_left 2
    · go_simp; with_reducible rfl
    · simp only [Act.put, List.setIfInBounds_toArray, List.set_cons_zero, List.set_cons_succ]; rfl
    refine wpK_q (v := ?_) (a' := ?_) (by rfl) (fun w' hR => ?_) ?_ ?_
    rotate_left 2
    · go_simp; with_reducible rfl
    · simp only [Act.put, List.setIfInBounds_toArray, List.set_cons_zero, List.set_cons_succ]; rfl
    refine wpK_q (v := ?_) (a' := ?_) (by rfl) (fun w' hR => ?_) ?_ ?_
    rotate_left 2
    · go_simp; with_reducible rfl
    · simp only [Act.put, List.setIfInBounds_toArray, List.set_cons_zero, List.set_cons_succ]; rfl
    refine wpK_q (v := ?_) (a' := ?_) (by rfl) (fun w' hR => ?_) ?_ ?_
    rotate_left 2
    · go_simp; with_reducible rfl
    · simp only [Act.put, List.setIfInBounds_toArray, List.set_cons_zero, List.set_cons_succ]; rfl
    refine wpK_call Try.func87 (by kernel_rfl) rfl rfl (by rfl) #[I b.length] (by simp only [List.map_toArray, List.map_cons, List.map_nil]; rfl) ?_
    refine (HTK.out _).mono ?_
    rintro e w1 ⟨rfl, rfl⟩
    refine ⟨_, rfl, fun _ => Ext.refl _, ?_⟩
    refine wpK_call Try.func83 (by kernel_rfl) rfl rfl (by rfl) #[.pointer (some ⟨p, 0, none⟩)] (by simp only [List.map_toArray, List.map_cons, List.map_nil]; rfl) ?_
    refine HPP.out.mono ?_
    rintro e w1 ⟨rfl, rfl⟩
    refine ⟨_, rfl, fun _ => Ext.refl _, ?_⟩
    refine wpK_q (v := ?_) (a' := ?_) (by rfl) (fun w' hR => ?_) ?_ ?_
    rotate_left 2
    · go_simp; with_reducible rfl
    · simp only [Act.put, List.setIfInBounds_toArray, List.set_cons_zero, List.set_cons_succ]; rfl
    refine wpK_q (v := ?_) (a' := ?_) (by rfl) (fun w' hR => ?_) ?_ ?_
    rotate_left 2
    · go_simp; with_reducible rfl
    · simp only [Act.put, List.setIfInBounds_toArray, List.set_cons_zero, List.set_cons_succ]; rfl
    refine wpK_done ?_
    clear k0 k1 kp
    go_wp2
    go_ret
    rw [HS1.out, if_pos HL.out]
    exact ⟨rfl, HBW.out.trans ((Ext.drew W).mono HBW.out.size)⟩
  · have hl2 : ¬ (Z : Int) ≤ (K : Int) := by omega
    have HL := hid hl
    have hsk : P.sick ≠ 0 := by rcases HNO.out with h | h; exact absurd h hl; exact h
    have hne : (P.sick != 0) = true := by simpa using hsk
    have HSK := hid hsk
    clear hl hsk
    refine wp_region_order Ext [] [(0,0),(1,0),(3,0),(4,0),(5,0),(6,0),(2,1),(7,1),(8,0),(9,0)] _ (by kernel_rfl) rfl Ext.refl Ext.trans (by kernel_rfl) (by simp only [pick, List.getElem?_toArray, List.getElem?_cons_zero, List.getElem?_cons_succ]; rfl) (fun c a d v w h => by cases d <;> exact h) ?_
    refine wpK_q (v := ?_) (a' := ?_) (by rfl) (fun w' hR => ?_) ?_ ?_
    rotate_left 2
    · go_simp; with_reducible rfl
    · simp only [Act.put, List.setIfInBounds_toArray, List.set_cons_zero, List.set_cons_succ]; rfl
    refine wpK_q (v := ?_) (a' := ?_) (by rfl) (fun w' hR => ?_) ?_ ?_
    rotate_left 2
    · go_simp; with_reducible rfl
    · simp only [Act.put, List.setIfInBounds_toArray, List.set_cons_zero, List.set_cons_succ]; rfl
    refine wpK_q (v := ?_) (a' := ?_) (by rfl) (fun w' hR => ?_) ?_ ?_
    rotate_left 2
    · go_simp; with_reducible rfl
    · simp only [Act.put, List.setIfInBounds_toArray, List.set_cons_zero, List.set_cons_succ]; rfl
    refine wpK_q (v := ?_) (a' := ?_) (by rfl) (fun w' hR => ?_) ?_ ?_
    rotate_left 2
    · go_simp; with_reducible rfl
    · simp only [Act.put, List.setIfInBounds_toArray, List.set_cons_zero, List.set_cons_succ]; rfl
    refine wpK_q (v := ?_) (a' := ?_) (by rfl) (fun w' hR => ?_) ?_ ?_
    rotate_left 2
    · go_simp; with_reducible rfl
    · simp only [Act.put, List.setIfInBounds_toArray, List.set_cons_zero, List.set_cons_succ]; rfl
    refine wpK_q (v := ?_) (a' := ?_) (by rfl) (fun w' hR => ?_) ?_ ?_
    rotate_left 2
    · go_simp; with_reducible rfl
    · simp only [Act.put, List.setIfInBounds_toArray, List.set_cons_zero, List.set_cons_succ]; rfl
    refine wpK_call Try.func87 (by kernel_rfl) rfl rfl (by rfl) #[I b.length] (by simp only [List.map_toArray, List.map_cons, List.map_nil]; rfl) ?_
    refine (HTK.out _).mono ?_
    rintro e w1 ⟨rfl, rfl⟩
    refine ⟨_, rfl, fun _ => Ext.refl _, ?_⟩
    refine wpK_call Try.func83 (by kernel_rfl) rfl rfl (by rfl) #[.pointer (some ⟨p, 0, none⟩)] (by simp only [List.map_toArray, List.map_cons, List.map_nil]; rfl) ?_
    refine HPP.out.mono ?_
    rintro e w1 ⟨rfl, rfl⟩
    refine ⟨_, rfl, fun _ => Ext.refl _, ?_⟩
    refine wpK_q (v := ?_) (a' := ?_) (by rfl) (fun w' hR => ?_) ?_ ?_
    rotate_left 2
    · go_simp; with_reducible rfl
    · simp only [Act.put, List.setIfInBounds_toArray, List.set_cons_zero, List.set_cons_succ]; rfl
    refine wpK_q (v := ?_) (a' := ?_) (by rfl) (fun w' hR => ?_) ?_ ?_
    rotate_left 2
    · go_simp; with_reducible rfl
    · simp only [Act.put, List.setIfInBounds_toArray, List.set_cons_zero, List.set_cons_succ]; rfl
    refine wpK_done ?_
    clear k0 k1 kp
    go_wp2
    go_ret
    rw [HS1.out, if_neg HL.out, if_pos HSK.out]
    exact ⟨rfl, HBW.out.trans ((Ext.drew W).mono HBW.out.size)⟩
end Go.Proofs.Ytoaeapnkefjpaaa

namespace Go.Proofs.Ytoaeapnkefjpaaa
open Go.RowKit
set_option linter.unusedVariables false
set_option linter.unusedSimpArgs false
/-- The tree's steps, with what is asked where its leaves stand. -/
def OT.wpS (P : Program) (ops : Array Oper) (Q : Exit → Act → World → Prop) (R : World → World → Prop) (S : Act → World → Prop) : OT → Act → World → Prop
  | .leaf _, a, w => S a w
  | .one i ti, a, w => stepK P ops Q R i (ti.wpS P ops Q R S) a w
  | .two i ti j tj, a, w => stepK P ops Q R i (ti.wpS P ops Q R S) a w ∧ stepK P ops Q R j (tj.wpS P ops Q R S) a w
  | .three i ti j tj k tk, a, w => stepK P ops Q R i (ti.wpS P ops Q R S) a w ∧ stepK P ops Q R j (tj.wpS P ops Q R S) a w ∧ stepK P ops Q R k (tk.wpS P ops Q R S) a w
/-- All leaves are alike. -/
def OT.all (π : List (Nat × Nat)) : OT → Bool
  | .leaf x => x == π
  | .one _ ti => ti.all π
  | .two _ ti _ tj => ti.all π && tj.all π
  | .three _ ti _ tj _ tk => ti.all π && tj.all π && tk.all π
section
variable {P : Program} {ops : Array Oper} {Q : Exit → Act → World → Prop} {R : World → World → Prop} {S : Act → World → Prop}
theorem stepK.mono {i : Nat × Nat} {C C' : Act → World → Prop} {a : Act} {w : World} (h : ∀ a w, C a w → C' a w) (h1 : stepK P ops Q R i C a w) : stepK P ops Q R i C' a w := by
  obtain ⟨oi, ho, h1⟩ := h1
  refine ⟨oi, ho, ?_⟩
  by_cases hw : Region.wanted oi (yielded ops a.tmps) = true
  · rw [if_pos hw] at h1 ⊢
    exact Oper.wp_mono (fun a' w' hh => ⟨hh.1, h _ _ hh.2⟩) h1
  · rw [if_neg hw] at h1 ⊢
    exact h _ _ h1
theorem OT.wp_of {π : List (Nat × Nat)} (hS : ∀ a w, S a w → wpK P ops Q R (pick ops π) a w) : ∀ (t : OT) (a : Act) (w : World), t.all π = true → t.wpS P ops Q R S a w → t.wp P ops Q R a w
  | .leaf x, a, w, ha, h => by
    have e : x = π := by simpa [OT.all] using ha
    subst e
    exact hS a w h
  | .one i ti, a, w, ha, h => stepK.mono (fun a w hh => OT.wp_of hS ti a w ha hh) h
  | .two i ti j tj, a, w, ha, h => by
    simp only [OT.all, Bool.and_eq_true] at ha
    exact ⟨stepK.mono (fun a w hh => OT.wp_of hS ti a w ha.1 hh) h.1, stepK.mono (fun a w hh => OT.wp_of hS tj a w ha.2 hh) h.2⟩
  | .three i ti j tj k tk, a, w, ha, h => by
    simp only [OT.all, Bool.and_eq_true] at ha
    exact ⟨stepK.mono (fun a w hh => OT.wp_of hS ti a w ha.1.1 hh) h.1, stepK.mono (fun a w hh => OT.wp_of hS tj a w ha.1.2 hh) h.2.1, stepK.mono (fun a w hh => OT.wp_of hS tk a w ha.2 hh) h.2.2⟩
theorem OT.s_leaf {π : List (Nat × Nat)} {a : Act} {w : World} (h : S a w) : (OT.leaf π).wpS P ops Q R S a w := h
theorem OT.s_one {i : Nat × Nat} {ti : OT} {a : Act} {w : World} (h : stepK P ops Q R i (ti.wpS P ops Q R S) a w) : (OT.one i ti).wpS P ops Q R S a w := h
theorem OT.s_two {i j : Nat × Nat} {ti tj : OT} {a : Act} {w : World} (h : stepK P ops Q R i (ti.wpS P ops Q R S) a w) (h2 : stepK P ops Q R j (tj.wpS P ops Q R S) a w) : (OT.two i ti j tj).wpS P ops Q R S a w := ⟨h, h2⟩
theorem OT.s_three {i j k : Nat × Nat} {ti tj tk : OT} {a : Act} {w : World} (h : stepK P ops Q R i (ti.wpS P ops Q R S) a w) (h2 : stepK P ops Q R j (tj.wpS P ops Q R S) a w) (h3 : stepK P ops Q R k (tk.wpS P ops Q R S) a w) : (OT.three i ti j tj k tk).wpS P ops Q R S a w := ⟨h, h2, h3⟩
end
theorem exec_alloc3 {a : Act} {o : Oper} {w : World} (ho : o.op = .alloc 3) : (execOp a.eval o).run Try.prog w = .ok (.value (.pointer (some ⟨w.heap.size, 0, none⟩))) (w.alloc (.cells #[I 0] 3)) := by
  unfold execOp
  rw [ho]
  kernel_rfl
theorem Ext.alloc3 (w : World) : Ext w (w.alloc (.cells #[I 0] 3)) := (Below.refl _ _).alloc (Nat.le_refl _) _
theorem stepK_call' {P : Program} {ops : Array Oper} {Q : Exit → Act → World → Prop} {R : World → World → Prop} {i : Nat × Nat} {C : Act → World → Prop} {o : Oper} {a a' : Act} {w : World} {v : Value} {f : FuncId} {fn : Func} (ho : ops[i.1]? = some o) (hf : P.funcs[f]? = some fn) (hname : (fn.name == "runtime.NumGoroutine") = false) (hb : fn.body.isSome = true) {xs : Array Operand} {ts : Array TypeId} (hop : o.op = .call { callee := .value (.func f), args := xs, argTypes := ts })
    (hw : Region.wanted o (yielded ops a.tmps) = true) (args : Array Value) (hargs : xs.map a.eval = args) (ha : a.put o.dst v = a')
    (h : Calls P f args w fun e w' => e = .returned v ∧ w = w') (hR : i.2 = 0 → R w w) (hC : C a' w) : stepK P ops Q R i C a w := by
  refine stepK_call ho hf hname hb hop hw args hargs (h.mono ?_)
  rintro e w' ⟨rfl, rfl⟩
  exact ⟨v, rfl, hR, by rw [ha]; exact hC⟩
/-- The orders of Save's eighth region, behind its reads. -/
def sLeaf : OT := .leaf [(11, 2), (12, 2)]
def saveOrders : OT :=
  .three (5, 0) (.three (8, 0) (.two (9, 0) (.one (10, 0) sLeaf) (10, 0) (.one (9, 0) sLeaf)) (9, 0) (.two (8, 0) (.one (10, 0) sLeaf) (10, 0) (.one (8, 0) sLeaf)) (10, 0) (.two (8, 0) (.one (9, 0) sLeaf) (9, 0) (.one (8, 0) sLeaf)))
    (9, 0) (.two (5, 0) (.two (8, 0) (.one (10, 0) sLeaf) (10, 0) (.one (8, 0) sLeaf)) (10, 0) (.one (5, 0) (.one (8, 0) sLeaf)))
    (10, 0) (.two (5, 0) (.two (8, 0) (.one (9, 0) sLeaf) (9, 0) (.one (8, 0) sLeaf)) (9, 0) (.one (5, 0) (.one (8, 0) sLeaf)))
theorem TS.found_bd {S : List UInt8} {a c : Nat} {e : Int} (h : TS.found S a c = .bad e) : e = 11 ∨ e = 12 := by
  unfold TS.found at h
  split at h
  · cases h
  · split at h
    · cases h
    · split at h
      · split at h
        · cases h
        · cases h; exact .inr rfl
      · cases h; exact .inl rfl
theorem TS.opened_bd : ∀ (k : Nat) (S : List UInt8) (a c : Nat) (acc : List (List UInt8)), (TS.opened S k a c acc).1 = 0 ∨ (TS.opened S k a c acc).1 = 11 ∨ (TS.opened S k a c acc).1 = 12
  | 0, S, a, c, acc => .inl rfl
  | k + 1, S, a, c, acc => by
    rw [TS.opened]
    split
    · exact .inl rfl
    · rename_i e h
      exact .inr (TS.found_bd h)
    · exact TS.opened_bd k S _ _ _
theorem TS.opn_bd (D : DS) (lo hi : Int) : 0 ≤ (TS.opn D lo hi).1 ∧ (TS.opn D lo hi).1 ≤ 20 := by
  unfold TS.opn
  split
  · simp only; omega
  · split
    · simp only; omega
    · have := TS.opened_bd ((hi.toNat - lo.toNat) * 256 + 1) (TS.stretch D lo.toNat (hi.toNat - lo.toNat)) 0 0 []
      omega
theorem PS.lay_code (D : DS) (a h : Nat) (b : List UInt8) : Code1 (PS.lay D a h b).1 := by
  unfold PS.lay
  simp only
  split
  · exact TS.wr_code _ _ _
  · split
    · exact DS.write_code _ _ _
    · split
      · exact DS.Flush_code _
      · split
        · exact DS.write_code _ _ _
        · exact DS.Flush_code _
/-- What a save leaves as its sickness. -/
theorem PS.save_sick {D : DS} {P : PS} {b : List UInt8} (h1 : PS.takes b.length < PS.hp D.safe.length) (h2 : P.sick = 0) : (PS.save D P b).2.2.sick = (PS.save D P b).1 ∧ -9223372036854775808 ≤ (PS.save D P b).1 ∧ (PS.save D P b).1 ≤ 9223372036854775807 := by
  have hc := (PS.lay_code D (1 + (1 - P.half) * PS.hp D.safe.length) (1 - P.half) b).bd
  have ho := TS.opn_bd (PS.lay D (1 + (1 - P.half) * PS.hp D.safe.length) (1 - P.half) b).2 ((1 + (1 - P.half) * PS.hp D.safe.length) + PS.takes b.length : Nat) ((1 + (1 - P.half) * PS.hp D.safe.length) + PS.hp D.safe.length : Nat)
  unfold PS.save
  rw [if_neg (by omega), if_neg (by simpa using h2)]
  simp only
  split
  · exact ⟨rfl, hc⟩
  · split
    · exact ⟨rfl, by simp only; omega, by simp only; omega⟩
    · exact ⟨rfl, by simp only; omega, by simp only; omega⟩
set_option maxRecDepth 100000 in
set_option maxHeartbeats 3200000 in
theorem psave_yes (w : World) (q t p : Nat) (own : Nat → Prop) (P : PS) (D : DS) (v : Value) (b : List UInt8) (h : PairIn w q t p D.safe.length P) (hd : DrumAt w p own D) (hv : Sees w v b) (hb : b.length ≤ 1073741824) (hq : ¬ own q) (ht : ¬ own t) (hK : PS.takes b.length < PS.hp D.safe.length) (hP0 : P.sick = 0) (hN : D.waits.length ≤ 700000000) :
    Calls Try.prog 42 #[.pointer (some ⟨q, 0, none⟩), v] w fun e w' => ∃ t', e = .returned (I (PS.save D P b).1) ∧ PairIn w' q t' p D.safe.length (PS.save D P b).2.2 ∧ (t' = t ∨ w.heap.size ≤ t') ∧ ∃ own', DrumAt w' p own' (PS.save D P b).2.1 ∧ (∀ j, own' j → own j ∨ w.heap.size ≤ j) ∧ ¬ own' t' ∧ Mod (fun j => own j ∨ j = q) w w' := by
  obtain ⟨ao, cap, rfl, -⟩ := hv.form0
  have hn := hd.ok.n2
  obtain ⟨W, hW⟩ : ∃ W, W = (w.alloc (.cells #[.pointer (some ⟨q, 0, none⟩)] 44)).alloc (.cells #[.slice ao b.length cap] 23) := ⟨_, rfl⟩
  have hbW : Below w.heap.size w W := by rw [hW]; exact ((Below.refl _ _).alloc (Nat.le_refl _) _).alloc (by simp) _
  have g0 : W.heap[w.heap.size]? = some (.cells #[.pointer (some ⟨q, 0, none⟩)] 44 (0, 0)) := by rw [hW]; exact (Below.heap_alloc _ _ _ (by simp)).trans (heap_alloc_new _ _)
  have g1 : W.heap[w.heap.size + 1]? = some (.cells #[.slice ao b.length cap] 23 (0, 0)) := by rw [hW]; exact heap_alloc_at (by simp)
  have hz : W.heap.size = w.heap.size + 2 := by rw [hW]; simp
  have k0 : ∀ w', Ext W.drew w' → w'.cell? ⟨w.heap.size, 0, none⟩ = some (.pointer (some ⟨q, 0, none⟩)) := fun w' hh => by rw [cell_of_row w' _ _ _ _ _ ((hh.block _ (show _ < W.heap.size by omega)).trans g0)]; rfl
  have k1 : ∀ w', Ext W.drew w' → w'.cell? ⟨w.heap.size + 1, 0, none⟩ = some (.slice ao b.length cap) := fun w' hh => by rw [cell_of_row w' _ _ _ _ _ ((hh.block _ (show _ < W.heap.size by omega)).trans g1)]; rfl
  have HPW := hid (h.below hbW)
  have kp : ∀ w', Ext W.drew w' → w'.cell? ⟨q, 0, none⟩ = some (.pointer (some ⟨p, 0, none⟩)) := fun w' hh => (HPW.out.below (Ext.trans _ _ _ (Ext.drew W) hh)).c0
  have hpp := ppages_any W.drew p own D (hd.below (hbW.trans ((Ext.drew W).mono hbW.size))) (by have := h.n5; omega)
  have htk := fun w => takes_any w b.length (by omega)
  have HPP := hid hpp
  have HTK := hid htk
  have HBW := hid hbW
  have HWW := hid hW
  have HH := hid h
  have HD := hid hd
  have HV := hid hv
  have HQ := hid hq
  have HT := hid ht
  have HK := hid hK
  have hl2 : ¬ ((PS.hp D.safe.length : Nat) : Int) ≤ ((PS.takes b.length : Nat) : Int) := by omega
  have hne : (P.sick != 0) = false := by rw [hP0]; rfl
  have HP0 := hid hP0
  have G0 := hid g0
  have G1 := hid g1
  clear hpp htk hbW g0 g1 hv hd h hW hq ht hK hP0
  go_enter Try.func42, Try.ntmps42
  go_upto_region 3 with (fail)
  rw [← HWW.out]
  have c0 := k0 _ (Ext.refl _)
  have c3 := (HPW.out.below (Ext.drew W)).c3
  have c2 := (HPW.out.below (Ext.drew W)).c2
  refine wp_region_order Ext [] [(0,0),(1,0),(3,0),(4,0),(5,0),(6,0),(2,1),(7,1),(8,0),(9,0)] _ (by kernel_rfl) rfl Ext.refl Ext.trans (by kernel_rfl) (by simp only [pick, List.getElem?_toArray, List.getElem?_cons_zero, List.getElem?_cons_succ]; rfl) (fun c a d v w h => by cases d <;> exact h) ?_
  refine wpK_q (v := ?_) (a' := ?_) (by rfl) (fun w' hR => ?_) ?_ ?_
  rotate_left 2
  · go_simp; with_reducible rfl
  · simp only [Act.put, List.setIfInBounds_toArray, List.set_cons_zero, List.set_cons_succ]; rfl
  refine wpK_q (v := ?_) (a' := ?_) (by rfl) (fun w' hR => ?_) ?_ ?_
  rotate_left 2
  · go_simp; with_reducible rfl
  · simp only [Act.put, List.setIfInBounds_toArray, List.set_cons_zero, List.set_cons_succ]; rfl
  refine wpK_q (v := ?_) (a' := ?_) (by rfl) (fun w' hR => ?_) ?_ ?_
  rotate_left 2
  · go_simp; with_reducible rfl
  · simp only [Act.put, List.setIfInBounds_toArray, List.set_cons_zero, List.set_cons_succ]; rfl
  refine wpK_q (v := ?_) (a' := ?_) (by rfl) (fun w' hR => ?_) ?_ ?_
  rotate_left 2
  · go_simp; with_reducible rfl
  · simp only [Act.put, List.setIfInBounds_toArray, List.set_cons_zero, List.set_cons_succ]; rfl
  refine wpK_q (v := ?_) (a' := ?_) (by rfl) (fun w' hR => ?_) ?_ ?_
  rotate_left 2
  · go_simp; with_reducible rfl
  · simp only [Act.put, List.setIfInBounds_toArray, List.set_cons_zero, List.set_cons_succ]; rfl
  refine wpK_q (v := ?_) (a' := ?_) (by rfl) (fun w' hR => ?_) ?_ ?_
  rotate_left 2
  · go_simp; with_reducible rfl
  · simp only [Act.put, List.setIfInBounds_toArray, List.set_cons_zero, List.set_cons_succ]; rfl
  refine wpK_call Try.func87 (by kernel_rfl) rfl rfl (by rfl) #[I b.length] (by simp only [List.map_toArray, List.map_cons, List.map_nil]; rfl) ?_
  refine (HTK.out _).mono ?_
  rintro e w1 ⟨rfl, rfl⟩
  refine ⟨_, rfl, fun _ => Ext.refl _, ?_⟩
  refine wpK_call Try.func83 (by kernel_rfl) rfl rfl (by rfl) #[.pointer (some ⟨p, 0, none⟩)] (by simp only [List.map_toArray, List.map_cons, List.map_nil]; rfl) ?_
  refine HPP.out.mono ?_
  rintro e w1 ⟨rfl, rfl⟩
  refine ⟨_, rfl, fun _ => Ext.refl _, ?_⟩
  refine wpK_q (v := ?_) (a' := ?_) (by rfl) (fun w' hR => ?_) ?_ ?_
  rotate_left 2
  · go_simp; with_reducible rfl
  · simp only [Act.put, List.setIfInBounds_toArray, List.set_cons_zero, List.set_cons_succ]; rfl
  refine wpK_q (v := ?_) (a' := ?_) (by rfl) (fun w' hR => ?_) ?_ ?_
  rotate_left 2
  · go_simp; with_reducible rfl
  · simp only [Act.put, List.setIfInBounds_toArray, List.set_cons_zero, List.set_cons_succ]; rfl
  refine wpK_done ?_
  clear k0 k1 kp
  go_upto_region 8 with (fail)
  obtain ⟨hf, hhf⟩ : ∃ hf, hf = 1 - P.half := ⟨_, rfl⟩
  have hwr : wrap64 (1 - (P.half : Int)) = (hf : Int) := by have := HH.out.half; unfold wrap64; omega
  rw [hwr]
  obtain ⟨K, hKe⟩ : ∃ K, K = PS.takes b.length := ⟨_, rfl⟩
  obtain ⟨A, hA0⟩ : ∃ A, A = 1 + hf * PS.hp D.safe.length := ⟨_, rfl⟩
  obtain ⟨W3, hW3⟩ : ∃ W3, W3 = (W.alloc (.cells #[I hf] 3)).drew := ⟨_, rfl⟩
  have hb3 : Below W.heap.size W W3 := by rw [hW3]; exact ((Below.refl _ _).alloc (Nat.le_refl _) _).trans ((Ext.drew _).mono (by simp))
  have hz3 : W3.heap.size = w.heap.size + 3 := by rw [hW3]; show (W.alloc _).heap.size = _; simp; omega
  have g2 : W3.heap[w.heap.size + 2]? = some (.cells #[I hf] 3 (0, 0)) := by rw [hW3]; exact heap_alloc_at hz
  rw [← hW3]
  have k0 : ∀ w', Ext W3.drew w' → w'.cell? ⟨w.heap.size, 0, none⟩ = some (.pointer (some ⟨q, 0, none⟩)) := fun w' hh => by rw [cell_of_row w' _ _ _ _ _ ((hh.block _ (show _ < W3.heap.size by omega)).trans ((hb3.block _ (by omega)).trans G0.out))]; rfl
  have k1 : ∀ w', Ext W3.drew w' → w'.cell? ⟨w.heap.size + 1, 0, none⟩ = some (.slice ao b.length cap) := fun w' hh => by rw [cell_of_row w' _ _ _ _ _ ((hh.block _ (show _ < W3.heap.size by omega)).trans ((hb3.block _ (by omega)).trans G1.out))]; rfl
  have k2 : ∀ w', Ext W3.drew w' → w'.cell? ⟨w.heap.size + 2, 0, none⟩ = some (I hf) := fun w' hh => by rw [cell_of_row w' _ _ _ _ _ ((hh.block _ (show _ < W3.heap.size by omega)).trans g2)]; rfl
  have hb3d : Below W.heap.size W W3.drew := hb3.trans ((Ext.drew W3).mono hb3.size)
  have kp : ∀ w', Ext W3.drew w' → w'.cell? ⟨q, 0, none⟩ = some (.pointer (some ⟨p, 0, none⟩)) := fun w' hh => ((HPW.out.below hb3d).below hh).c0
  have hff : ∀ w', Ext W3.drew w' → Calls Try.prog 82 #[.pointer (some ⟨p, 0, none⟩), I hf] w' fun e w'' => e = .returned (I A) ∧ w' = w'' := fun w' hh => by
    rw [hA0]
    exact pfirst_any w' p own D (((HD.out.below HBW.out).below hb3d).below hh) (by have := HH.out.n5; omega) hf (by omega)
  have HFF := hid hff
  have HB3 := hid hb3
  have HB3D := hid hb3d
  have G2 := hid g2
  have HZ3 := hid hz3
  have HA0 := hid hA0
  have HHF := hid hhf
  have HKE := hid hKe
  rw [← hKe] at HTK
  clear hff hb3 hb3d g2 hA0 hwr hW3 c0 c2 c3 hhf hKe
  refine wp_region_tree Ext [11, 12] [(0, 0), (1, 0), (2, 0), (3, 0), (4, 0), (6, 0), (7, 0)] saveOrders _ (by kernel_rfl) Ext.refl Ext.trans (by kernel_rfl) (by simp only [pick, List.getElem?_toArray, List.getElem?_cons_zero, List.getElem?_cons_succ]; rfl) (fun c a d v w h => by cases d <;> exact h) ?_
  refine wpK_q (v := ?_) (a' := ?_) (by rfl) (fun w' hR => ?_) ?_ ?_
  rotate_left 2
  · go_simp; with_reducible rfl
  · simp only [Act.put, List.setIfInBounds_toArray, List.set_cons_zero, List.set_cons_succ]; rfl
  refine wpK_q (v := ?_) (a' := ?_) (by rfl) (fun w' hR => ?_) ?_ ?_
  rotate_left 2
  · go_simp; with_reducible rfl
  · simp only [Act.put, List.setIfInBounds_toArray, List.set_cons_zero, List.set_cons_succ]; rfl
  refine wpK_q (v := ?_) (a' := ?_) (by rfl) (fun w' hR => ?_) ?_ ?_
  rotate_left 2
  · go_simp; with_reducible rfl
  · simp only [Act.put, List.setIfInBounds_toArray, List.set_cons_zero, List.set_cons_succ]; rfl
  refine wpK_q (v := ?_) (a' := ?_) (by rfl) (fun w' hR => ?_) ?_ ?_
  rotate_left 2
  · go_simp; with_reducible rfl
  · simp only [Act.put, List.setIfInBounds_toArray, List.set_cons_zero, List.set_cons_succ]; rfl
  refine wpK_q (v := ?_) (a' := ?_) (by rfl) (fun w' hR => ?_) ?_ ?_
  rotate_left 2
  · go_simp; with_reducible rfl
  · simp only [Act.put, List.setIfInBounds_toArray, List.set_cons_zero, List.set_cons_succ]; rfl
  refine wpK_q (v := ?_) (a' := ?_) (by rfl) (fun w' hR => ?_) ?_ ?_
  rotate_left 2
  · go_simp; with_reducible rfl
  · simp only [Act.put, List.setIfInBounds_toArray, List.set_cons_zero, List.set_cons_succ]; rfl
  refine wpK_q (v := ?_) (a' := ?_) (by rfl) (fun w' hR => ?_) ?_ ?_
  rotate_left 2
  · go_simp; with_reducible rfl
  · simp only [Act.put, List.setIfInBounds_toArray, List.set_cons_zero, List.set_cons_succ]; rfl
  refine wpK_done (thenQ_normal ?_)
  clear k0 k1 k2 kp
  generalize hA : Act.mk _ _ = a0
  have F0 := hid (HFF.out W3.drew (Ext.refl _))
  have F1 := hid (HFF.out _ (Ext.alloc3 W3.drew))
  have F2 := hid (HFF.out _ (Ext.trans _ _ _ (Ext.alloc3 W3.drew) (Ext.alloc3 _)))
  refine OT.wp_of (π := [(11, 2), (12, 2)]) (S := fun a w5 => (a = (((a0.put (some 42) (I A)).put (some 45) (I K)).put (some 6) (.pointer (some ⟨W3.drew.heap.size, 0, none⟩))).put (some 7) (.pointer (some ⟨(W3.drew.alloc (.cells #[I 0] 3)).heap.size, 0, none⟩)) ∧ w5 = (W3.drew.alloc (.cells #[I 0] 3)).alloc (.cells #[I 0] 3)) ∨
      (a = (((a0.put (some 42) (I A)).put (some 45) (I K)).put (some 6) (.pointer (some ⟨(W3.drew.alloc (.cells #[I 0] 3)).heap.size, 0, none⟩))).put (some 7) (.pointer (some ⟨W3.drew.heap.size, 0, none⟩)) ∧ w5 = (W3.drew.alloc (.cells #[I 0] 3)).alloc (.cells #[I 0] 3))) ?leafs saveOrders _ _ (by kernel_rfl) ?tree
  case tree =>
    subst hA
    unfold saveOrders sLeaf
    refine OT.s_three ?_ ?_ ?_
    · exact stepK_call' (v := I A) (o := _) rfl Try.func82 (by kernel_rfl) rfl rfl (by rfl) #[.pointer (some ⟨p, 0, none⟩), I hf] (by simp only [List.map_toArray, List.map_cons, List.map_nil]; rfl) (by simp only [Act.put, List.setIfInBounds_toArray, List.set_cons_zero, List.set_cons_succ]; rfl) F0.out (fun _ => Ext.refl _) (by
        refine OT.s_three ?_ ?_ ?_
        · exact stepK_call' (v := I K) (o := _) rfl Try.func87 (by kernel_rfl) rfl rfl (by rfl) #[I b.length] (by simp only [List.map_toArray, List.map_cons, List.map_nil]; rfl) (by simp only [Act.put, List.setIfInBounds_toArray, List.set_cons_zero, List.set_cons_succ]; rfl) (HTK.out _) (fun _ => Ext.refl _) (by
            refine OT.s_two ?_ ?_
            · exact stepK_v (o := _) rfl (by rfl) (exec_alloc3 rfl) (fun _ => Ext.alloc3 _) (by simp only [Act.put, List.setIfInBounds_toArray, List.set_cons_zero, List.set_cons_succ]; rfl) (by
                refine OT.s_one ?_
                exact stepK_v (o := _) rfl (by rfl) (exec_alloc3 rfl) (fun _ => Ext.alloc3 _) (by simp only [Act.put, List.setIfInBounds_toArray, List.set_cons_zero, List.set_cons_succ]; rfl) (by
                  exact OT.s_leaf (.inl ⟨rfl, rfl⟩)))
            · exact stepK_v (o := _) rfl (by rfl) (exec_alloc3 rfl) (fun _ => Ext.alloc3 _) (by simp only [Act.put, List.setIfInBounds_toArray, List.set_cons_zero, List.set_cons_succ]; rfl) (by
                refine OT.s_one ?_
                exact stepK_v (o := _) rfl (by rfl) (exec_alloc3 rfl) (fun _ => Ext.alloc3 _) (by simp only [Act.put, List.setIfInBounds_toArray, List.set_cons_zero, List.set_cons_succ]; rfl) (by
                  exact OT.s_leaf (.inr ⟨rfl, rfl⟩))))
        · exact stepK_v (o := _) rfl (by rfl) (exec_alloc3 rfl) (fun _ => Ext.alloc3 _) (by simp only [Act.put, List.setIfInBounds_toArray, List.set_cons_zero, List.set_cons_succ]; rfl) (by
            refine OT.s_two ?_ ?_
            · exact stepK_call' (v := I K) (o := _) rfl Try.func87 (by kernel_rfl) rfl rfl (by rfl) #[I b.length] (by simp only [List.map_toArray, List.map_cons, List.map_nil]; rfl) (by simp only [Act.put, List.setIfInBounds_toArray, List.set_cons_zero, List.set_cons_succ]; rfl) (HTK.out _) (fun _ => Ext.refl _) (by
                refine OT.s_one ?_
                exact stepK_v (o := _) rfl (by rfl) (exec_alloc3 rfl) (fun _ => Ext.alloc3 _) (by simp only [Act.put, List.setIfInBounds_toArray, List.set_cons_zero, List.set_cons_succ]; rfl) (by
                  exact OT.s_leaf (.inl ⟨rfl, rfl⟩)))
            · exact stepK_v (o := _) rfl (by rfl) (exec_alloc3 rfl) (fun _ => Ext.alloc3 _) (by simp only [Act.put, List.setIfInBounds_toArray, List.set_cons_zero, List.set_cons_succ]; rfl) (by
                refine OT.s_one ?_
                exact stepK_call' (v := I K) (o := _) rfl Try.func87 (by kernel_rfl) rfl rfl (by rfl) #[I b.length] (by simp only [List.map_toArray, List.map_cons, List.map_nil]; rfl) (by simp only [Act.put, List.setIfInBounds_toArray, List.set_cons_zero, List.set_cons_succ]; rfl) (HTK.out _) (fun _ => Ext.refl _) (by
                  exact OT.s_leaf (.inl ⟨rfl, rfl⟩))))
        · exact stepK_v (o := _) rfl (by rfl) (exec_alloc3 rfl) (fun _ => Ext.alloc3 _) (by simp only [Act.put, List.setIfInBounds_toArray, List.set_cons_zero, List.set_cons_succ]; rfl) (by
            refine OT.s_two ?_ ?_
            · exact stepK_call' (v := I K) (o := _) rfl Try.func87 (by kernel_rfl) rfl rfl (by rfl) #[I b.length] (by simp only [List.map_toArray, List.map_cons, List.map_nil]; rfl) (by simp only [Act.put, List.setIfInBounds_toArray, List.set_cons_zero, List.set_cons_succ]; rfl) (HTK.out _) (fun _ => Ext.refl _) (by
                refine OT.s_one ?_
                exact stepK_v (o := _) rfl (by rfl) (exec_alloc3 rfl) (fun _ => Ext.alloc3 _) (by simp only [Act.put, List.setIfInBounds_toArray, List.set_cons_zero, List.set_cons_succ]; rfl) (by
                  exact OT.s_leaf (.inr ⟨rfl, rfl⟩)))
            · exact stepK_v (o := _) rfl (by rfl) (exec_alloc3 rfl) (fun _ => Ext.alloc3 _) (by simp only [Act.put, List.setIfInBounds_toArray, List.set_cons_zero, List.set_cons_succ]; rfl) (by
                refine OT.s_one ?_
                exact stepK_call' (v := I K) (o := _) rfl Try.func87 (by kernel_rfl) rfl rfl (by rfl) #[I b.length] (by simp only [List.map_toArray, List.map_cons, List.map_nil]; rfl) (by simp only [Act.put, List.setIfInBounds_toArray, List.set_cons_zero, List.set_cons_succ]; rfl) (HTK.out _) (fun _ => Ext.refl _) (by
                  exact OT.s_leaf (.inr ⟨rfl, rfl⟩)))))
    · exact stepK_v (o := _) rfl (by rfl) (exec_alloc3 rfl) (fun _ => Ext.alloc3 _) (by simp only [Act.put, List.setIfInBounds_toArray, List.set_cons_zero, List.set_cons_succ]; rfl) (by
        refine OT.s_two ?_ ?_
        · exact stepK_call' (v := I A) (o := _) rfl Try.func82 (by kernel_rfl) rfl rfl (by rfl) #[.pointer (some ⟨p, 0, none⟩), I hf] (by simp only [List.map_toArray, List.map_cons, List.map_nil]; rfl) (by simp only [Act.put, List.setIfInBounds_toArray, List.set_cons_zero, List.set_cons_succ]; rfl) F1.out (fun _ => Ext.refl _) (by
            refine OT.s_two ?_ ?_
            · exact stepK_call' (v := I K) (o := _) rfl Try.func87 (by kernel_rfl) rfl rfl (by rfl) #[I b.length] (by simp only [List.map_toArray, List.map_cons, List.map_nil]; rfl) (by simp only [Act.put, List.setIfInBounds_toArray, List.set_cons_zero, List.set_cons_succ]; rfl) (HTK.out _) (fun _ => Ext.refl _) (by
                refine OT.s_one ?_
                exact stepK_v (o := _) rfl (by rfl) (exec_alloc3 rfl) (fun _ => Ext.alloc3 _) (by simp only [Act.put, List.setIfInBounds_toArray, List.set_cons_zero, List.set_cons_succ]; rfl) (by
                  exact OT.s_leaf (.inl ⟨rfl, rfl⟩)))
            · exact stepK_v (o := _) rfl (by rfl) (exec_alloc3 rfl) (fun _ => Ext.alloc3 _) (by simp only [Act.put, List.setIfInBounds_toArray, List.set_cons_zero, List.set_cons_succ]; rfl) (by
                refine OT.s_one ?_
                exact stepK_call' (v := I K) (o := _) rfl Try.func87 (by kernel_rfl) rfl rfl (by rfl) #[I b.length] (by simp only [List.map_toArray, List.map_cons, List.map_nil]; rfl) (by simp only [Act.put, List.setIfInBounds_toArray, List.set_cons_zero, List.set_cons_succ]; rfl) (HTK.out _) (fun _ => Ext.refl _) (by
                  exact OT.s_leaf (.inl ⟨rfl, rfl⟩))))
        · exact stepK_v (o := _) rfl (by rfl) (exec_alloc3 rfl) (fun _ => Ext.alloc3 _) (by simp only [Act.put, List.setIfInBounds_toArray, List.set_cons_zero, List.set_cons_succ]; rfl) (by
            refine OT.s_one ?_
            exact stepK_call' (v := I A) (o := _) rfl Try.func82 (by kernel_rfl) rfl rfl (by rfl) #[.pointer (some ⟨p, 0, none⟩), I hf] (by simp only [List.map_toArray, List.map_cons, List.map_nil]; rfl) (by simp only [Act.put, List.setIfInBounds_toArray, List.set_cons_zero, List.set_cons_succ]; rfl) F2.out (fun _ => Ext.refl _) (by
              refine OT.s_one ?_
              exact stepK_call' (v := I K) (o := _) rfl Try.func87 (by kernel_rfl) rfl rfl (by rfl) #[I b.length] (by simp only [List.map_toArray, List.map_cons, List.map_nil]; rfl) (by simp only [Act.put, List.setIfInBounds_toArray, List.set_cons_zero, List.set_cons_succ]; rfl) (HTK.out _) (fun _ => Ext.refl _) (by
                exact OT.s_leaf (.inl ⟨rfl, rfl⟩)))))
    · exact stepK_v (o := _) rfl (by rfl) (exec_alloc3 rfl) (fun _ => Ext.alloc3 _) (by simp only [Act.put, List.setIfInBounds_toArray, List.set_cons_zero, List.set_cons_succ]; rfl) (by
        refine OT.s_two ?_ ?_
        · exact stepK_call' (v := I A) (o := _) rfl Try.func82 (by kernel_rfl) rfl rfl (by rfl) #[.pointer (some ⟨p, 0, none⟩), I hf] (by simp only [List.map_toArray, List.map_cons, List.map_nil]; rfl) (by simp only [Act.put, List.setIfInBounds_toArray, List.set_cons_zero, List.set_cons_succ]; rfl) F1.out (fun _ => Ext.refl _) (by
            refine OT.s_two ?_ ?_
            · exact stepK_call' (v := I K) (o := _) rfl Try.func87 (by kernel_rfl) rfl rfl (by rfl) #[I b.length] (by simp only [List.map_toArray, List.map_cons, List.map_nil]; rfl) (by simp only [Act.put, List.setIfInBounds_toArray, List.set_cons_zero, List.set_cons_succ]; rfl) (HTK.out _) (fun _ => Ext.refl _) (by
                refine OT.s_one ?_
                exact stepK_v (o := _) rfl (by rfl) (exec_alloc3 rfl) (fun _ => Ext.alloc3 _) (by simp only [Act.put, List.setIfInBounds_toArray, List.set_cons_zero, List.set_cons_succ]; rfl) (by
                  exact OT.s_leaf (.inr ⟨rfl, rfl⟩)))
            · exact stepK_v (o := _) rfl (by rfl) (exec_alloc3 rfl) (fun _ => Ext.alloc3 _) (by simp only [Act.put, List.setIfInBounds_toArray, List.set_cons_zero, List.set_cons_succ]; rfl) (by
                refine OT.s_one ?_
                exact stepK_call' (v := I K) (o := _) rfl Try.func87 (by kernel_rfl) rfl rfl (by rfl) #[I b.length] (by simp only [List.map_toArray, List.map_cons, List.map_nil]; rfl) (by simp only [Act.put, List.setIfInBounds_toArray, List.set_cons_zero, List.set_cons_succ]; rfl) (HTK.out _) (fun _ => Ext.refl _) (by
                  exact OT.s_leaf (.inr ⟨rfl, rfl⟩))))
        · exact stepK_v (o := _) rfl (by rfl) (exec_alloc3 rfl) (fun _ => Ext.alloc3 _) (by simp only [Act.put, List.setIfInBounds_toArray, List.set_cons_zero, List.set_cons_succ]; rfl) (by
            refine OT.s_one ?_
            exact stepK_call' (v := I A) (o := _) rfl Try.func82 (by kernel_rfl) rfl rfl (by rfl) #[.pointer (some ⟨p, 0, none⟩), I hf] (by simp only [List.map_toArray, List.map_cons, List.map_nil]; rfl) (by simp only [Act.put, List.setIfInBounds_toArray, List.set_cons_zero, List.set_cons_succ]; rfl) F2.out (fun _ => Ext.refl _) (by
              refine OT.s_one ?_
              exact stepK_call' (v := I K) (o := _) rfl Try.func87 (by kernel_rfl) rfl rfl (by rfl) #[I b.length] (by simp only [List.map_toArray, List.map_cons, List.map_nil]; rfl) (by simp only [Act.put, List.setIfInBounds_toArray, List.set_cons_zero, List.set_cons_succ]; rfl) (HTK.out _) (fun _ => Ext.refl _) (by
                exact OT.s_leaf (.inr ⟨rfl, rfl⟩)))))
  case leafs =>
    intro a w5 hS
    clear F0 F1 F2 HFF HTK HPP
    obtain ⟨W5, hW5⟩ : ∃ W5, W5 = (W3.drew.alloc (.cells #[I 0] 3)).alloc (.cells #[I 0] 3) := ⟨_, rfl⟩
    have hzd : W3.drew.heap.size = w.heap.size + 3 := HZ3.out
    have hzd1 : (W3.drew.alloc (.cells #[I 0] 3)).heap.size = w.heap.size + 4 := by simp [hzd]
    rw [← hW5] at hS
    rw [hzd1, hzd] at hS
    have hS2 : ∃ b6 b7, (b6 = w.heap.size + 3 ∧ b7 = w.heap.size + 4 ∨ b6 = w.heap.size + 4 ∧ b7 = w.heap.size + 3) ∧ a = (((a0.put (some 42) (I A)).put (some 45) (I K)).put (some 6) (.pointer (some ⟨b6, 0, none⟩))).put (some 7) (.pointer (some ⟨b7, 0, none⟩)) ∧ w5 = W5 := by
      rcases hS with ⟨h1, h2⟩ | ⟨h1, h2⟩
      · exact ⟨_, _, .inl ⟨rfl, rfl⟩, h1, h2⟩
      · exact ⟨_, _, .inr ⟨rfl, rfl⟩, h1, h2⟩
    have ga : W5.heap[w.heap.size + 3]? = some (.cells #[I 0] 3 (0, 0)) := by rw [hW5]; exact (Below.heap_alloc _ _ _ (by omega)).trans (heap_alloc_at hzd)
    have gb : W5.heap[w.heap.size + 4]? = some (.cells #[I 0] 3 (0, 0)) := by rw [hW5]; exact heap_alloc_at hzd1
    have hz5 : W5.heap.size = w.heap.size + 5 := by rw [hW5]; simp [hzd]
    have hb5 : Below W3.heap.size W3 W5 := by rw [hW5]; exact Ext.trans _ _ _ (Ext.drew W3) (Ext.trans _ _ _ (Ext.alloc3 W3.drew) (Ext.alloc3 _))
    clear hS hW5
    obtain ⟨b6, b7, hbb, rfl, rfl⟩ := hS2
    have g6 : w5.heap[b6]? = some (.cells #[I 0] 3 (0, 0)) := by rcases hbb with ⟨h1, h2⟩ | ⟨h1, h2⟩ <;> rw [h1] <;> assumption
    have g7 : w5.heap[b7]? = some (.cells #[I 0] 3 (0, 0)) := by rcases hbb with ⟨h1, h2⟩ | ⟨h1, h2⟩ <;> rw [h2] <;> assumption
    have h67 : b7 ≠ b6 := by omega
    have g7' : (w5.setCell ⟨b6, 0, none⟩ (I A)).heap[b7]? = some (.cells #[I 0] 3 (0, 0)) := (heap_setCell_other w5 ⟨b6, 0, none⟩ b7 _ h67).trans g7
    have hlo : ∀ k, k < w.heap.size + 3 → ((w5.setCell ⟨b6, 0, none⟩ (I A)).setCell ⟨b7, 0, none⟩ (I K)).heap[k]? = W3.heap[k]? := fun k hk => (heap_setCell_other _ ⟨b7, 0, none⟩ k _ (by show k ≠ b7; omega)).trans ((heap_setCell_other _ ⟨b6, 0, none⟩ k _ (by show k ≠ b6; omega)).trans (hb5.block k (by rw [HZ3.out]; exact hk)))
    have hsz6 : ((w5.setCell ⟨b6, 0, none⟩ (I A)).setCell ⟨b7, 0, none⟩ (I K)).heap.size = w.heap.size + 5 := by simp [hz5]
    have HB6 : Hid (Below w.heap.size w ((w5.setCell ⟨b6, 0, none⟩ (I A)).setCell ⟨b7, 0, none⟩ (I K))) := hid (((HBW.out.trans (HB3.out.mono HBW.out.size)).trans (hb5.mono (by have := HZ3.out; omega))).setCell (p := ⟨b6, 0, none⟩) (by show _ ≤ b6; omega) _ |>.setCell (p := ⟨b7, 0, none⟩) (by show _ ≤ b7; omega) _)
    have HSI : Hid (SIn w.heap.size q (.slice ao b.length cap) hf A K b6 b7 ((w5.setCell ⟨b6, 0, none⟩ (I A)).setCell ⟨b7, 0, none⟩ (I K))) := hid ⟨(hlo _ (by omega)).trans ((HB3.out.block _ (by omega)).trans G0.out), (hlo _ (by omega)).trans ((HB3.out.block _ (by omega)).trans G1.out), (hlo _ (by omega)).trans G2.out, (heap_setCell_other _ ⟨b7, 0, none⟩ b6 _ (fun e => h67 e.symm)).trans (heap_setCell_same w5 b6 0 _ _ _ g6), heap_setCell_same _ b7 0 _ _ _ g7', by omega, by omega⟩
    have c6 : w5.cell? ⟨b6, 0, none⟩ = some (I 0) := by rw [cell_of_row _ _ _ _ _ _ g6]; rfl
    have c7 : (w5.setCell ⟨b6, 0, none⟩ (I A)).cell? ⟨b7, 0, none⟩ = some (I 0) := by rw [cell_of_row _ _ _ _ _ _ g7']; rfl
    subst hA
    simp only [pick, List.getElem?_toArray, List.getElem?_cons_zero, List.getElem?_cons_succ]
    simp only [Act.put, List.setIfInBounds_toArray, List.set_cons_zero, List.set_cons_succ]
    refine wpK_s (by rfl) rfl (exec_store rfl (vx := .pointer (some ⟨b6, 0, none⟩)) (vy := I A) rfl rfl (run_store1 (u := I 0) (by kernel_rfl) rfl rfl c6 (frozen_row g6 0))) (fun h => by cases h) ?_
    refine wpK_s (by rfl) rfl (exec_store rfl (vx := .pointer (some ⟨b7, 0, none⟩)) (vy := I K) rfl rfl (run_store1 (u := I 0) (by kernel_rfl) rfl rfl c7 (frozen_row g7' 0))) (fun h => by cases h) ?_
    refine wpK_done ?_
    generalize (w5.setCell ⟨b6, 0, none⟩ (I A)).setCell ⟨b7, 0, none⟩ (I K) = W6 at *
    clear hlo c6 c7 g6 g7 g7' ga gb hb5 hz5 hzd hzd1 G0 G1 G2 HB3 HB3D HPW HZ3 HBW h67 hbb HWW hz
    have hmf := closes
    have HLT := hid (fun j (hj : own j) => HD.out.lt j hj)
    have hql : q < w.heap.size := (Array.getElem?_eq_some_iff.1 HH.out.hq).1
    have htl := HH.out.tape.lt
    have hdoor := psave_door w.heap.size W6 q t p own P (.slice ao b.length cap) b b6 b7 D (PS.save D P b) (by rw [← HHF.out, ← HA0.out, ← HKE.out]; exact HSI.out) (HH.out.below HB6.out) (HD.out.below HB6.out) HLT.out hql htl HQ.out HT.out (by omega) (HV.out.below HB6.out) HK.out HP0.out rfl hN
    have HDOOR := hid hdoor
    clear hdoor
    go_wp2_with fail
    refine HDOOR.out.mono ?_
    rintro e w1 ⟨rfl, W1, wE, hb1, hend, hz1, hm⟩
    obtain ⟨t', own', ht', hp', hd', ho', hnt', hm'⟩ := hend
    have hss := PS.save_sick HK.out HP0.out
    have hs1 : w.heap.size + 5 ≤ W1.heap.size := by omega
    have hsE := hm'.size
    have gz : w1.heap[w.heap.size]? = some (.cells #[.pointer (some ⟨q, 0, none⟩)] 44 (0, 0)) := (hm.block _ (by omega) (by omega)).trans ((hm'.block _ (by omega) (fun e => by rcases e with e | e; have := HLT.out _ e; omega; omega)).trans ((hb1.block _ (by omega)).trans HSI.out.g0))
    have hqE : q < wE.heap.size := by omega
    have gq := (hm.block q hqE (by omega)).trans hp'.hq
    have cz : w1.cell? ⟨w.heap.size, 0, none⟩ = some (.pointer (some ⟨q, 0, none⟩)) := by rw [cell_of_row _ _ _ _ _ _ gz]; rfl
    have c3 : w1.cell? ⟨q, 3, none⟩ = some (I P.sick) := by rw [cell_of_row _ _ _ _ _ _ gq]; rfl
    have f3 := frozen_row gq 3
    obtain ⟨X, hX⟩ : ∃ X, X = PS.save D P b := ⟨_, rfl⟩
    rw [← hX] at hp' hd' hss gq ⊢
    have hX2 : PS.save D P b = X := hX.symm
    have HX := hid hX2
    have HH1 := hid (And.intro hb1 (And.intro ht' (And.intro hp' (And.intro hd' (And.intro ho' (And.intro hnt' (And.intro hm' hm)))))))
    have HSS := hid hss
    have GQ := hid gq
    clear hb1 ht' hp' hd' ho' hnt' hm' hm hX hX2 hss gq gz HDOOR
    go_wp2
    go_ret
    obtain ⟨hb1, ht', hp', hd', ho', hnt', hm', hm⟩ := HH1.out
    rw [HX.out]
    have hs6 := HB6.out.size
    have hz7 : w.heap.size + 5 ≤ W6.heap.size := by omega
    have hoth : ∀ k, k < wE.heap.size → k ≠ W6.heap.size → k ≠ q → (w1.setCell ⟨q, 3, none⟩ (I X.1)).heap[k]? = wE.heap[k]? := fun k hk h1 h2 => (heap_setCell_other _ ⟨q, 3, none⟩ k _ h2).trans (hm.block k hk h1)
    have hnq' : ¬ own' q := fun h => (ho' q h).elim HQ.out (fun h => by omega)
    have htz : t' < wE.heap.size := hp'.tape.lt
    have hqt' := hp'.lt
    have hg := heap_setCell_same w1 q 3 _ _ (I X.1) GQ.out
    have hns : ∀ k, own' k → k ≠ W6.heap.size := fun k hk e => (ho' k hk).elim (fun h => by have := HLT.out k h; omega) (fun h => by omega)
    refine ⟨t', rfl, ⟨?_, hp'.tape.keep (hoth t' htz (by omega) (by omega)), hp'.half, by rw [HSS.out.1]; exact HSS.out.2, hqt', hp'.n5⟩, ht'.imp id (fun h => by omega), own', hd'.keep (fun k hk => hoth k (hd'.lt k hk) (hns k hk) (fun e => hnq' (e ▸ hk))) (by simp; exact hm.size), fun j hj => (ho' j hj).imp id (fun h => by omega), hnt', ?_⟩
    · rw [HSS.out.1]; exact hg
    · have hmA : Mod (fun j => own j ∨ j = q) w W1 := (Mod.of_below _ HB6.out).trans ((Mod.of_below _ hb1).mono (fun _ _ h => h)) |>.mono (fun _ _ h => h)
      refine (hmA.trans hm').then ((hm.mono (own' := fun j => j = W6.heap.size ∨ j = q) (fun _ _ h => .inl h)).trans (Mod.set (.inr rfl))) (fun i hi h => ?_)
      rcases h with h | h
      · omega
      · exact .inr h
end Go.Proofs.Ytoaeapnkefjpaaa

namespace Go.Proofs.Ytoaeapnkefjpaaa
open Go.RowKit
set_option linter.unusedVariables false
set_option linter.unusedSimpArgs false

set_option maxRecDepth 100000 in
set_option maxHeartbeats 800000 in
theorem rframe5_any (w : World) (v : Value) (r : List UInt8) (hv : Sees w v r) (hr : r.length ≤ 1073741824) : Calls Try.prog 76 #[v] w (Fresh w (PS.framed r)) := by
  obtain ⟨ao, cap, rfl, -⟩ := hv.form0
  obtain ⟨Y, hY⟩ : ∃ Y, Y = PS.framed r := ⟨_, rfl⟩
  rw [← hY]
  unfold PS.framed at hY
  have HY := hid hY
  have HV := hid hv
  clear hv hY
  go_enter Try.func76, Try.ntmps76
  go_wp2_with fail
  have hcells : (#[Value.int .u8 ((r.length : Int) / 16777216), Value.int .u8 ((r.length : Int) / 65536 % 256), Value.int .u8 ((r.length : Int) / 256 % 256), Value.int .u8 ((r.length : Int) % 256)] : Array Value) = ((PS.size4 r.length).map B).toArray := by
    have e0 : ((UInt8.ofNat (r.length / 16777216 % 256)).toNat : Int) = (r.length : Int) / 16777216 := by rw [UInt8.toNat_ofNat']; omega
    have e1 : ((UInt8.ofNat (r.length / 65536 % 256)).toNat : Int) = (r.length : Int) / 65536 % 256 := by rw [UInt8.toNat_ofNat']; omega
    have e2 : ((UInt8.ofNat (r.length / 256 % 256)).toNat : Int) = (r.length : Int) / 256 % 256 := by rw [UInt8.toNat_ofNat']; omega
    have e3 : ((UInt8.ofNat (r.length % 256)).toNat : Int) = (r.length : Int) % 256 := by rw [UInt8.toNat_ofNat']; omega
    unfold PS.size4 B
    rw [List.map_cons, List.map_cons, List.map_cons, List.map_cons, List.map_nil, e0, e1, e2, e3]
  rw [hcells]
  have hS := Sees.lit w (PS.size4 r.length) (0, 0) (by show 4 ≤ maxLen; unfold maxLen; omega)
  have hb : Below w.heap.size w (w.alloc (.cells ((PS.size4 r.length).map B).toArray 5)) := (Below.refl _ _).alloc (Nat.le_refl _) _
  have HVa := hid (HV.out.below hb)
  have HS : Hid (Sees (w.alloc (.cells ((PS.size4 r.length).map B).toArray 5)) (.slice (some ⟨w.heap.size, 0, none⟩) 4 4) (PS.size4 r.length)) := hid hS
  have HB := hid hb
  generalize w.alloc (.cells ((PS.size4 r.length).map B).toArray 5) = wa at *
  clear hcells hS hb
  have r1 : 0 ≤ Sum.of r.length r ∧ Sum.of r.length r < 18446744073709551616 := by
    have := Sum.add_range (Sum.start r.length) r
    unfold Sum.of; omega
  refine (rof_any (r.length : Int) (by omega) (by omega) _ r _ HVa.out).mono ?_
  rintro e w1 ⟨rfl, rfl⟩
  go_wp2_with fail
  obtain ⟨F, hF⟩ : ∃ F, F = PS.size4 r.length ++ Sum.be8 (Sum.of r.length r) := ⟨_, rfl⟩
  have hFl : F.length = 12 := by rw [hF, List.length_append, Sum.be8_length]; rfl
  refine (rput_any _ (PS.size4 r.length) _ r1.1 r1.2 wa HS.out (by show 4 ≤ 1099511627776; omega)).mono ?_
  rw [← hF]
  rintro e w1 ⟨v1, rfl, ho1, hb1⟩
  rw [hFl] at ho1
  obtain ⟨av1, cv1, rfl⟩ := own_form ho1
  have HO1 := hid ho1
  have HB1 := hid hb1
  have HV1 := hid (HVa.out.below hb1)
  have HF := hid hF
  have HFL := hid hFl
  have hs1 : wa.heap.size ≤ w1.heap.size := hb1.size
  clear ho1 hb1 hF hFl r1
  go_wp2_with (at_builtin; refine wpList_app rfl (.tmp 26) (.tmp 27) 23 rfl wa.heap.size 5 (.int .u8 0) 1 1 Try.underlying23 info5 rfl (by decide) 12 (F.map B) r.length (r.map B) HO1.out ?src ?h63 ?hb hs1 ?_)
  case src => exact HV1.out.src
  case h63 => unfold maxLen; omega
  case hb => omega
  intro v3 w3 hown hgrow hat
  have HO3 := hid hown
  have HB3 := hid (HB1.out.grown hgrow hs1 (fun k hk => by have := (own_lt HO1.out k hk).1; omega))
  clear hown hgrow hat HO1 HB1 HV1
  go_wp2_with fail
  go_ret
  refine ⟨v3, rfl, own_anew (own_len HO3.out ?_ ?_) (fun k hk => Nat.le_trans HB.out.size (own_lt HO3.out k hk).1), HB.out.trans (HB3.out.mono HB.out.size)⟩
  · rw [HY.out, ← HF.out, List.length_append, HFL.out]
  · rw [HY.out, ← HF.out]; simp
end Go.Proofs.Ytoaeapnkefjpaaa

namespace Go.Proofs.Ytoaeapnkefjpaaa
open Go.RowKit
set_option linter.unusedVariables false
set_option linter.unusedSimpArgs false
namespace TS
set_option maxRecDepth 100000 in
theorem doIt_out {D : DS} {T : TS} {r : List UInt8} (h : Live D) (hT : T.Ok D.safe.length) (hs : T.pos + 12 + r.length ≤ T.size) :
    ∀ k, k < D.safe.length → k < T.lo ∨ T.hi ≤ k → DS.look (doIt D T r).2.1.safe (doIt D T r).2.1.waits k = DS.look D.safe D.waits k := by
  intro k hk hko
  obtain ⟨t1, t2, t3, t4, -⟩ := hT
  have hsz : T.size = (T.hi - T.lo) * 256 := rfl
  obtain ⟨P, hP⟩ : ∃ P, P = padded D T T.pos (body T r) := ⟨_, rfl⟩
  have hm := padded_len D T T.pos (body T r)
  have hst := stretch_len h.ok (lo := T.lo) (n := T.hi - T.lo) (by omega)
  have hbl := body_len' T r
  have hPl : T.pos / 256 * 256 + P.length ≤ T.size ∧ P.length % 256 = 0 := by
    refine ⟨?_, by rw [hP]; exact hm⟩
    have hl : P.length = T.pos % 256 + (body T r).length + (256 - (T.pos % 256 + (body T r).length) % 256) % 256 := by
      rw [hP]
      unfold padded
      simp only [List.length_append, List.length_replicate, List.length_take, List.length_drop, hst]
      rw [Nat.min_eq_left (by omega)]
    split at hbl <;> omega
  obtain ⟨K, hK⟩ : ∃ K, P.length = K * 256 := ⟨P.length / 256, by omega⟩
  have hpg : ∀ p ∈ pagesOf P K, p.length = 256 := by
    intro p hp
    unfold pagesOf at hp
    rw [List.mem_map] at hp
    obtain ⟨i, hi, rfl⟩ := hp
    rw [List.mem_range] at hi
    have := (page_of P K i hK hi).2
    rwa [Nat.mul_comm i 256] at this
  have hpl : (pagesOf P K).length = K := by unfold pagesOf; simp
  have hlay : layR D T T.pos (body T r) = wr D (T.lo + T.pos / 256) (pagesOf P K) := by
    unfold layR laid
    rw [if_neg (by simp [h.on]), ← hP, hK, Nat.mul_div_cancel _ (by decide)]
  obtain ⟨a1, a2, a3, a4⟩ := wr_live (pagesOf P K) D (T.lo + T.pos / 256) h hpg (by rw [hpl]; omega)
  have a5 := a4 k
  rw [hpl, if_neg (by omega)] at a5
  rw [doIt_eq, hlay]
  clear hlay a4
  generalize wr D (T.lo + T.pos / 256) (pagesOf P K) = X1 at *
  obtain ⟨e1, D1⟩ := X1
  simp only at a1 a2 a3 a5 ⊢
  subst a1
  obtain ⟨f1, f2, f3, f4⟩ := flush_live a2
  have f5 := f4 k (by rw [a3]; exact hk)
  rw [if_neg (by simp)]
  clear f4
  generalize D1.Flush = X2 at *
  obtain ⟨e2, D2⟩ := X2
  simp only at f1 f2 f3 f5 ⊢
  subst f1
  rw [if_neg (by simp)]
  have hs2 : D2.safe.length = D.safe.length := by rw [f3, a3]
  have hml : (marked D2 T).length = 256 := by
    unfold marked
    rw [List.length_set]
    exact DS.look_len f2.ok.page f2.ok.wait (by rw [hs2]; omega)
  obtain ⟨g1, g2, g3, g4⟩ := write_live f2 (a := T.lo + T.pos / 256) (by rw [hs2]; omega) hml
  have g5 := g4 k
  rw [if_neg (by omega)] at g5
  clear g4
  generalize D2.write (T.lo + T.pos / 256 : Nat) (marked D2 T) = X3 at *
  obtain ⟨e3, D3⟩ := X3
  simp only at g1 g2 g3 g5 ⊢
  subst g1
  rw [if_neg (by simp)]
  obtain ⟨k1, k2, k3, k4⟩ := flush_live g2
  have k5 := k4 k (by rw [g3, hs2]; exact hk)
  clear k4
  generalize D3.Flush = X4 at *
  obtain ⟨e4, D4⟩ := X4
  simp only at k1 k2 k3 k5 ⊢
  subst k1
  rw [if_neg (by simp)]
  exact k5.trans (g5.trans (f5.trans a5))
theorem Holds.out {D : DS} {T : TS} {recs : List (List UInt8)} (h : Holds D T recs) {r : List UInt8} (hr : r.length ≤ 65536) (hs : T.pos + 12 + r.length ≤ T.size) :
    ∀ k, k < D.safe.length → k < T.lo ∨ T.hi ≤ k → DS.look (TS.append D T r).2.1.safe (TS.append D T r).2.1.waits k = DS.look D.safe D.waits k := by
  have e : TS.append D T r = doIt D T r := by
    unfold TS.append
    rw [if_neg (by omega), if_neg (by simp [h.sick]), if_neg (by omega)]
  rw [e]
  exact doIt_out h.on.live h.ok hs
end TS
end Go.Proofs.Ytoaeapnkefjpaaa

namespace Go.Proofs.Ytoaeapnkefjpaaa
open Go.RowKit
set_option linter.unusedVariables false
set_option linter.unusedSimpArgs false
namespace PS
theorem take_take_eq {α : Type} {S S' : List α} {m n : Nat} (e : S.take n = S'.take n) (h : m ≤ n) : S.take m = S'.take m := by
  have := congrArg (List.take m) e
  rwa [List.take_take, List.take_take, Nat.min_eq_left h] at this
theorem drop_take_eq {α : Type} {S S' : List α} {m n : Nat} (e : S.take (m + n) = S'.take (m + n)) : (S.drop m).take n = (S'.drop m).take n := by
  have := congrArg (List.drop m) e
  rwa [List.drop_take, List.drop_take, Nat.add_sub_cancel_left] at this
/-- What is loaded hangs on the snapshot's own pages alone. -/
theorem load_congr {S S' : List UInt8} {h k : Nat} {s : List UInt8} (hl : load S h = (0, s, k)) (e : S.take (256 * k) = S'.take (256 * k)) : load S' h = (0, s, k) := by
  unfold load at hl
  split at hl
  · rename_i h0
    simp only [Prod.mk.injEq] at hl
    obtain ⟨-, rfl, rfl⟩ := hl
    unfold load
    rw [if_pos (by rw [← take_take_eq e (by omega : 12 ≤ 256 * 1)]; exact h0)]
  · split at hl
    · cases hl
    · split at hl
      · rename_i h0 h1 h2
        simp only [Prod.mk.injEq] at hl
        obtain ⟨-, rfl, rfl⟩ := hl
        have hk : 12 + num4 S ≤ 256 * takes (num4 S) := by unfold takes; omega
        have hn : num4 S' = num4 S := by unfold num4; rw [take_take_eq e (by omega : 4 ≤ _)]
        unfold load
        rw [hn, if_neg (by rw [← take_take_eq e (by omega : 12 ≤ _)]; exact h0), if_neg h1, ← take_take_eq e hk, ← drop_take_eq (take_take_eq e hk), if_pos h2]
      · cases hl
theorem num_size4 {n : Nat} (hn : n < 4294967296) : (Sum.num (size4 n)).toNat = n := by
  unfold size4
  simp only [Sum.num, Sum.nst, List.foldl_cons, List.foldl_nil, UInt8.toNat_ofNat']
  omega
/-- A saved snapshot is loaded. -/
theorem load_all {S b : List UInt8} {h : Nat} (hb : b.length < 4294967296) (hh : takes b.length < h) (e : S.take (256 * takes b.length) = framed b ++ List.replicate (takes b.length * 256 - 12 - b.length) 0) : load S h = (0, b, takes b.length) := by
  have hk : 12 + b.length ≤ 256 * takes b.length := by unfold takes; omega
  have h1 : S.take (12 + b.length) = framed b := by
    have := congrArg (List.take (12 + b.length)) e
    rwa [List.take_take, Nat.min_eq_left hk, List.take_left' (framed_len b)] at this
  have h4 : S.take 4 = size4 b.length := by
    have := congrArg (List.take 4) h1
    rw [List.take_take, Nat.min_eq_left (by omega)] at this
    rw [this]
    unfold framed
    rw [List.append_assoc]
    exact List.take_left' (size4_len _)
  have hn : num4 S = b.length := by unfold num4; rw [h4, num_size4 hb]
  have h12 : (S.drop 12).take b.length = b := by
    have := congrArg (List.drop 12) h1
    rw [List.drop_take, Nat.add_sub_cancel_left] at this
    rw [this]
    unfold framed
    exact List.drop_left' (by rw [List.length_append, Sum.be8_length, size4_len])
  unfold load
  by_cases h0 : S.take 12 = List.replicate 12 0
  · rw [if_pos h0]
    have h5 : size4 b.length = List.replicate 4 0 := by
      have := congrArg (List.take 4) h0
      rw [List.take_take, Nat.min_eq_left (by omega), h4] at this
      rw [this]; rfl
    have h6 : b.length = 0 := by
      have := num_size4 hb
      rw [h5] at this
      rw [← this]; decide
    obtain rfl := List.eq_nil_of_length_eq_zero h6
    rfl
  · rw [if_neg h0, hn, if_neg (by omega), h12, h1, if_pos rfl]
/-- The drum holds this snapshot and these records; the pair knows it. -/
structure Has (D : DS) (P : PS) (snap : List UInt8) (recs : List (List UInt8)) : Prop where
  n5 : 5 ≤ D.safe.length
  half : P.half ≤ 1
  sick : P.sick = 0
  root : root D = P.half
  load : ∃ k, load (halfOf D P.half) (hp D.safe.length) = (0, snap, k) ∧ 1 ≤ k ∧ k < hp D.safe.length ∧ P.T.lo = 1 + P.half * hp D.safe.length + k
  hi : P.T.hi = 1 + P.half * hp D.safe.length + hp D.safe.length
  tape : TS.Holds D P.T recs
variable {D : DS} {P : PS} {snap : List UInt8} {recs : List (List UInt8)}
theorem Has.live (h : Has D P snap recs) : TS.Live D := h.tape.on.live
theorem hp_two {n : Nat} (h : 5 ≤ n) : 2 ≤ hp n ∧ 2 * hp n + 1 ≤ n := by unfold hp; omega
theorem half_le {n a : Nat} (h : 5 ≤ n) (ha : a ≤ 1) : 1 + a * hp n + hp n ≤ n := by
  have h1 : a * hp n ≤ 1 * hp n := Nat.mul_le_mul_right _ ha
  have := hp_two h
  omega
/-- What an opening answers. -/
theorem Has.open (h : Has D P snap recs) : open_ D = (0, snap, recs, P) := by
  obtain ⟨k, h1, h2, h3, h4⟩ := h.load
  have ho := h.tape.on.opn
  rw [h4, h.hi] at ho
  unfold open_
  simp only [h.root, h1]
  have hn : ¬ (1 < P.half) := by have := h.half; omega
  rw [if_neg (by have := h.n5; omega), if_neg (by simp [h.live.on]), if_neg hn, if_neg (by simp), ho, if_neg (by simp)]
  obtain ⟨hf, ⟨lo, hi, pos, cnt, sk⟩, s⟩ := P
  have e1 := h.sick
  have e2 := h.hi
  have e3 := h.tape.sick
  have e4 := h.tape.pos
  have e5 := h.tape.count
  simp only at e1 e2 e3 e4 e5 h4 ⊢
  subst e1 e2 e3 e4 e5 h4
  rfl
/-- A stretch's first pages, where they are as they were. -/
theorem stretch_take {D D' : DS} (h : D.Ok) (h' : D'.Ok) {lo n k : Nat} (hn : lo + n ≤ D.safe.length) (hn' : lo + n ≤ D'.safe.length) (hk : k ≤ n) (hl : ∀ i, lo ≤ i → i < lo + k → DS.look D'.safe D'.waits i = DS.look D.safe D.waits i) :
    (TS.stretch D' lo n).take (256 * k) = (TS.stretch D lo n).take (256 * k) := by
  apply List.ext_getElem?
  intro j
  rw [List.getElem?_take, List.getElem?_take]
  by_cases hj : j < 256 * k
  · rw [if_pos hj, if_pos hj, TS.stretch_get h hn (by omega), TS.stretch_get h' hn' (by omega), hl _ (by omega) (by omega)]
  · rw [if_neg hj, if_neg hj]
/-- Where the snapshot's own pages and the root are as they were, all but the tape is. -/
theorem Has.move {D' : DS} {T' : TS} {recs' : List (List UInt8)} (h : Has D P snap recs) (hl : D'.safe.length = D.safe.length) (hlo : T'.lo = P.T.lo) (hhi : T'.hi = P.T.hi) (hk : ∀ i, i < P.T.lo → DS.look D'.safe D'.waits i = DS.look D.safe D.waits i) (ht : TS.Holds D' T' recs') : Has D' { P with T := T' } snap recs' := by
  obtain ⟨k, h1, h2, h3, h4⟩ := h.load
  have hle := half_le h.n5 h.half
  refine ⟨by rw [hl]; exact h.n5, h.half, h.sick, ?_, ⟨k, ?_, h2, by rw [hl]; exact h3, by rw [hl, hlo]; exact h4⟩, by rw [hl, hhi]; exact h.hi, ht⟩
  · show PS.root D' = P.half
    rw [← h.root]
    unfold PS.root
    rw [hk 0 (by omega)]
  · rw [hl]
    refine load_congr h1 ?_
    unfold halfOf
    rw [hl]
    exact (stretch_take h.live.ok ht.on.live.ok hle (by rw [hl]; exact hle) (by omega) (fun i _ hi => hk i (by omega))).symm
/-- A record more. -/
theorem Has.append (h : Has D P snap recs) {r : List UInt8} (hr : r.length ≤ 65536) (hs : P.T.pos + 12 + r.length ≤ P.T.size) :
    (PS.append D P r).1 = 0 ∧ Has (PS.append D P r).2.1 (PS.append D P r).2.2 snap (recs ++ [r]) ∧ (PS.append D P r).2.1.safe.length = D.safe.length ∧ (PS.append D P r).2.2.T.pos = P.T.pos + 12 + r.length ∧ (PS.append D P r).2.2.T.lo = P.T.lo ∧ (PS.append D P r).2.2.T.hi = P.T.hi ∧ (PS.append D P r).2.2.half = P.half ∧
      ∀ k, k < D.safe.length → k < P.T.lo ∨ P.T.hi ≤ k → DS.look (PS.append D P r).2.1.safe (PS.append D P r).2.1.waits k = DS.look D.safe D.waits k := by
  obtain ⟨h1, h2, h3, h4, h5⟩ := h.tape.append hr hs
  have ho := h.tape.out hr hs
  have hl := TS.append_len D P.T r
  have hle := h.tape.ok.le
  have hlt := h.tape.ok.lt
  have e : PS.append D P r = ((TS.append D P.T r).1, (TS.append D P.T r).2.1, { P with T := (TS.append D P.T r).2.2 }) := by
    unfold PS.append
    rw [if_neg (by simp [h.sick])]
  rw [e]
  exact ⟨h1, h.move hl h3 h4 (fun i hi => ho i (by omega) (.inl hi)) h2, hl, h5, h3, h4, rfl, ho⟩
theorem Has.full (h : Has D P snap recs) {r : List UInt8} (hr : r.length ≤ 65536) (hs : P.T.size < P.T.pos + 12 + r.length) : PS.append D P r = (22, D, P) := by
  unfold PS.append
  rw [if_neg (by simp [h.sick]), h.tape.full hr hs]
theorem Has.long (h : Has D P snap recs) {b : List UInt8} (hb : hp D.safe.length ≤ takes b.length) : save D P b = (3, D, P) := by
  unfold save
  rw [if_pos hb]
theorem rootPage_len (h : Nat) : (rootPage h).length = 256 := by unfold rootPage; rw [List.length_cons, List.length_replicate]
theorem all_len' (b : List UInt8) : (framed b ++ List.replicate (takes b.length * 256 - 12 - b.length) 0).length = takes b.length * 256 := by
  rw [List.length_append, framed_len, List.length_replicate]
  unfold takes
  omega
set_option maxRecDepth 100000 in
/-- A save's raw work. -/
theorem lay_live (h : TS.Live D) {a hf : Nat} {b : List UInt8} (ha : 1 ≤ a) (hn : a + takes b.length + 1 ≤ D.safe.length) :
    (lay D a hf b).1 = 0 ∧ TS.Live (lay D a hf b).2 ∧ (lay D a hf b).2.safe.length = D.safe.length ∧
    ∀ k, k < D.safe.length → DS.look (lay D a hf b).2.safe (lay D a hf b).2.waits k =
      if k = 0 then rootPage hf else if a ≤ k ∧ k < a + takes b.length then (paged b).getD (k - a) [] else if k = a + takes b.length then List.replicate 256 0 else DS.look D.safe D.waits k := by
  have hpl : (paged b).length = takes b.length := by unfold paged TS.pagesOf; simp
  have hpg : ∀ p ∈ paged b, p.length = 256 := by
    intro p hp
    unfold paged TS.pagesOf at hp
    rw [List.mem_map] at hp
    obtain ⟨i, hi, rfl⟩ := hp
    rw [List.mem_range] at hi
    rw [List.length_take, List.length_drop, all_len']
    omega
  obtain ⟨a1, a2, a3, a4⟩ := TS.wr_live (paged b) D a h hpg (by rw [hpl]; omega)
  rw [hpl] at a4
  unfold lay
  simp only []
  generalize TS.wr D a (paged b) = X1 at *
  obtain ⟨e1, D1⟩ := X1
  simp only at a1 a2 a3 a4 ⊢
  subst a1
  rw [if_neg (by simp)]
  obtain ⟨b1, b2, b3, b4⟩ := TS.write_live a2 (a := a + takes b.length) (by rw [a3]; omega) (l := List.replicate 256 0) (List.length_replicate ..)
  generalize D1.write (a + takes b.length : Nat) (List.replicate 256 0) = X2 at *
  obtain ⟨e2, D2⟩ := X2
  simp only at b1 b2 b3 b4 ⊢
  subst b1
  rw [if_neg (by simp)]
  obtain ⟨c1, c2, c3, c4⟩ := TS.flush_live b2
  generalize D2.Flush = X3 at *
  obtain ⟨e3, D3⟩ := X3
  simp only at c1 c2 c3 c4 ⊢
  subst c1
  rw [if_neg (by simp)]
  have hl3 : D3.safe.length = D.safe.length := by rw [c3, b3, a3]
  obtain ⟨d1, d2, d3, d4⟩ := TS.write_live c2 (a := 0) (by rw [hl3]; omega) (l := rootPage hf) (rootPage_len hf)
  rw [show ((0 : Nat) : Int) = 0 from rfl] at d1 d2 d3 d4
  generalize D3.write 0 (rootPage hf) = X4 at *
  obtain ⟨e4, D4⟩ := X4
  simp only at d1 d2 d3 d4 ⊢
  subst d1
  rw [if_neg (by simp)]
  obtain ⟨f1, f2, f3, f4⟩ := TS.flush_live d2
  have hl5 : D4.Flush.2.safe.length = D.safe.length := by rw [f3, d3, hl3]
  refine ⟨f1, f2, hl5, fun k hk => ?_⟩
  rw [f4 k (by rw [d3, hl3]; exact hk), d4 k]
  by_cases h0 : k = 0
  · rw [if_pos h0.symm, if_pos h0]
  · rw [if_neg (fun e => h0 e.symm), if_neg h0, c4 k (by rw [b3, a3]; exact hk), b4 k]
    by_cases h1 : a + takes b.length = k
    · rw [if_pos h1, if_neg (by omega), if_pos h1.symm]
    · rw [if_neg h1, a4 k]
      by_cases h2 : a ≤ k ∧ k < a + takes b.length
      · rw [if_pos h2, if_pos h2]
      · rw [if_neg h2, if_neg h2, if_neg (fun e => h1 e.symm)]
set_option maxRecDepth 100000 in
/-- A save that fits. -/
theorem Has.save (h : Has D P snap recs) {b : List UInt8} (hb : b.length < 4294967296) (hK : takes b.length < hp D.safe.length) :
    (PS.save D P b).1 = 0 ∧ Has (PS.save D P b).2.1 (PS.save D P b).2.2 b [] ∧ (PS.save D P b).2.1.safe.length = D.safe.length ∧ (PS.save D P b).2.2.half = 1 - P.half ∧ (PS.save D P b).2.2.T.pos = 0 ∧ (PS.save D P b).2.2.T.size = 256 * (hp D.safe.length - takes b.length) ∧
      ∀ k, k < D.safe.length → k ≠ 0 → k < 1 + (1 - P.half) * hp D.safe.length ∨ 1 + (1 - P.half) * hp D.safe.length + hp D.safe.length ≤ k → DS.look (PS.save D P b).2.1.safe (PS.save D P b).2.1.waits k = DS.look D.safe D.waits k := by
  have hh : 1 - P.half ≤ 1 := by omega
  have hle := half_le h.n5 hh
  have htk : 1 ≤ takes b.length := by unfold takes; omega
  obtain ⟨a, ha⟩ : ∃ a, a = 1 + (1 - P.half) * hp D.safe.length := ⟨_, rfl⟩
  rw [← ha] at hle
  obtain ⟨l1, l2, l3, l4⟩ := lay_live h.live (a := a) (hf := 1 - P.half) (b := b) (by omega) (by omega)
  have hs : DS.look (lay D a (1 - P.half) b).2.safe (lay D a (1 - P.half) b).2.waits (a + takes b.length) = List.replicate 256 0 := by
    rw [l4 _ (by omega), if_neg (by omega), if_neg (by omega), if_pos rfl]
  have hon := TS.On.start l2 (lo := a + takes b.length) (hi := a + hp D.safe.length) (by omega) (by rw [l3]; exact hle) (by rw [hs]; rfl)
  have ho := hon.opn
  have e : PS.save D P b = (0, (lay D a (1 - P.half) b).2, ⟨1 - P.half, ⟨a + takes b.length, a + hp D.safe.length, 0, 0, 0⟩, 0⟩) := by
    unfold PS.save
    rw [if_neg (by omega), if_neg (by simp [h.sick])]
    simp only [← ha]
    rw [if_neg (by rw [l1]; simp), ho, if_neg (by simp)]
    rfl
  rw [e]
  have hho := hon.holds
  have hroot : DS.look (lay D a (1 - P.half) b).2.safe (lay D a (1 - P.half) b).2.waits 0 = rootPage (1 - P.half) := by rw [l4 0 (by have := h.n5; omega), if_pos rfl]
  refine ⟨rfl, ⟨by rw [l3]; exact h.n5, hh, rfl, ?_, ⟨takes b.length, ?_, htk, by rw [l3]; exact hK, by rw [l3]; show a + _ = _; rw [ha]⟩, by rw [l3]; show a + _ = _; rw [ha], hho⟩, l3, rfl, rfl, ?_, ?_⟩
  · show PS.root (PS.lay D a (1 - P.half) b).2 = 1 - P.half
    unfold PS.root
    rw [hroot]
    unfold rootPage
    have : 1 - P.half = 0 ∨ 1 - P.half = 1 := by omega
    rcases this with e | e <;> rw [e] <;> rfl
  · show PS.load (halfOf _ (1 - P.half)) _ = _
    rw [l3]
    refine load_all hb hK ?_
    unfold halfOf
    rw [l3, ← ha]
    apply List.ext_getElem?
    intro j
    rw [List.getElem?_take]
    by_cases hj : j < 256 * takes b.length
    · rw [if_pos hj, TS.stretch_get l2.ok (by rw [l3]; exact hle) (by omega), l4 _ (by omega), if_neg (by omega), if_pos (by omega)]
      unfold paged TS.pagesOf
      rw [List.getD_eq_getElem?_getD, List.getElem?_map, List.getElem?_range (by omega), Option.map_some, Option.getD_some, List.getElem?_take, if_pos (Nat.mod_lt _ (by decide)), List.getElem?_drop]
      congr 1
      omega
    · rw [if_neg hj, List.getElem?_eq_none (by rw [all_len']; omega)]
  · show (a + hp D.safe.length - (a + takes b.length)) * 256 = _
    rw [Nat.add_sub_add_left, Nat.mul_comm]
  · intro k hk h0 ho
    rw [← ha] at ho
    rw [l4 k hk, if_neg h0, if_neg (by omega), if_neg (by omega)]
/-- A new drum. -/
theorem Has.new {n : Nat} (h5 : 5 ≤ n) (hn : n ≤ 4096) : Has (DS.new n) ⟨0, ⟨2, 1 + hp n, 0, 0, 0⟩, 0⟩ [] [] := by
  have hl : (DS.new n).safe.length = n := by show (List.replicate n page0).length = n; rw [List.length_replicate]
  have h2 := hp_two h5
  have hon := TS.On.new (n := n) (lo := 2) (hi := 1 + hp n) (by omega) hn (by omega) (by omega)
  have hpg : ∀ k, k < n → DS.look (DS.new n).safe (DS.new n).waits k = page0 := fun k hk => DS.look_new n k hk
  refine ⟨by rw [hl]; exact h5, Nat.zero_le _, rfl, ?_, ⟨1, ?_, Nat.le_refl _, by rw [hl]; omega, by rw [hl]; simp⟩, by rw [hl]; simp, hon.holds⟩
  · unfold PS.root
    rw [hpg 0 (by omega)]
    rfl
  · unfold PS.load
    rw [if_pos]
    unfold halfOf
    rw [hl]
    apply List.ext_getElem?
    intro j
    rw [List.getElem?_take]
    by_cases hj : j < 12
    · rw [if_pos hj, TS.stretch_get hon.live.ok (by rw [hl]; simp only; omega) (by omega), hpg _ (by simp only; omega)]
      unfold page0
      rw [List.getElem?_replicate, List.getElem?_replicate, if_pos (by omega), if_pos hj]
    · rw [if_neg hj, List.getElem?_eq_none (by rw [List.length_replicate]; omega)]
end PS
end Go.Proofs.Ytoaeapnkefjpaaa

namespace Go.Proofs.Ytoaeapnkefjpaaa
open Go.RowKit
set_option linter.unusedVariables false
set_option linter.unusedSimpArgs false

theorem PS.lay_len (D : DS) (a h : Nat) (b : List UInt8) : (PS.lay D a h b).2.safe.length = D.safe.length := by
  unfold PS.lay
  simp only
  have h1 := TS.wr_len (PS.paged b) D a
  have h2 := DS.write_len (TS.wr D a (PS.paged b)).2 (a + PS.takes b.length : Nat) (List.replicate 256 0)
  have h3 := DS.Flush_len ((TS.wr D a (PS.paged b)).2.write (a + PS.takes b.length : Nat) (List.replicate 256 0)).2
  have h4 := DS.write_len ((TS.wr D a (PS.paged b)).2.write (a + PS.takes b.length : Nat) (List.replicate 256 0)).2.Flush.2 0 (PS.rootPage h)
  have h5 := DS.Flush_len (((TS.wr D a (PS.paged b)).2.write (a + PS.takes b.length : Nat) (List.replicate 256 0)).2.Flush.2.write 0 (PS.rootPage h)).2
  split
  · exact h1
  · split
    · exact h2.trans h1
    · split
      · exact h3.trans (h2.trans h1)
      · split
        · exact h4.trans (h3.trans (h2.trans h1))
        · exact h5.trans (h4.trans (h3.trans (h2.trans h1)))
theorem PS.save_len (D : DS) (P : PS) (b : List UInt8) : (PS.save D P b).2.1.safe.length = D.safe.length := by
  unfold PS.save
  split
  · rfl
  · split
    · rfl
    · have := PS.lay_len D (1 + (1 - P.half) * PS.hp D.safe.length) (1 - P.half) b
      simp only
      split
      · exact this
      · split
        · exact this
        · exact this
theorem PS.append_len (D : DS) (P : PS) (r : List UInt8) : (PS.append D P r).2.1.safe.length = D.safe.length := by
  unfold PS.append
  split
  · rfl
  · exact TS.append_len D P.T r
theorem PS.append_waits (D : DS) (P : PS) (r : List UInt8) : (PS.append D P r).2.1.waits.length ≤ D.waits.length + 400 := by
  unfold PS.append
  split
  · simp
  · exact TS.append_waits D P.T r
/-- Save, whatever is asked. -/
theorem psave_any (w : World) (q t p : Nat) (own : Nat → Prop) (P : PS) (D : DS) (v : Value) (b : List UInt8) (h : PairIn w q t p D.safe.length P) (hd : DrumAt w p own D) (hv : Sees w v b) (hb : b.length ≤ 1073741824) (hq : ¬ own q) (ht : ¬ own t) (hN : D.waits.length ≤ 700000000) :
    Calls Try.prog 42 #[.pointer (some ⟨q, 0, none⟩), v] w fun e w' => ∃ t', e = .returned (I (PS.save D P b).1) ∧ PairIn w' q t' p D.safe.length (PS.save D P b).2.2 ∧ (t' = t ∨ w.heap.size ≤ t') ∧ ∃ own', DrumAt w' p own' (PS.save D P b).2.1 ∧ (∀ j, own' j → own j ∨ w.heap.size ≤ j) ∧ ¬ own' t' ∧ Mod (fun j => own j ∨ j = q) w w' := by
  by_cases hno : PS.hp D.safe.length ≤ PS.takes b.length ∨ P.sick ≠ 0
  · refine (psave_no w q t p own P D v b h hd hv hb hno).mono ?_
    rintro e w' ⟨rfl, hb'⟩
    have e2 : (PS.save D P b).2 = (D, P) := by
      unfold PS.save
      by_cases h1 : PS.hp D.safe.length ≤ PS.takes b.length
      · rw [if_pos h1]
      · rw [if_neg h1, if_pos (hno.resolve_left h1)]
    rw [show (PS.save D P b).2.2 = P from by rw [e2], show (PS.save D P b).2.1 = D from by rw [e2]]
    exact ⟨t, rfl, h.below hb', .inl rfl, own, hd.below hb', fun j hj => .inl hj, ht, Mod.of_below _ hb'⟩
  · have h1 : PS.takes b.length < PS.hp D.safe.length := by omega
    have h2 : P.sick = 0 := by omega
    exact psave_yes w q t p own P D v b h hd hv hb hq ht h1 h2 hN
/-- A drum and a pair over it, newer than w0. -/
structure PSt (w0 : World) (own : Nat → Prop) (p q t : Nat) (P : PS) (D : DS) (w : World) : Prop where
  drum : St w0 own p D w
  pair : PairIn w q t p D.safe.length P
  nq : ¬ own q
  nt : ¬ own t
  qf : w0.heap.size ≤ q
section
variable {w0 w w' : World} {own : Nat → Prop} {p q t : Nat} {P : PS} {D : DS}
theorem PairIn.ql (h : PairIn w q t p D.safe.length P) : q < w.heap.size := (Array.getElem?_eq_some_iff.1 h.hq).1
theorem PSt.on (h : PSt w0 own p q t P D w) (hb : Below w.heap.size w w') : PSt w0 own p q t P D w' := ⟨h.drum.on hb, h.pair.below hb, h.nq, h.nt, h.qf⟩
theorem pst_open (h : St w0 own p D w) (h5 : 5 ≤ D.safe.length) :
    Calls Try.prog 38 #[.pointer (some ⟨p, 0, none⟩)] w fun e w' =>
      ((PS.open_ D).1 ≠ 0 ∧ e = .returned (.tuple #[.pointer none, .slice none 0 0, .slice none 0 0, I (PS.open_ D).1]) ∧ Below w.heap.size w w') ∨
      ((PS.open_ D).1 = 0 ∧ ∃ q t vb vl, e = .returned (.tuple #[.pointer (some ⟨q, 0, none⟩), vb, vl, I 0]) ∧ PSt w0 own p q t (PS.open_ D).2.2.2 D w' ∧ w.heap.size ≤ q ∧ Part w' (q + 1) vb (PS.open_ D).2.1 ∧ Recs w' (t + 1) vl (PS.open_ D).2.2.1 ∧ Below w.heap.size w w') := by
  refine (pair_open w p own D h.at' h5).mono fun e w' hx => ?_
  rcases hx with ⟨h1, h2, h3⟩ | ⟨h1, q, t, vb, vl, h2, h3, h4, h5', h6, h7⟩
  · exact .inl ⟨h1, h2, h3⟩
  · have hlt := h3.lt
    exact .inr ⟨h1, q, t, vb, vl, h2, ⟨h.on h7, h3, fun e => by have := h.at'.lt q e; omega, fun e => by have := h.at'.lt t e; omega, Nat.le_trans h.below.size h4⟩, h4, h5', h6, h7⟩
/-- An opening of which it is known what it comes to. -/
theorem pst_open_has {snap : List UInt8} {recs : List (List UInt8)} (h : St w0 own p D w) (hh : PS.Has D P snap recs) :
    Calls Try.prog 38 #[.pointer (some ⟨p, 0, none⟩)] w fun e w' => ∃ q t vb vl, e = .returned (.tuple #[.pointer (some ⟨q, 0, none⟩), vb, vl, I 0]) ∧ PSt w0 own p q t P D w' ∧ w.heap.size ≤ q ∧ Part w' (q + 1) vb snap ∧ Recs w' (t + 1) vl recs ∧ Below w.heap.size w w' := by
  have ho := hh.open
  have h1 := pst_open h hh.n5
  rw [ho] at h1
  refine h1.mono fun e w' hx => ?_
  rcases hx with ⟨h1, -⟩ | ⟨-, q, t, vb, vl, h2⟩
  · exact absurd rfl h1
  · exact ⟨q, t, vb, vl, h2⟩
theorem pst_append (h : PSt w0 own p q t P D w) {v : Value} {r : List UInt8} (hv : Sees w v r) (hN : D.waits.length ≤ 800000000) :
    Calls Try.prog 40 #[.pointer (some ⟨q, 0, none⟩), v] w fun e w' => e = .returned (I (PS.append D P r).1) ∧ ∃ own', PSt w0 own' p q t (PS.append D P r).2.2 (PS.append D P r).2.1 w' ∧ (∀ k, own' k → own k ∨ w.heap.size ≤ k) ∧ Mod (fun k => own k ∨ k = t) w w' := by
  refine (pair_append w q t p own P D v r h.pair h.drum.at' h.nq h.nt hv hN).mono fun e w' hx => ?_
  obtain ⟨h1, h2, own', h3, h4, h5⟩ := hx
  have hql := h.pair.ql
  have htl := h.pair.tape.lt
  have hqt := h.pair.lt
  have hqf := h.qf
  refine ⟨h1, own', ⟨⟨h3, fun k hk => ?_, h.drum.below.trans (h5.below h.drum.below.size (fun i hi ho => ?_))⟩, by rw [PS.append_len]; exact h2, fun e => ?_, fun e => ?_, h.qf⟩, h4, h5⟩
  · rcases h4 k hk with h' | h'
    · exact h.drum.fresh k h'
    · exact Nat.le_trans h.drum.below.size h'
  · rcases ho with ho | ho
    · have := h.drum.fresh i ho; omega
    · omega
  · exact (h4 q e).elim h.nq (fun h => by omega)
  · exact (h4 t e).elim h.nt (fun h => by omega)
theorem pst_save (h : PSt w0 own p q t P D w) {v : Value} {b : List UInt8} (hv : Sees w v b) (hb : b.length ≤ 1073741824) (hN : D.waits.length ≤ 700000000) :
    Calls Try.prog 42 #[.pointer (some ⟨q, 0, none⟩), v] w fun e w' => e = .returned (I (PS.save D P b).1) ∧ ∃ t' own', PSt w0 own' p q t' (PS.save D P b).2.2 (PS.save D P b).2.1 w' ∧ (t' = t ∨ w.heap.size ≤ t') ∧ (∀ k, own' k → own k ∨ w.heap.size ≤ k) ∧ Mod (fun k => own k ∨ k = q) w w' := by
  refine (psave_any w q t p own P D v b h.pair h.drum.at' hv hb h.nq h.nt hN).mono fun e w' hx => ?_
  obtain ⟨t', h1, h2, ht, own', h3, h4, h4', h5⟩ := hx
  have hql := h.pair.ql
  have hqf := h.qf
  refine ⟨h1, t', own', ⟨⟨h3, fun k hk => ?_, h.drum.below.trans (h5.below h.drum.below.size (fun i hi ho => ?_))⟩, by rw [PS.save_len]; exact h2, fun e => ?_, h4', h.qf⟩, ht, h4, h5⟩
  · rcases h4 k hk with h' | h'
    · exact h.drum.fresh k h'
    · exact Nat.le_trans h.drum.below.size h'
  · rcases ho with ho | ho
    · have := h.drum.fresh i ho; omega
    · omega
  · exact (h4 q e).elim h.nq (fun h => by omega)
end
namespace Wk5
def D0 : DS := DS.new 9
def P0 : PS := ⟨0, ⟨2, 5, 0, 0, 0⟩, 0⟩
def hi2 : List UInt8 := [104, 105]
def X1 : Int × DS × PS := PS.save D0 P0 hi2
def D1 : DS := X1.2.1
def P1 : PS := X1.2.2
def G1 : List UInt8 := (D1.read 5).2
set_option maxRecDepth 100000
theorem has0 : PS.Has D0 P0 [] [] := PS.Has.new (n := 9) (by decide) (by decide)
theorem x1 : X1.1 = 0 := (has0.save (b := hi2) (by decide) (by decide)).1
theorem has1 : PS.Has D1 P1 hi2 [] := (has0.save (b := hi2) (by decide) (by decide)).2.1
theorem len1' : D1.safe.length = 9 := (has0.save (b := hi2) (by decide) (by decide)).2.2.1
theorem ops1 : D1.ops = 5 := by kernel_rfl
theorem waits1 : D1.waits.length = 0 := by kernel_rfl
theorem rd1 : (D1.read 5).1 = 0 := by kernel_rfl
theorem len1 : G1.length = 256 := by kernel_rfl
theorem frame1 : G1.take 14 = PS.framed hi2 := by kernel_rfl
end Wk5
end Go.Proofs.Ytoaeapnkefjpaaa
