/-
  Part 8 of what PairDoes lean on: contracts of the functions that they reach, and plain lemmas. Conditions: those that each lemma names.
-/
import Derived.Test.YtoaeapnkefjpaaaRows
import Derived.WalkKit
import Derived.ProofKit
import Derived.OpenShut
import Derived.ShutString
import Derived.ChangeOld
import Derived.Below
import Derived.Deep.Slices
import Derived.SizedLaws
import Derived.Test.YtoaeapnkefjpaaaPX7
import Derived.Test.YtoaeapnkefjpaaaPX1
import Derived.Test.YtoaeapnkefjpaaaPX3
namespace Go.Proofs.Ytoaeapnkefjpaaa
open Go.RowKit
set_option linter.unusedVariables false
set_option linter.unusedSimpArgs false
theorem ptr_nil5 (ty : TypeId) (hty : ty = 44 ∨ ty = 49) (v : Value) (h : v = .pointer none ∨ ∃ t, v = .pointer (some ⟨t, 0, none⟩)) (b : Bool) (hb : b = true ↔ v = .pointer none) (x y : Operand) (w : World) :
    (eqGuard BinOp.eql ty x y v (.pointer none)).run Try.prog w = .ok () w ∧ (binOp BinOp.eql ty v (.pointer none)).run Try.prog w = .ok (.bool b) w := by
  rcases hty with rfl | rfl <;> rcases h with rfl | ⟨t, rfl⟩
  · obtain rfl : b = true := hb.2 rfl
    constructor <;> go_simp
  · obtain rfl : b = false := by cases b with | false => rfl | true => exact absurd (hb.1 rfl) (by simp)
    constructor <;> go_simp
  · obtain rfl : b = true := hb.2 rfl
    constructor <;> go_simp
  · obtain rfl : b = false := by cases b with | false => rfl | true => exact absurd (hb.1 rfl) (by simp)
    constructor <;> go_simp
theorem nil_both5 {X : Int} {tv uv : Value} {F G : Nat → Prop} (ht : (X ≠ 0 ∧ tv = .pointer none) ∨ (X = 0 ∧ ∃ t, tv = .pointer (some ⟨t, 0, none⟩) ∧ F t)) (hu : (X ≠ 0 ∧ uv = .pointer none) ∨ (X = 0 ∧ ∃ t, uv = .pointer (some ⟨t, 0, none⟩) ∧ G t)) :
    ∃ bn : Bool, ((tv = .pointer none ∨ ∃ t, tv = .pointer (some ⟨t, 0, none⟩)) ∧ (bn = true ↔ tv = .pointer none)) ∧ ((uv = .pointer none ∨ ∃ t, uv = .pointer (some ⟨t, 0, none⟩)) ∧ (bn = true ↔ uv = .pointer none)) := by
  refine ⟨decide (X ≠ 0), ?_, ?_⟩
  · rcases ht with ⟨h1, rfl⟩ | ⟨h1, t, rfl, -⟩
    · exact ⟨.inl rfl, by rw [decide_eq_true h1]; simp⟩
    · exact ⟨.inr ⟨t, rfl⟩, by simp [h1]⟩
  · rcases hu with ⟨h1, rfl⟩ | ⟨h1, t, rfl, -⟩
    · exact ⟨.inl rfl, by rw [decide_eq_true h1]; simp⟩
    · exact ⟨.inr ⟨t, rfl⟩, by simp [h1]⟩
/-- Whether both are nil, told of the two pairs themselves. -/
theorem Pairs.nils {w0 w : World} {od om : Nat → Prop} {p pm n : Nat} {P : PS} {pv qv : Value} (h : Pairs w0 w od om p pm n P pv qv) : ∃ bn : Bool, ((pv = .pointer none ∨ ∃ t, pv = .pointer (some ⟨t, 0, none⟩)) ∧ (bn = true ↔ pv = .pointer none)) ∧ ((qv = .pointer none ∨ ∃ t, qv = .pointer (some ⟨t, 0, none⟩)) ∧ (bn = true ↔ qv = .pointer none)) := by
  rcases h with ⟨rfl, rfl⟩ | ⟨q, t, u, s, rfl, rfl, -⟩
  · exact ⟨true, ⟨.inl rfl, by simp⟩, ⟨.inl rfl, by simp⟩⟩
  · exact ⟨false, ⟨.inr ⟨q, rfl⟩, by simp⟩, ⟨.inr ⟨u, rfl⟩, by simp⟩⟩
theorem own_type {w : World} {base n g cap : Nat} {xs : List Value} (h : w.ownsRow base 5 1 (.slice (some ⟨g, 0, none⟩) n cap) n xs) : ∃ cs fr, w.heap[g]? = some (.cells cs 5 fr) := by
  rcases h.2 with ⟨h4, -⟩ | ⟨g', cp, cur, hv, -, hg, -⟩
  · cases h4
  · simp only [Value.slice.injEq, Option.some.injEq, Addr.mk.injEq] at hv
    obtain ⟨⟨rfl, -, -⟩, -, -⟩ := hv
    exact ⟨cur, _, hg⟩
theorem ne_type {w : World} {g x : Nat} {cs : Array Value} {ty : TypeId} {f : Nat × Nat} (hg : ∃ cs fr, w.heap[g]? = some (.cells cs 5 fr)) (hx : w.heap[x]? = some (.cells cs ty f)) (hne : ty ≠ 5) : x ≠ g := fun e => by
  subst e
  obtain ⟨c2, f2, hg⟩ := hg
  rw [hx] at hg
  simp only [Option.some.injEq, Obj.cells.injEq] at hg
  exact hne hg.2.1
theorem PD.modg {w wr wx : World} {p pm n g j : Nat} {od om : Nat → Prop} {D : DS} {P : PS} {pv qv : Value} (h : PD w wr p pm n od om D P pv qv j) (hm : Mod (fun k => k = g) wr wx) (hg : ¬ od g ∧ ¬ om g) (hz : w.heap.size ≤ g) (ht : ∃ cs fr, wr.heap[g]? = some (.cells cs 5 fr)) : PD w wx p pm n od om D P pv qv j := by
  refine ⟨h.both.mod hm hg.1 hg.2 hz, ?_, h.len, h.waits⟩
  rcases h.pairs with h1 | ⟨q, t, u, s, h1, h2, h3⟩
  · exact .inl h1
  · exact .inr ⟨q, t, u, s, h1, h2, h3.a.keep (hm.block q (Array.getElem?_eq_some_iff.1 h3.a.hq).1 (ne_type ht h3.a.hq (by decide))) (hm.block t h3.a.tape.lt (ne_type ht h3.a.tape.ht (by decide))), h3.b.keep (hm.block u h3.b.ql (ne_type ht h3.b.hq (by decide))) (hm.block s h3.b.tape.lt (ne_type ht h3.b.tape.ht (by decide))), h3.fq, h3.ft, h3.fu, h3.fs, h3.d1, h3.d2, h3.d3, h3.d4, h3.zq, h3.zu, h3.zs⟩
set_option maxRecDepth 100000 in
set_option maxHeartbeats 40000000 in
theorem pdoes_walk (w : World) (n0 : Int) (hn0 : -9223372036854775808 ≤ n0 ∧ n0 ≤ 9223372036854775807) (a1 : Option Addr) (cap : Nat) (L : List Cl) (hs : IsScr w a1 L) (hok : ScrOk L) :
    Calls Try.prog 9 #[I n0, .slice a1 L.length cap] w fun e w' => e = .returned (.bool true) ∧ Below w.heap.size w w' := by
  have HS := hid hs
  have HOK := hid hok
  have hll := hok.l
  clear hs hok
  by_cases h40 : 40 < n0
  · have f1 : decide ((40 : Int) < n0) = true := decide_eq_true h40
    go_enter Try.func9, Try.ntmps9
    go_wp2_with (go_at_call 34; refine (wakes5_any _).mono ?_; rintro e w1 ⟨rfl, hb⟩; have HB := hid hb; clear hb)
    go_ret
    exact ⟨rfl, HB.out⟩
  have f1 : decide ((40 : Int) < n0) = false := decide_eq_false h40
  obtain ⟨D0, hD0⟩ : ∃ D0, D0 = DS.new (DS.clamp n0) := ⟨_, rfl⟩
  have HD0 := hid hD0
  have hw0 : D0.waits.length = 0 := by rw [hD0]; rfl
  have HW0 := hid hw0
  clear hD0 hw0
  go_enter Try.func9, Try.ntmps9
  go_wp2_with (go_at_call 34; refine (wakes5_any _).mono ?_; rintro e w1 ⟨rfl, hb⟩; have HB1 := hid hb; clear hb)
  refine (plong_any w1 a1 cap L (HS.out.below HB1.out) HOK.out).mono ?_
  rintro e w2 ⟨b, rfl, hbf, hb⟩
  have HB2 := hid (HB1.out.trans (hb.mono HB1.out.size))
  cases b with
  | true =>
    clear hb hbf
    go_wp2_with fail
    go_ret
    exact ⟨rfl, HB2.out⟩
  | false =>
  obtain ⟨l2, l4⟩ := hbf rfl
  have HL4 := hid l4
  clear hb hbf HB1 l4
  go_wp2_with (go_at_call 36; refine (st_new _ n0 hn0).mono ?_; rw [← HD0.out]; rintro e w3 ⟨p, od, rfl, h⟩; have H := hid (h.back HB2.out); clear h)
  refine (rnew_any _ n0 hn0).mono ?_
  rw [← HD0.out]
  rintro e w4 ⟨pm, om, rfl, h1, h2, h3⟩
  have HBO := hid (both_new H.out h1 h2 h3)
  clear h1 h2 h3 H HB2
  go_wp2_with fail
  refine (both_popen HBO.out).mono ?_
  rintro e w5 ⟨pv, vb, vl, rfl, hb5, hs5, hl5, ht5⟩
  obtain ⟨avb, cvb, rfl, -⟩ := hs5.form0
  obtain ⟨avl, cvl, rfl, -⟩ := hl5.len
  have HB5 := hid hb5
  have HT5 := hid ht5
  clear hb5 hs5 hl5 ht5
  go_wp2_with fail
  refine (both_ropen5 (HBO.out.on HB5.out)).mono ?_
  rintro e w6 ⟨qv, vb6, vl6, rfl, hb6, hs6, hl6, ht6⟩
  obtain ⟨avb6, cvb6, rfl, -⟩ := hs6.form0
  obtain ⟨avl6, cvl6, rfl, -⟩ := hl6.len
  have HPD : Hid (PD w w6 p pm D0.safe.length od om D0 (PS.open_ D0).2.2.2 pv qv 0) := hid ⟨HBO.out.on (HB5.out.trans (hb6.mono HB5.out.size)), Pairs.opened HBO.out HB5.out hb6 HT5.out ht6, rfl, by rw [HW0.out]; omega⟩
  obtain ⟨bn, hq1, hq2⟩ := nil_both5 HT5.out ht6
  have g1 := fun w' => (ptr_nil5 44 (.inl rfl) pv hq1.1 bn hq1.2 (.tmp 57) (.const (.pointer none)) w').1
  have g2 := fun w' => (ptr_nil5 44 (.inl rfl) pv hq1.1 bn hq1.2 (.tmp 57) (.const (.pointer none)) w').2
  have g3 := fun w' => (ptr_nil5 49 (.inr rfl) qv hq2.1 bn hq2.2 (.tmp 59) (.const (.pointer none)) w').1
  have g4 := fun w' => (ptr_nil5 49 (.inr rfl) qv hq2.1 bn hq2.2 (.tmp 59) (.const (.pointer none)) w').2
  clear hb6 hs6 hl6 ht6 HB5 HT5 hq1 hq2 HBO HD0 HW0
  go_wp2_with fail
  clear g1 g2 g3 g4 f1
  generalize hnn : D0.safe.length = n at *
  clear hnn
  generalize (PS.open_ D0).2.2.2 = P0 at *
  go_loopw [7, 11, 65] (fun pv qv i wr => ∃ (j : Nat) (od om : Nat → Prop) (D : DS) (P : PS), j ≤ L.length ∧ i = I j ∧ Hid (PD w wr p pm n od om D P pv qv j)) (fun _ _ i _ => L.length - (intOf i).toNat)
  case atStart => exact ⟨0, od, om, D0, P0, by omega, rfl, HPD⟩
  case round =>
    clear HPD
    obtain ⟨j, od, om, D, P, hj, rfl, HT⟩ := hrel
    by_cases hlt : j < L.length
    rotate_left
    · have f1 : decide ((j : Int) < (L.length : Int)) = false := decide_eq_false (by omega)
      have HBW := hid HT.out.both.below
      go_wp2_with (first | (go_at_call 38; refine (popen_nil _).mono ?_; rintro e wz ⟨rfl, hb⟩; have HBZ := hid (HBW.out.trans (hb.mono HBW.out.size)); clear hb HBW) | (go_at_call 40; refine (pair_append_nil _ _).mono ?_; rintro e wy ⟨rfl, rfl⟩) | (go_at_call 42; refine (psave_nil _ none 0 0).mono ?_; rintro e wv ⟨rfl, hb⟩; have HBV := hid (HBZ.out.trans (hb.mono HBZ.out.size)); clear hb HBZ) | (go_at_call 54; refine (pair_count_nil _).mono ?_; rintro e wx ⟨rfl, rfl⟩))
      go_ret
      exact ⟨rfl, HBV.out⟩
    · have f1 : decide ((j : Int) < (L.length : Int)) = true := decide_eq_true (by omega)
      obtain ⟨x, hx⟩ : ∃ x, L[j]? = some x := ⟨_, List.getElem?_eq_getElem hlt⟩
      obtain ⟨g, off, rfl, hc0⟩ := HS.out (by omega)
      have hc := hc0 j x hx
      obtain ⟨e0', e1', e2', u, e3', hu0⟩ := hc
      have e0 := cell_on HT.out.both.below e0'
      have e1 := cell_on HT.out.both.below e1'
      have e2 := cell_on HT.out.both.below e2'
      have e3 := cell_on HT.out.both.below e3'
      have hu := hu0.below HT.out.both.below
      have hxn := HOK.out.n x (List.mem_of_getElem? hx)
      have hxj := HOK.out.k x (List.mem_of_getElem? hx)
      have hxb := HL4.out x (List.mem_of_getElem? hx)
      obtain ⟨xk, xn, xj, xb⟩ := x
      simp only at e0 e1 e2 hu hxb hxn hxj
      obtain ⟨au, cu, rfl, hul⟩ := hu.form0
      have hba : Below wr.heap.size wr (wr.alloc (.cells #[I xk, I xn, I xj, .slice au xb.length cu] 53)) := (Below.refl _ _).alloc (Nat.le_refl _) _
      have HTA := hid (HT.out.on hba)
      have HU := hid (hu.below hba)
      have HU3 : Hid (Sees w (.slice au xb.length cu) xb) := hid hu0
      have HC : Hid (Held od om (wr.alloc (.cells #[I xk, I xn, I xj, .slice au xb.length cu] 53)) wr.heap.size (.cells #[I xk, I xn, I xj, .slice au xb.length cu] 53 (0, 0))) := hid ⟨heap_alloc_new _ _, fun hk => by have := HT.out.both.d.lt _ hk; omega, fun hk => by have := HT.out.both.m.lt _ hk; omega⟩
      have hbl : w.heap.size ≤ wr.heap.size := HT.out.both.below.size
      have hkk : xk = 0 ∨ xk = 1 ∨ xk = 2 ∨ xk = 3 ∨ xk = 4 ∨ xk = 5 ∨ xk = 6 ∨ ((xk == 0) = false ∧ (xk == 1) = false ∧ (xk == 2) = false ∧ (xk == 3) = false ∧ (xk == 4) = false ∧ (xk == 5) = false ∧ (xk == 6) = false) := by
        simp only [beq_eq_false_iff_ne]; omega
      clear hc0 hu hu0 hx hba HT e0' e1' e2' e3'
      rcases hkk with rfl | rfl | rfl | rfl | rfl | rfl | rfl | ⟨q0, q1, q2, q3, q4, q5, q6⟩
      -- 0: a record
      · as_aux_lemma =>
          obtain ⟨wa, hwa⟩ : ∃ wa, wa = wr.alloc (.cells #[I 0, I xn, I xj, .slice au xb.length cu] 53) := ⟨_, rfl⟩
          obtain ⟨bc, hbc⟩ : ∃ bc, bc = wr.heap.size := ⟨_, rfl⟩
          rw [← hwa] at HTA HU HC
          rw [← hbc] at HC hbl
          go_upto_region 16 with (fail)
          rw [← hwa, ← hbc]
          clear e0 e1 e2 e3 hwa hbc
          rcases HTA.out.pairs with ⟨rfl, rfl⟩ | ⟨q, t, u, s, rfl, rfl, -⟩
          · have HTZ := hid (HTA.out.nj (Nat.le_succ j))
            clear HTA HU HC
            go_upto_region 51 with (fail)
            generalize wa = wz at *
            go_wp2_with (first | (go_at_call 55; refine HTZ.out.same.mono ?_; rintro e w8 ⟨rfl, htd, -⟩; have HT8 := hid htd; clear htd) | (go_at_call 54; refine (pair_count_nil _).mono ?_; rintro e wx ⟨rfl, rfl⟩))
            go_roundw
            case rel => exact ⟨j + 1, _, _, _, _, by omega, by go_num, HT8⟩
            case measure => simp [intOf]; omega
          go_upto_region 17 with (fail)
          have HTd := hid (HTA.out.on (Ext.drew wa))
          have HCd : Hid (Held od om wa.drew bc (.cells #[I 0, I xn, I xj, .slice au xb.length cu] 53 (0, 0))) := hid (HC.out.on (Ext.drew wa))
          have k3 : ∀ w', KeepAt bc wa.drew w' → w'.cell? ⟨bc, 3, none⟩ = some (.slice au xb.length cu) := fun w' hh => by rw [cell_of_row _ _ _ _ _ _ (hh.1.trans HC.out.1)]; rfl
          have happ := HTd.out.append (HU.out.below (Ext.drew wa)) HU3.out (by omega)
          refine wp_region_order (KeepAt bc) [] [(0,0),(1,0),(2,0),(4,0),(5,0),(6,0),(3,1),(7,1),(8,0),(9,0)] _ (by kernel_rfl) rfl KeepAt.refl KeepAt.trans (by kernel_rfl) (by simp only [pick, List.getElem?_toArray, List.getElem?_cons_zero, List.getElem?_cons_succ]; rfl) (fun c a d v w h => by cases d <;> exact h) ?_
          refine wpK_q (v := ?_) (a' := ?_) (by rfl) (fun w' hR => ?_) ?_ ?_
          rotate_left 2
          · go_simp; with_reducible rfl
          · simp only [Act.put, List.setIfInBounds_toArray, List.set_cons_zero, List.set_cons_succ]; rfl
          refine wpK_q (v := ?_) (a' := ?_) (by rfl) (fun w' hR => ?_) ?_ ?_
          rotate_left 2
          · go_simp; with_reducible rfl
          · simp only [Act.put, List.setIfInBounds_toArray, List.set_cons_zero, List.set_cons_succ]; rfl
          refine wpK_q (v := ?_) (a' := ?_) (by rfl) (fun w' hR => ?_) ?_ ?_
          rotate_left 2
          · go_simp; with_reducible rfl
          · simp only [Act.put, List.setIfInBounds_toArray, List.set_cons_zero, List.set_cons_succ]; rfl
          refine wpK_q (v := ?_) (a' := ?_) (by rfl) (fun w' hR => ?_) ?_ ?_
          rotate_left 2
          · go_simp; with_reducible rfl
          · simp only [Act.put, List.setIfInBounds_toArray, List.set_cons_zero, List.set_cons_succ]; rfl
          refine wpK_q (v := ?_) (a' := ?_) (by rfl) (fun w' hR => ?_) ?_ ?_
          rotate_left 2
          · go_simp; with_reducible rfl
          · simp only [Act.put, List.setIfInBounds_toArray, List.set_cons_zero, List.set_cons_succ]; rfl
          refine wpK_q (v := ?_) (a' := ?_) (by rfl) (fun w' hR => ?_) ?_ ?_
          rotate_left 2
          · go_simp; with_reducible rfl
          · simp only [Act.put, List.setIfInBounds_toArray, List.set_cons_zero, List.set_cons_succ]; rfl
          refine wpK_call Try.func40 (by kernel_rfl) rfl rfl (by rfl) #[.pointer (some ⟨q, 0, none⟩), .slice au xb.length cu] (by simp only [List.map_toArray, List.map_cons, List.map_nil]; rfl) ?_
          refine happ.mono ?_
          rintro e w2 ⟨rfl, hst, hsz, hnx⟩
          refine ⟨_, rfl, fun _ => ⟨(hst bc _ _ (by decide) (by decide) (by decide) (by decide) HCd.out).trans HCd.out.1.symm, hsz⟩, ?_⟩
          refine wpK_call Try.func41 (by kernel_rfl) rfl rfl (by rfl) #[.pointer (some ⟨u, 0, none⟩), .slice au xb.length cu] (by simp only [List.map_toArray, List.map_cons, List.map_nil]; rfl) ?_
          refine hnx.mono ?_
          rintro e w3 ⟨rfl, hst2, hsz2, od2, om2, D2, P2, htd⟩
          refine ⟨_, rfl, fun _ => ⟨(hst2 bc _ _ (by decide) (by decide) (by decide) (by decide) HCd.out).trans (hst bc _ _ (by decide) (by decide) (by decide) (by decide) HCd.out).symm, hsz2⟩, ?_⟩
          refine wpK_q (v := ?_) (a' := ?_) (by rfl) (fun w' hR => ?_) ?_ ?_
          rotate_left 2
          · go_simp; with_reducible rfl
          · simp only [Act.put, List.setIfInBounds_toArray, List.set_cons_zero, List.set_cons_succ]; rfl
          refine wpK_q (v := ?_) (a' := ?_) (by rfl) (fun w' hR => ?_) ?_ ?_
          rotate_left 2
          · go_simp; with_reducible rfl
          · simp only [Act.put, List.setIfInBounds_toArray, List.set_cons_zero, List.set_cons_succ]; rfl
          refine wpK_done ?_
          have HTZ := hid htd
          clear k3 happ hst hsz hst2 hsz2 htd HTA HU HC HTd HCd
          generalize w3 = wz at *
          go_upto_region 51 with (fail)
          generalize (Value.pointer (some ⟨q, 0, none⟩)) = pv0 at *
          generalize (Value.pointer (some ⟨u, 0, none⟩)) = qv0 at *
          rcases HTZ.out.pairs with ⟨rfl, rfl⟩ | ⟨q, t, u, s, rfl, rfl, hpp⟩
          · go_wp2_with (first | (go_at_call 55; refine HTZ.out.same.mono ?_; rintro e w8 ⟨rfl, htd, -⟩; have HT8 := hid htd; clear htd) | (go_at_call 54; refine (pair_count_nil _).mono ?_; rintro e wx ⟨rfl, rfl⟩))
            go_roundw
            case rel => exact ⟨j + 1, _, _, _, _, by omega, by go_num, HT8⟩
            case measure => simp [intOf]; omega
          · have d2 := hpp.b.c2
            have d4 := hpp.b.tape.c4
            have HCN := hid (pair_count _ q t p _ _ hpp.a)
            clear hpp
            go_wp2_with (first | (go_at_call 55; refine HTZ.out.same.mono ?_; rintro e w8 ⟨rfl, htd, -⟩; have HT8 := hid htd; clear htd) | (go_at_call 54; refine HCN.out.mono ?_; rintro e wx ⟨rfl, rfl⟩))
            go_roundw
            case rel => exact ⟨j + 1, _, _, _, _, by omega, by go_num, HT8⟩
            case measure => simp [intOf]; omega
      -- 1: a snapshot
      · as_aux_lemma =>
          obtain ⟨wa, hwa⟩ : ∃ wa, wa = wr.alloc (.cells #[I 1, I xn, I xj, .slice au xb.length cu] 53) := ⟨_, rfl⟩
          obtain ⟨bc, hbc⟩ : ∃ bc, bc = wr.heap.size := ⟨_, rfl⟩
          rw [← hwa] at HTA HU HC
          rw [← hbc] at HC hbl
          go_upto_region 19 with (fail)
          rw [← hwa, ← hbc]
          clear e0 e1 e2 e3 hwa hbc
          rcases HTA.out.pairs with ⟨rfl, rfl⟩ | ⟨q, t, u, s, rfl, rfl, -⟩
          · have HTZ := hid (HTA.out.nj (Nat.le_succ j))
            clear HTA HU HC
            go_upto_region 51 with (fail)
            generalize wa = wz at *
            go_wp2_with (first | (go_at_call 55; refine HTZ.out.same.mono ?_; rintro e w8 ⟨rfl, htd, -⟩; have HT8 := hid htd; clear htd) | (go_at_call 54; refine (pair_count_nil _).mono ?_; rintro e wx ⟨rfl, rfl⟩))
            go_roundw
            case rel => exact ⟨j + 1, _, _, _, _, by omega, by go_num, HT8⟩
            case measure => simp [intOf]; omega
          go_upto_region 20 with (fail)
          have HTd := hid (HTA.out.on (Ext.drew wa))
          have HCd : Hid (Held od om wa.drew bc (.cells #[I 1, I xn, I xj, .slice au xb.length cu] 53 (0, 0))) := hid (HC.out.on (Ext.drew wa))
          have k3 : ∀ w', KeepAt bc wa.drew w' → w'.cell? ⟨bc, 3, none⟩ = some (.slice au xb.length cu) := fun w' hh => by rw [cell_of_row _ _ _ _ _ _ (hh.1.trans HC.out.1)]; rfl
          have happ := HTd.out.save (HU.out.below (Ext.drew wa)) HU3.out (by omega) (by omega)
          refine wp_region_order (KeepAt bc) [] [(0,0),(1,0),(2,0),(4,0),(5,0),(6,0),(3,1),(7,1),(8,0),(9,0)] _ (by kernel_rfl) rfl KeepAt.refl KeepAt.trans (by kernel_rfl) (by simp only [pick, List.getElem?_toArray, List.getElem?_cons_zero, List.getElem?_cons_succ]; rfl) (fun c a d v w h => by cases d <;> exact h) ?_
          refine wpK_q (v := ?_) (a' := ?_) (by rfl) (fun w' hR => ?_) ?_ ?_
          rotate_left 2
          · go_simp; with_reducible rfl
          · simp only [Act.put, List.setIfInBounds_toArray, List.set_cons_zero, List.set_cons_succ]; rfl
          refine wpK_q (v := ?_) (a' := ?_) (by rfl) (fun w' hR => ?_) ?_ ?_
          rotate_left 2
          · go_simp; with_reducible rfl
          · simp only [Act.put, List.setIfInBounds_toArray, List.set_cons_zero, List.set_cons_succ]; rfl
          refine wpK_q (v := ?_) (a' := ?_) (by rfl) (fun w' hR => ?_) ?_ ?_
          rotate_left 2
          · go_simp; with_reducible rfl
          · simp only [Act.put, List.setIfInBounds_toArray, List.set_cons_zero, List.set_cons_succ]; rfl
          refine wpK_q (v := ?_) (a' := ?_) (by rfl) (fun w' hR => ?_) ?_ ?_
          rotate_left 2
          · go_simp; with_reducible rfl
          · simp only [Act.put, List.setIfInBounds_toArray, List.set_cons_zero, List.set_cons_succ]; rfl
          refine wpK_q (v := ?_) (a' := ?_) (by rfl) (fun w' hR => ?_) ?_ ?_
          rotate_left 2
          · go_simp; with_reducible rfl
          · simp only [Act.put, List.setIfInBounds_toArray, List.set_cons_zero, List.set_cons_succ]; rfl
          refine wpK_q (v := ?_) (a' := ?_) (by rfl) (fun w' hR => ?_) ?_ ?_
          rotate_left 2
          · go_simp; with_reducible rfl
          · simp only [Act.put, List.setIfInBounds_toArray, List.set_cons_zero, List.set_cons_succ]; rfl
          refine wpK_call Try.func42 (by kernel_rfl) rfl rfl (by rfl) #[.pointer (some ⟨q, 0, none⟩), .slice au xb.length cu] (by simp only [List.map_toArray, List.map_cons, List.map_nil]; rfl) ?_
          refine happ.mono ?_
          rintro e w2 ⟨rfl, hst, hsz, hnx⟩
          refine ⟨_, rfl, fun _ => ⟨(hst bc _ _ (by decide) (by decide) (by decide) (by decide) HCd.out).trans HCd.out.1.symm, hsz⟩, ?_⟩
          refine wpK_call Try.func43 (by kernel_rfl) rfl rfl (by rfl) #[.pointer (some ⟨u, 0, none⟩), .slice au xb.length cu] (by simp only [List.map_toArray, List.map_cons, List.map_nil]; rfl) ?_
          refine hnx.mono ?_
          rintro e w3 ⟨rfl, hst2, hsz2, od2, om2, D2, P2, htd⟩
          refine ⟨_, rfl, fun _ => ⟨(hst2 bc _ _ (by decide) (by decide) (by decide) (by decide) HCd.out).trans (hst bc _ _ (by decide) (by decide) (by decide) (by decide) HCd.out).symm, hsz2⟩, ?_⟩
          refine wpK_q (v := ?_) (a' := ?_) (by rfl) (fun w' hR => ?_) ?_ ?_
          rotate_left 2
          · go_simp; with_reducible rfl
          · simp only [Act.put, List.setIfInBounds_toArray, List.set_cons_zero, List.set_cons_succ]; rfl
          refine wpK_q (v := ?_) (a' := ?_) (by rfl) (fun w' hR => ?_) ?_ ?_
          rotate_left 2
          · go_simp; with_reducible rfl
          · simp only [Act.put, List.setIfInBounds_toArray, List.set_cons_zero, List.set_cons_succ]; rfl
          refine wpK_done ?_
          have HTZ := hid htd
          clear k3 happ hst hsz hst2 hsz2 htd HTA HU HC HTd HCd
          generalize w3 = wz at *
          go_upto_region 51 with (fail)
          generalize (Value.pointer (some ⟨q, 0, none⟩)) = pv0 at *
          generalize (Value.pointer (some ⟨u, 0, none⟩)) = qv0 at *
          rcases HTZ.out.pairs with ⟨rfl, rfl⟩ | ⟨q, t, u, s, rfl, rfl, hpp⟩
          · go_wp2_with (first | (go_at_call 55; refine HTZ.out.same.mono ?_; rintro e w8 ⟨rfl, htd, -⟩; have HT8 := hid htd; clear htd) | (go_at_call 54; refine (pair_count_nil _).mono ?_; rintro e wx ⟨rfl, rfl⟩))
            go_roundw
            case rel => exact ⟨j + 1, _, _, _, _, by omega, by go_num, HT8⟩
            case measure => simp [intOf]; omega
          · have d2 := hpp.b.c2
            have d4 := hpp.b.tape.c4
            have HCN := hid (pair_count _ q t p _ _ hpp.a)
            clear hpp
            go_wp2_with (first | (go_at_call 55; refine HTZ.out.same.mono ?_; rintro e w8 ⟨rfl, htd, -⟩; have HT8 := hid htd; clear htd) | (go_at_call 54; refine HCN.out.mono ?_; rintro e wx ⟨rfl, rfl⟩))
            go_roundw
            case rel => exact ⟨j + 1, _, _, _, _, by omega, by go_num, HT8⟩
            case measure => simp [intOf]; omega
      -- 2: the power will go
      · as_aux_lemma =>
          obtain ⟨wa, hwa⟩ : ∃ wa, wa = wr.alloc (.cells #[I 2, I xn, I xj, .slice au xb.length cu] 53) := ⟨_, rfl⟩
          obtain ⟨bc, hbc⟩ : ∃ bc, bc = wr.heap.size := ⟨_, rfl⟩
          rw [← hwa] at HTA HU HC
          rw [← hbc] at HC hbl
          go_upto_region 22 with (fail)
          rw [← hwa, ← hbc]
          clear e0 e1 e2 e3 hwa hbc
          have c1 := HC.out.cell 1 (I xn) rfl
          have c2 := HC.out.cell 2 (I xj) rfl
          go_upto_region 51 with (first | (go_at_call 44; go_must (refine (HTA.out.arm xn xj hxn hxj).mono ?_); rintro e wb ⟨rfl, hst, hnx⟩; have HNX := hid hnx; have c1' := (show wb.cell? ⟨bc, 1, none⟩ = some (I xn) from by rw [cell_of_row _ _ _ _ _ _ (hst bc _ HC.out)]; rfl); have c2' := (show wb.cell? ⟨bc, 2, none⟩ = some (I xj) from by rw [cell_of_row _ _ _ _ _ _ (hst bc _ HC.out)]; rfl); clear hst hnx) | (go_at_call 45; go_must (refine HNX.out.mono ?_); rintro e wz ⟨rfl, od', om', htz⟩; have HTZ := hid (PD.nj htz (Nat.le_succ j)); clear htz HNX))
          clear c1 c2 c1' c2' HTA HU HC
          rcases HTZ.out.pairs with ⟨rfl, rfl⟩ | ⟨q, t, u, s, rfl, rfl, hpp⟩
          · go_wp2_with (first | (go_at_call 55; refine HTZ.out.same.mono ?_; rintro e w8 ⟨rfl, htd, -⟩; have HT8 := hid htd; clear htd) | (go_at_call 54; refine (pair_count_nil _).mono ?_; rintro e wx ⟨rfl, rfl⟩))
            go_roundw
            case rel => exact ⟨j + 1, _, _, _, _, by omega, by go_num, HT8⟩
            case measure => simp [intOf]; omega
          · have d2 := hpp.b.c2
            have d4 := hpp.b.tape.c4
            have HCN := hid (pair_count _ q t p _ _ hpp.a)
            clear hpp
            go_wp2_with (first | (go_at_call 55; refine HTZ.out.same.mono ?_; rintro e w8 ⟨rfl, htd, -⟩; have HT8 := hid htd; clear htd) | (go_at_call 54; refine HCN.out.mono ?_; rintro e wx ⟨rfl, rfl⟩))
            go_roundw
            case rel => exact ⟨j + 1, _, _, _, _, by omega, by go_num, HT8⟩
            case measure => simp [intOf]; omega
      -- 3: the power goes
      · as_aux_lemma =>
          obtain ⟨wa, hwa⟩ : ∃ wa, wa = wr.alloc (.cells #[I 3, I xn, I xj, .slice au xb.length cu] 53) := ⟨_, rfl⟩
          obtain ⟨bc, hbc⟩ : ∃ bc, bc = wr.heap.size := ⟨_, rfl⟩
          rw [← hwa] at HTA HU HC
          rw [← hbc] at HC hbl
          go_upto_region 25 with (fail)
          rw [← hwa, ← hbc]
          clear e0 e1 e2 e3 hwa hbc
          have c2 := HC.out.cell 2 (I xj) rfl
          go_upto_region 51 with (first | (go_at_call 46; go_must (refine (HTA.out.off xj hxj).mono ?_); rintro e wb ⟨rfl, hst, hnx⟩; have HNX := hid hnx; have c2' := (show wb.cell? ⟨bc, 2, none⟩ = some (I xj) from by rw [cell_of_row _ _ _ _ _ _ (hst bc _ HC.out)]; rfl); clear hst hnx) | (go_at_call 47; go_must (refine HNX.out.mono ?_); rintro e wz ⟨rfl, od', om', htz⟩; have HTZ := hid (PD.nj htz (Nat.le_succ j)); clear htz HNX))
          clear c2 c2' HTA HU HC
          rcases HTZ.out.pairs with ⟨rfl, rfl⟩ | ⟨q, t, u, s, rfl, rfl, hpp⟩
          · go_wp2_with (first | (go_at_call 55; refine HTZ.out.same.mono ?_; rintro e w8 ⟨rfl, htd, -⟩; have HT8 := hid htd; clear htd) | (go_at_call 54; refine (pair_count_nil _).mono ?_; rintro e wx ⟨rfl, rfl⟩))
            go_roundw
            case rel => exact ⟨j + 1, _, _, _, _, by omega, by go_num, HT8⟩
            case measure => simp [intOf]; omega
          · have d2 := hpp.b.c2
            have d4 := hpp.b.tape.c4
            have HCN := hid (pair_count _ q t p _ _ hpp.a)
            clear hpp
            go_wp2_with (first | (go_at_call 55; refine HTZ.out.same.mono ?_; rintro e w8 ⟨rfl, htd, -⟩; have HT8 := hid htd; clear htd) | (go_at_call 54; refine HCN.out.mono ?_; rintro e wx ⟨rfl, rfl⟩))
            go_roundw
            case rel => exact ⟨j + 1, _, _, _, _, by omega, by go_num, HT8⟩
            case measure => simp [intOf]; omega
      -- 4: it is back
      · as_aux_lemma =>
          obtain ⟨wa, hwa⟩ : ∃ wa, wa = wr.alloc (.cells #[I 4, I xn, I xj, .slice au xb.length cu] 53) := ⟨_, rfl⟩
          obtain ⟨bc, hbc⟩ : ∃ bc, bc = wr.heap.size := ⟨_, rfl⟩
          rw [← hwa] at HTA HU HC
          rw [← hbc] at HC hbl
          go_upto_region 29 with (fail)
          rw [← hwa, ← hbc]
          clear e0 e1 e2 e3 hwa hbc
          have c0 := HC.out.cell 0 (I 4) rfl
          go_upto_region 32 with (go_at_call 48; go_must (refine HTA.out.on'.mono ?_); rintro e wb ⟨rfl, ⟨x3, hx3⟩, hfz, od', om', htz, hst⟩; have HTY := hid (PD.nj htz (Nat.le_succ j)); clear htz hst)
          clear c0 hx3 hfz HTA HU HC
          generalize wb.setCell ⟨pm, 3, none⟩ (.bool true) = wy at *
          go_wp2_with fail
          refine (both_popen HTY.out.both).mono ?_
          rintro e w4 ⟨pv4, vb4, vl4, rfl, hb4, hs4, hl4, ht4⟩
          obtain ⟨avb, cvb, rfl, -⟩ := hs4.form0
          obtain ⟨avl, cvl, rfl, -⟩ := hl4.len
          have HB4 := hid hb4
          have HS4 := hid hs4
          have HL4' := hid hl4
          have HT4 := hid ht4
          clear hb4 hs4 hl4 ht4
          go_wp2_with fail
          refine (both_ropen5 (HTY.out.both.on HB4.out)).mono ?_
          rintro e w5 ⟨qv5, vb5, vl5, rfl, hb5, hs5, hl5, ht5⟩
          obtain ⟨avb5, cvb5, rfl, -⟩ := hs5.form0
          obtain ⟨avl5, cvl5, rfl, -⟩ := hl5.len
          have HTZ5 := hid (HTY.out.opened HB4.out hb5 HT4.out ht5)
          have hal := palike_any w5 _ _ _ _ (HL4'.out.below hb5) hl5
          rw [decide_eq_true rfl] at hal
          have HAL := hid hal
          have k1 := run_str (P := Try.prog) Try.underlying23 Try.underlying5 Try.underlying9 (HS4.out.below hb5)
          have k2 := run_str (P := Try.prog) Try.underlying23 Try.underlying5 Try.underlying9 hs5
          obtain ⟨bn, hq1, hq2⟩ := nil_both5 HT4.out ht5
          have g1 := fun w' => (ptr_nil5 44 (.inl rfl) pv4 hq1.1 bn hq1.2 (.tmp 164) (.const (.pointer none)) w').1
          have g2 := fun w' => (ptr_nil5 44 (.inl rfl) pv4 hq1.1 bn hq1.2 (.tmp 164) (.const (.pointer none)) w').2
          have g3 := fun w' => (ptr_nil5 49 (.inr rfl) qv5 hq2.1 bn hq2.2 (.tmp 166) (.const (.pointer none)) w').1
          have g4 := fun w' => (ptr_nil5 49 (.inr rfl) qv5 hq2.1 bn hq2.2 (.tmp 166) (.const (.pointer none)) w').2
          clear hal hs5 hl5 hb5 ht5 HB4 HS4 HL4' HT4 hq1 hq2 HTY
          go_upto_region 51 with (go_at_call 49; refine HAL.out.mono ?_; rintro e w6 ⟨rfl, m6, rfl⟩; have HTZ := hid (HTZ5.out.on (below_drewN w5 m6)))
          clear g1 g2 g3 g4 k1 k2 HAL HTZ5
          generalize w5.drewN m6 = wz at *
          rcases HTZ.out.pairs with ⟨rfl, rfl⟩ | ⟨q, t, u, s, rfl, rfl, hpp⟩
          · go_wp2_with (first | (go_at_call 55; refine HTZ.out.same.mono ?_; rintro e w8 ⟨rfl, htd, -⟩; have HT8 := hid htd; clear htd) | (go_at_call 54; refine (pair_count_nil _).mono ?_; rintro e wx ⟨rfl, rfl⟩))
            go_roundw
            case rel => exact ⟨j + 1, _, _, _, _, by omega, by go_num, HT8⟩
            case measure => simp [intOf]; omega
          · have d2 := hpp.b.c2
            have d4 := hpp.b.tape.c4
            have HCN := hid (pair_count _ q t p _ _ hpp.a)
            clear hpp
            go_wp2_with (first | (go_at_call 55; refine HTZ.out.same.mono ?_; rintro e w8 ⟨rfl, htd, -⟩; have HT8 := hid htd; clear htd) | (go_at_call 54; refine HCN.out.mono ?_; rintro e wx ⟨rfl, rfl⟩))
            go_roundw
            case rel => exact ⟨j + 1, _, _, _, _, by omega, by go_num, HT8⟩
            case measure => simp [intOf]; omega
      -- 5: opened anew
      · as_aux_lemma =>
          obtain ⟨wa, hwa⟩ : ∃ wa, wa = wr.alloc (.cells #[I 5, I xn, I xj, .slice au xb.length cu] 53) := ⟨_, rfl⟩
          obtain ⟨bc, hbc⟩ : ∃ bc, bc = wr.heap.size := ⟨_, rfl⟩
          rw [← hwa] at HTA HU HC
          rw [← hbc] at HC hbl
          go_upto_region 29 with (fail)
          rw [← hwa, ← hbc]
          clear e0 e1 e2 e3 hwa hbc
          have c0 := HC.out.cell 0 (I 5) rfl
          go_upto_region 32 with (fail)
          have HTY := hid (HTA.out.nj (Nat.le_succ j))
          clear c0 HTA HU HC
          generalize wa = wy at *
          go_wp2_with fail
          refine (both_popen HTY.out.both).mono ?_
          rintro e w4 ⟨pv4, vb4, vl4, rfl, hb4, hs4, hl4, ht4⟩
          obtain ⟨avb, cvb, rfl, -⟩ := hs4.form0
          obtain ⟨avl, cvl, rfl, -⟩ := hl4.len
          have HB4 := hid hb4
          have HS4 := hid hs4
          have HL4' := hid hl4
          have HT4 := hid ht4
          clear hb4 hs4 hl4 ht4
          go_wp2_with fail
          refine (both_ropen5 (HTY.out.both.on HB4.out)).mono ?_
          rintro e w5 ⟨qv5, vb5, vl5, rfl, hb5, hs5, hl5, ht5⟩
          obtain ⟨avb5, cvb5, rfl, -⟩ := hs5.form0
          obtain ⟨avl5, cvl5, rfl, -⟩ := hl5.len
          have HTZ5 := hid (HTY.out.opened HB4.out hb5 HT4.out ht5)
          have hal := palike_any w5 _ _ _ _ (HL4'.out.below hb5) hl5
          rw [decide_eq_true rfl] at hal
          have HAL := hid hal
          have k1 := run_str (P := Try.prog) Try.underlying23 Try.underlying5 Try.underlying9 (HS4.out.below hb5)
          have k2 := run_str (P := Try.prog) Try.underlying23 Try.underlying5 Try.underlying9 hs5
          obtain ⟨bn, hq1, hq2⟩ := nil_both5 HT4.out ht5
          have g1 := fun w' => (ptr_nil5 44 (.inl rfl) pv4 hq1.1 bn hq1.2 (.tmp 164) (.const (.pointer none)) w').1
          have g2 := fun w' => (ptr_nil5 44 (.inl rfl) pv4 hq1.1 bn hq1.2 (.tmp 164) (.const (.pointer none)) w').2
          have g3 := fun w' => (ptr_nil5 49 (.inr rfl) qv5 hq2.1 bn hq2.2 (.tmp 166) (.const (.pointer none)) w').1
          have g4 := fun w' => (ptr_nil5 49 (.inr rfl) qv5 hq2.1 bn hq2.2 (.tmp 166) (.const (.pointer none)) w').2
          clear hal hs5 hl5 hb5 ht5 HB4 HS4 HL4' HT4 hq1 hq2 HTY
          go_upto_region 51 with (go_at_call 49; refine HAL.out.mono ?_; rintro e w6 ⟨rfl, m6, rfl⟩; have HTZ := hid (HTZ5.out.on (below_drewN w5 m6)))
          clear g1 g2 g3 g4 k1 k2 HAL HTZ5
          generalize w5.drewN m6 = wz at *
          rcases HTZ.out.pairs with ⟨rfl, rfl⟩ | ⟨q, t, u, s, rfl, rfl, hpp⟩
          · go_wp2_with (first | (go_at_call 55; refine HTZ.out.same.mono ?_; rintro e w8 ⟨rfl, htd, -⟩; have HT8 := hid htd; clear htd) | (go_at_call 54; refine (pair_count_nil _).mono ?_; rintro e wx ⟨rfl, rfl⟩))
            go_roundw
            case rel => exact ⟨j + 1, _, _, _, _, by omega, by go_num, HT8⟩
            case measure => simp [intOf]; omega
          · have d2 := hpp.b.c2
            have d4 := hpp.b.tape.c4
            have HCN := hid (pair_count _ q t p _ _ hpp.a)
            clear hpp
            go_wp2_with (first | (go_at_call 55; refine HTZ.out.same.mono ?_; rintro e w8 ⟨rfl, htd, -⟩; have HT8 := hid htd; clear htd) | (go_at_call 54; refine HCN.out.mono ?_; rintro e wx ⟨rfl, rfl⟩))
            go_roundw
            case rel => exact ⟨j + 1, _, _, _, _, by omega, by go_num, HT8⟩
            case measure => simp [intOf]; omega
      -- 6: a page spoilt
      · as_aux_lemma =>
          obtain ⟨wa, hwa⟩ : ∃ wa, wa = wr.alloc (.cells #[I 6, I xn, I xj, .slice au xb.length cu] 53) := ⟨_, rfl⟩
          obtain ⟨bc, hbc⟩ : ∃ bc, bc = wr.heap.size := ⟨_, rfl⟩
          rw [← hwa] at HTA HU HC
          rw [← hbc] at HC hbl
          go_upto_region 39 with (fail)
          rw [← hwa, ← hbc]
          clear e0 e1 e2 e3 hwa hbc
          have hmk := fun w => run_page0 w 23 rfl
          go_upto_region 40 with (fail)
          have hba2 : Below wa.heap.size wa (wa.alloc (.cells (page0.map B).toArray 5)) := (Below.refl _ _).alloc (Nat.le_refl _) _
          have HT1 := hid (HTA.out.on hba2)
          have HC1 := hid (HC.out.on hba2)
          have HU1 := hid (HU.out.below hba2)
          have HP1 : Hid ((wa.alloc (.cells (page0.map B).toArray 5)).ownsRow wa.heap.size 5 1 (.slice (some ⟨wa.heap.size, 0, none⟩) 256 256) 256 (page0.map B)) := hid (own_page0 wa)
          have hgp := HTA.out.both.new wa.heap.size (Nat.le_refl _)
          have HGP := hid hgp
          have HTY5 := hid (own_type HP1.out)
          have hwz : w.heap.size ≤ wa.heap.size := HTA.out.both.below.size
          have hbcl : bc < wa.heap.size := HC.out.lt
          clear hba2 HTA HC HU hgp
          generalize wa.alloc (.cells (page0.map B).toArray 5) = w1' at *
          go_wp2_with fail
          clear hmk
          go_loopw [175] (fun i wx => ∃ m : Nat, m ≤ 256 ∧ i = I m ∧ Hid (Loose wx wa.heap.size (.slice (some ⟨wa.heap.size, 0, none⟩) 256 256) 256) ∧ Hid (Mod (fun k => k = wa.heap.size) w1' wx)) (fun i _ => 256 - (intOf i).toNat)
          case atStart => exact ⟨0, by omega, rfl, hid ⟨page0, page0_len, HP1.out⟩, hid (Mod.refl _ _)⟩
          case round =>
            clear HP1
            obtain ⟨m, hm, rfl, HL, HM⟩ := hrel
            have hcx := (HM.out.block bc (HC1.out.lt) (by omega)).trans HC1.out.1
            have c3 : wr.cell? ⟨bc, 3, none⟩ = some (.slice au xb.length cu) := by rw [cell_of_row _ _ _ _ _ _ hcx]; rfl
            by_cases hml : m < 256
            · have f2 : decide ((m : Int) < 256) = true := decide_eq_true (by omega)
              obtain ⟨gq, c9, hgq, -, hcell, hfr⟩ := HL.out.at hml
              simp only [Option.some.injEq, Addr.mk.injEq, and_true] at hgq
              subst hgq
              by_cases hx0 : 0 < xb.length
              · have f3 : (0 : Int) < (xb.length : Int) := by omega
                obtain ⟨y0, hy0⟩ : ∃ y0, xb[0]? = some y0 := ⟨_, List.getElem?_eq_getElem hx0⟩
                have hux := HU3.out
                rcases hux.open with ⟨h0, -⟩ | ⟨g5, o5, c5, -, hv5, -, -, hc5⟩
                · rw [h0] at hx0; simp at hx0
                simp only [Value.slice.injEq] at hv5
                obtain ⟨rfl, -, rfl⟩ := hv5
                have h5 := hc5 0 y0 hy0
                have hg5 := cell_lt h5
                have cx : wr.cell? ⟨g5, o5, none⟩ = some (B y0) := by
                  rw [Nat.add_zero] at h5
                  exact (World.cell?_of_block (w := w1') (a := ⟨g5, o5, none⟩) (HM.out.block g5 (by have := HT1.out.both.below.size; show g5 < w1'.heap.size; have h7 : g5 < w.heap.size := hg5; omega) (by have h7 : g5 < w.heap.size := hg5; omega))).trans (cell_on HT1.out.both.below h5)
                have HL2 := hid (HL.out.set wa.heap.size m y0)
                have HM2 := hid (HM.out.trans (Mod.set (own := fun k => k = wa.heap.size) (w := wr) (a := ⟨wa.heap.size, m, none⟩) (u := B y0) rfl))
                clear hux hc5 h5 hg5 hy0
                go_wp2
                go_roundw
                case rel => exact ⟨m + 1, by omega, by go_num, HL2, HM2⟩
                case measure => simp [intOf]; omega
              · have f3 : ¬ (0 : Int) < (xb.length : Int) := by omega
                go_wp2
                go_roundw
                case rel => exact ⟨m + 1, by omega, by go_num, HL, HM⟩
                case measure => simp [intOf]; omega
            have f2 : decide ((m : Int) < 256) = false := decide_eq_false (by omega)
            have HT2 := hid (PD.modg HT1.out HM.out HGP.out hwz HTY5.out)
            have HC2 : Hid (Held od om wr bc (.cells #[I 6, I xn, I xj, .slice au xb.length cu] 53 (0, 0))) := hid ⟨hcx, HC1.out.2⟩
            obtain ⟨PG, hPGl, hPG⟩ := HL.out
            have HPG := hid hPG
            have HPL := hid hPGl
            clear hcx c3 HL HM HT1 HC1 HU1 hPG hPGl hml
            go_upto_region 46 with (fail)
            clear f2
            generalize hgz : wa.heap.size = gp at *
            generalize hwq : wr = wq at *
            clear hwq hgz
            have HTd := hid (HT2.out.on (Ext.drew wq))
            have HCd := hid (HC2.out.on (Ext.drew wq))
            have k1 : ∀ w', KeepTwo bc bc wq.drew w' → w'.cell? ⟨bc, 1, none⟩ = some (I xn) := fun w' hh => by rw [cell_of_row _ _ _ _ _ _ (hh.1.trans HC2.out.1)]; rfl
            have hgl : Held od om wq.drew gp (wq.drew.heap[gp]'(own_lt HPG.out gp rfl).2) := ⟨Array.getElem?_eq_getElem _, HGP.out⟩
            have hw1 := both_write HTd.out.both xn hxn (own_sees' (own_mod (w' := wq.drew) HPG.out (fun _ _ => rfl)) HPL.out) (fun k hk => by have e : gp = k := Option.some.inj hk; subst e; exact HGP.out.1) (by have := HTd.out.waits; omega)
            refine wp_region_order (KeepTwo bc bc) [] [(0,0),(1,0),(2,0),(3,0),(5,0),(6,0),(7,0),(8,0),(4,1),(9,1),(10,0),(11,0)] _ (by kernel_rfl) rfl KeepTwo.refl KeepTwo.trans (by kernel_rfl) (by simp only [pick, List.getElem?_toArray, List.getElem?_cons_zero, List.getElem?_cons_succ]; rfl) (fun c a d v w h => by cases d <;> exact h) ?_
            refine wpK_q (v := ?_) (a' := ?_) (by rfl) (fun w' hR => ?_) ?_ ?_
            rotate_left 2
            · go_simp; with_reducible rfl
            · simp only [Act.put, List.setIfInBounds_toArray, List.set_cons_zero, List.set_cons_succ]; rfl
            refine wpK_q (v := ?_) (a' := ?_) (by rfl) (fun w' hR => ?_) ?_ ?_
            rotate_left 2
            · go_simp; with_reducible rfl
            · simp only [Act.put, List.setIfInBounds_toArray, List.set_cons_zero, List.set_cons_succ]; rfl
            refine wpK_q (v := ?_) (a' := ?_) (by rfl) (fun w' hR => ?_) ?_ ?_
            rotate_left 2
            · go_simp; with_reducible rfl
            · simp only [Act.put, List.setIfInBounds_toArray, List.set_cons_zero, List.set_cons_succ]; rfl
            refine wpK_q (v := ?_) (a' := ?_) (by rfl) (fun w' hR => ?_) ?_ ?_
            rotate_left 2
            · go_simp; with_reducible rfl
            · simp only [Act.put, List.setIfInBounds_toArray, List.set_cons_zero, List.set_cons_succ]; rfl
            refine wpK_q (v := ?_) (a' := ?_) (by rfl) (fun w' hR => ?_) ?_ ?_
            rotate_left 2
            · go_simp; with_reducible rfl
            · simp only [Act.put, List.setIfInBounds_toArray, List.set_cons_zero, List.set_cons_succ]; rfl
            refine wpK_q (v := ?_) (a' := ?_) (by rfl) (fun w' hR => ?_) ?_ ?_
            rotate_left 2
            · go_simp; with_reducible rfl
            · simp only [Act.put, List.setIfInBounds_toArray, List.set_cons_zero, List.set_cons_succ]; rfl
            refine wpK_q (v := ?_) (a' := ?_) (by rfl) (fun w' hR => ?_) ?_ ?_
            rotate_left 2
            · go_simp; with_reducible rfl
            · simp only [Act.put, List.setIfInBounds_toArray, List.set_cons_zero, List.set_cons_succ]; rfl
            refine wpK_q (v := ?_) (a' := ?_) (by rfl) (fun w' hR => ?_) ?_ ?_
            rotate_left 2
            · go_simp; with_reducible rfl
            · simp only [Act.put, List.setIfInBounds_toArray, List.set_cons_zero, List.set_cons_succ]; rfl
            refine wpK_call Try.func50 (by kernel_rfl) rfl rfl (by rfl) #[.pointer (some ⟨p, 0, none⟩), .int .i64 xn, .slice (some ⟨gp, 0, none⟩) 256 256] (by simp only [List.map_toArray, List.map_cons, List.map_nil]; rfl) ?_
            refine hw1.mono ?_
            rintro e w2 ⟨rfl, od2, hb2, hst⟩
            refine ⟨_, rfl, fun _ => ⟨(hst bc _ HCd.out).1.trans HCd.out.1.symm, (hst bc _ HCd.out).1.trans HCd.out.1.symm⟩, ?_⟩
            refine wpK_call Try.func51 (by kernel_rfl) rfl rfl (by rfl) #[.pointer (some ⟨pm, 0, none⟩), .int .i64 xn, .slice (some ⟨gp, 0, none⟩) 256 256] (by simp only [List.map_toArray, List.map_cons, List.map_nil]; rfl) ?_
            have hg2 := hst gp _ hgl
            have hp2 : w2.ownsRow gp 5 1 (.slice (some ⟨gp, 0, none⟩) 256 256) 256 (PG.map B) := own_mod HPG.out (fun k hk => by have e : gp = k := Option.some.inj hk; subst e; exact hg2.1.trans hgl.1.symm)
            refine (both_rwrite hb2 xn hxn (own_sees' hp2 HPL.out) (fun k hk => by have e : gp = k := Option.some.inj hk; subst e; exact hg2.2.2) (by have := HTd.out.waits; omega)).mono ?_
            rintro e w3 ⟨rfl, om3, hb3, hst3⟩
            refine ⟨_, rfl, fun _ => ⟨(hst3 bc _ (hst bc _ HCd.out)).1.trans (hst bc _ HCd.out).1.symm, (hst3 bc _ (hst bc _ HCd.out)).1.trans (hst bc _ HCd.out).1.symm⟩, ?_⟩
            refine wpK_q (v := ?_) (a' := ?_) (by rfl) (fun w' hR => ?_) ?_ ?_
            rotate_left 2
            · go_simp; with_reducible rfl
            · simp only [Act.put, List.setIfInBounds_toArray, List.set_cons_zero, List.set_cons_succ]; rfl
            refine wpK_q (v := ?_) (a' := ?_) (by rfl) (fun w' hR => ?_) ?_ ?_
            rotate_left 2
            · go_simp; with_reducible rfl
            · simp only [Act.put, List.setIfInBounds_toArray, List.set_cons_zero, List.set_cons_succ]; rfl
            refine wpK_done ?_
            have HT3 := hid (HTd.out.stay (j' := j + 1) hb3 (Stay.trans hst hst3) (DS.write_len D xn PG) (by have := DS.write_waits' D xn PG; have := HTd.out.waits; omega))
            clear k1 hgl hw1 hb2 hst hg2 hp2 hb3 hst3 HPG HPL HCd HTd HC2 HT2 HGP
            generalize (D.write xn PG).1 = cw at *
            generalize (D.write xn PG).2 = D3 at *
            generalize w3 = w9 at *
            go_wp2_with fail
            refine (both_flush HT3.out.both).mono ?_
            rintro e w4 ⟨rfl, od4, hb4, hst4⟩
            have HB4 := hid hb4
            have HS4 := hid hst4
            clear hb4 hst4
            go_wp2_with fail
            refine (both_rflush HB4.out).mono ?_
            rintro e w5 ⟨rfl, om5, hb5, hst5⟩
            have HTY := hid (HT3.out.stay (j' := j + 1) hb5 (Stay.trans HS4.out hst5) (DS.Flush_len D3) (by have := DS.Flush_waits D3; have := HT3.out.waits; omega))
            clear hb5 hst5 HB4 HS4 HT3
            generalize D3.Flush.1 = cf at *
            generalize D3.Flush.2 = D5 at *
            generalize w5 = wy at *
            go_wp2_with fail
            refine (both_popen HTY.out.both).mono ?_
            rintro e w4 ⟨pv4, vb4, vl4, rfl, hb4, hs4, hl4, ht4⟩
            obtain ⟨avb, cvb, rfl, -⟩ := hs4.form0
            obtain ⟨avl, cvl, rfl, -⟩ := hl4.len
            have HB4 := hid hb4
            have HS4 := hid hs4
            have HL4' := hid hl4
            have HT4 := hid ht4
            clear hb4 hs4 hl4 ht4
            go_wp2_with fail
            refine (both_ropen5 (HTY.out.both.on HB4.out)).mono ?_
            rintro e w5 ⟨qv5, vb5, vl5, rfl, hb5, hs5, hl5, ht5⟩
            obtain ⟨avb5, cvb5, rfl, -⟩ := hs5.form0
            obtain ⟨avl5, cvl5, rfl, -⟩ := hl5.len
            have HTZ := hid (HTY.out.opened HB4.out hb5 HT4.out ht5)
            clear hs5 hl5 hb5 ht5 HB4 HS4 HL4' HT4 HTY
            go_upto_region 51 with (fail)
            generalize w5 = wz at *
            rcases HTZ.out.pairs with ⟨rfl, rfl⟩ | ⟨q, t, u, s, rfl, rfl, hpp⟩
            · go_wp2_with (first | (go_at_call 55; refine HTZ.out.same.mono ?_; rintro e w8 ⟨rfl, htd, -⟩; have HT8 := hid htd; clear htd) | (go_at_call 54; refine (pair_count_nil _).mono ?_; rintro e wx ⟨rfl, rfl⟩))
              go_roundw
              case rel => exact ⟨j + 1, _, _, _, _, by omega, by go_num, HT8⟩
              case measure => simp [intOf]; omega
            · have d2 := hpp.b.c2
              have d4 := hpp.b.tape.c4
              have HCN := hid (pair_count _ q t p _ _ hpp.a)
              clear hpp
              go_wp2_with (first | (go_at_call 55; refine HTZ.out.same.mono ?_; rintro e w8 ⟨rfl, htd, -⟩; have HT8 := hid htd; clear htd) | (go_at_call 54; refine HCN.out.mono ?_; rintro e wx ⟨rfl, rfl⟩))
              go_roundw
              case rel => exact ⟨j + 1, _, _, _, _, by omega, by go_num, HT8⟩
              case measure => simp [intOf]; omega
      -- others
      · as_aux_lemma =>
          obtain ⟨wa, hwa⟩ : ∃ wa, wa = wr.alloc (.cells #[I xk, I xn, I xj, .slice au xb.length cu] 53) := ⟨_, rfl⟩
          rw [← hwa] at HTA HU HC
          go_upto_region 51 with (fail)
          rw [← hwa]
          clear e0 e1 e2 e3 hwa
          have HTZ := hid (HTA.out.nj (Nat.le_succ j))
          clear HTA HU HC
          generalize wa = wz at *
          rcases HTZ.out.pairs with ⟨rfl, rfl⟩ | ⟨q, t, u, s, rfl, rfl, hpp⟩
          · go_wp2_with (first | (go_at_call 55; refine HTZ.out.same.mono ?_; rintro e w8 ⟨rfl, htd, -⟩; have HT8 := hid htd; clear htd) | (go_at_call 54; refine (pair_count_nil _).mono ?_; rintro e wx ⟨rfl, rfl⟩))
            go_roundw
            case rel => exact ⟨j + 1, _, _, _, _, by omega, by go_num, HT8⟩
            case measure => simp [intOf]; omega
          · have d2 := hpp.b.c2
            have d4 := hpp.b.tape.c4
            have HCN := hid (pair_count _ q t p _ _ hpp.a)
            clear hpp
            go_wp2_with (first | (go_at_call 55; refine HTZ.out.same.mono ?_; rintro e w8 ⟨rfl, htd, -⟩; have HT8 := hid htd; clear htd) | (go_at_call 54; refine HCN.out.mono ?_; rintro e wx ⟨rfl, rfl⟩))
            go_roundw
            case rel => exact ⟨j + 1, _, _, _, _, by omega, by go_num, HT8⟩
            case measure => simp [intOf]; omega
namespace pairDoes
theorem walkRow (n0 : Int) (hn0 : -9223372036854775808 ≤ n0 ∧ n0 ≤ 9223372036854775807) (a1 : Option Addr) (cap : Nat) (L : List Cl) {w : World} (hs : IsScr w a1 L) (hok : ScrOk L) (w' : World) (e : w = w') :
    Calls Try.prog 9 #[.int .i64 n0, .slice a1 L.length cap] w' fun e w'' => e = .returned (.bool true) ∧ Below w'.heap.size w' w'' := by
  subst e
  exact pdoes_walk w n0 hn0 a1 cap L hs hok
end pairDoes
end Go.Proofs.Ytoaeapnkefjpaaa

namespace Go.Proofs.Ytoaeapnkefjpaaa
open Go.ChangeShapes Go.WideShapes Go.ChangeAt Go.RowKit
open Go.ChangeMaps (open_string shut_string)
set_option linter.unusedVariables false
set_option linter.unusedSimpArgs false
theorem arr2 {cs : Array Value} (h : cs.size = 2) : ∃ a b, cs = #[a, b] := by
  obtain ⟨l⟩ := cs
  match l, h with
  | [a, b], _ => exact ⟨a, b, rfl⟩
set_option maxRecDepth 100000 in
/-- Two ints in an array, by value. -/
theorem open_two {H : Type} {enc : TypeId × Value → H} {W : World} {base : Nat} {sp : Nat → Bool} {held : Bool} {r : Reach} {b0 : Nat} {v : Value} {d : DataW H} {p : List MemPlace} (hv : Value.okWide Try.prog W r b0 29 v) (h : DataW.Trod enc Try.prog W base sp held 29 v d p) :
    ∃ x y : Int, v = .agg #[.int .i64 x, .int .i64 y] ∧ (Lit.int .i64 x).wf = true ∧ (Lit.int .i64 y).wf = true := by
  simp only [Value.okWide, Try.underlying29] at hv
  obtain ⟨cs, rfl, hs, -⟩ := hv
  have h2 : Try.prog.cellsOf 29 = 2 := by kernel_rfl
  have h1 : Try.prog.cellsOf 3 = 1 := by kernel_rfl
  obtain ⟨c0, c1, rfl⟩ := arr2 (hs.trans h2)
  obtain ⟨fuel, hf⟩ := h
  obtain ⟨xs, m, -, -, -, hxl, hx⟩ := DataW.trod_array Try.underlying29 hf
  have hx0 := hx 0 (by omega)
  have hx1 := hx 1 (by omega)
  rw [h1] at hx0 hx1
  obtain ⟨y0, e0⟩ : ∃ y, xs[0]? = some y := ⟨_, List.getElem?_eq_getElem (by omega)⟩
  obtain ⟨y1, e1⟩ : ∃ y, xs[1]? = some y := ⟨_, List.getElem?_eq_getElem (by omega)⟩
  rw [e0] at hx0
  rw [e1] at hx1
  simp [Value.cells] at hx0 hx1
  obtain ⟨a, ea, -, wa⟩ := DataW.trod_int Try.underlying3 hx0
  obtain ⟨b, eb, -, wb⟩ := DataW.trod_int Try.underlying3 hx1
  simp at ea eb
  subst ea eb
  exact ⟨a, b, rfl, wa, wb⟩
end Go.Proofs.Ytoaeapnkefjpaaa

namespace Go.Proofs.Ytoaeapnkefjpaaa
open Go.ChangeShapes Go.WideShapes Go.ChangeAt Go.RowKit
set_option linter.unusedVariables false
set_option linter.unusedSimpArgs false
set_option maxRecDepth 100000 in
theorem in_elems {H : Type} {enc : TypeId × Value → H} {W : World} {base : Nat} {sp : Nat → Bool} {held : Bool} {t e : TypeId} {n : Nat} {a : Option Addr} {len cap : Nat} {d : DataW H} {p : List MemPlace} (ht : Try.prog.underlying t = some (.slice e)) (hc : Try.prog.cellsOf e = n) (hn : 0 < n)
    (h : DataW.Trod enc Try.prog W base sp held t (Value.slice a len cap) d p) :
    (len ≤ cap ∧ cap ≤ maxLen) ∧ (0 < len → ∃ g off, a = some ⟨g, off, none⟩ ∧ ∀ i, i < len → ∃ (cs : List Value) (fuel : Nat) (y : DataW H × List MemPlace), cs.length = n ∧ (∀ j v, cs[j]? = some v → W.cell? ⟨g, off + i * n + j, none⟩ = some v) ∧ DataW.trod enc Try.prog W base sp held fuel e cs = some y) := by
  obtain ⟨fuel, hf⟩ := h
  rcases Deep.open_slice ht hf with ⟨hcs, _⟩ | ⟨x, l, c, m, k, D, Pl, hcs, _, hl, hm, hmm, _, hx⟩
  · simp [Value.cells] at hcs
    obtain ⟨rfl, rfl, rfl⟩ := hcs
    exact ⟨⟨Nat.le_refl _, Nat.zero_le _⟩, fun h => absurd h (by omega)⟩
  · simp [Value.cells] at hcs
    obtain ⟨rfl, rfl, rfl⟩ := hcs
    refine ⟨⟨hl, hm⟩, fun h0 => ?_⟩
    have hlm : len ≤ m := by rw [hmm]; split <;> omega
    have key : ∀ i, i < len → ∃ (cs : List Value) (fuel : Nat) (y : DataW H × List MemPlace), cs.length = n ∧ (∀ j, (hj : j < cs.length) → W.cell? ((x.add (i * n)).add j) = some cs[j]) ∧ DataW.trod enc Try.prog W base sp held fuel e cs = some y := by
      intro i hi
      obtain ⟨cs', h1, h2⟩ := hx i (by omega)
      rw [hc] at h1
      obtain ⟨_, hlen, hcell⟩ := World.cells?_some h1
      exact ⟨cs', k, _, hlen, fun j hj => (hcell j (by omega)).trans (List.getElem?_eq_getElem hj), h2⟩
    obtain ⟨g, off, spot⟩ := x
    obtain ⟨cs, _, _, hlen, h1, -⟩ := key 0 h0
    have hs : spot = none := by simpa [Addr.add] using World.cell?_spot (h1 0 (by omega))
    subst hs
    refine ⟨g, off, rfl, fun i hi => ?_⟩
    obtain ⟨cs, fu, y, hlen, h1, h2⟩ := key i hi
    refine ⟨cs, fu, y, hlen, fun j v hj => ?_, h2⟩
    have hjl := (List.getElem?_eq_some_iff.1 hj).1
    have := h1 j hjl
    rw [add_off, add_off] at this
    rw [this, ← hj, List.getElem?_eq_getElem hjl]
/-- A struct of five fields of one cell each. -/
theorem list5 {cs : List Value} (h : cs.length = 5) : ∃ a b c d e, cs = [a, b, c, d, e] := by
  match cs, h with
  | [a, b, c, d, e], _ => exact ⟨a, b, c, d, e, rfl⟩
theorem list4 {cs : List Value} (h : cs.length = 4) : ∃ a b c d, cs = [a, b, c, d] := by
  match cs, h with
  | [a, b, c, d], _ => exact ⟨a, b, c, d, rfl⟩
theorem list1 {cs : List Value} (h : cs.length = 1) : ∃ a, cs = [a] := by
  match cs, h with
  | [a], _ => exact ⟨a, rfl⟩
/-- A byte that came in. -/
theorem byte_of {n : Int} (h : (Lit.int .u8 n).wf = true) : ∃ c : UInt8, n = (c.toNat : Int) := by
  simp only [Lit.wf, IntKind.min, IntKind.max, IntKind.signed, IntKind.bits, Bool.and_eq_true, decide_eq_true_eq] at h
  have h1 : 0 ≤ n ∧ n ≤ 255 := by simpa using h
  exact ⟨UInt8.ofNat n.toNat, by rw [UInt8.toNat_ofNat_of_lt' (by simp [UInt8.size]; omega)]; omega⟩
set_option maxRecDepth 100000 in
/-- A script of the drum's that came in. -/
theorem in_calls3 {H : Type} {enc : TypeId × Value → H} {W : World} {base : Nat} {sp : Nat → Bool} {held : Bool} {a : Option Addr} {len cap : Nat} {d : DataW H} {p : List MemPlace} (h : DataW.Trod enc Try.prog W base sp held 81 (Value.slice a len cap) d p) :
    len ≤ 9223372036854775807 ∧ (0 < len → ∃ g off, a = some ⟨g, off, none⟩ ∧ ∀ i, i < len → ∃ (k a n : Int) (c : UInt8) (s : Bool), W.cell? ⟨g, off + i * 5, none⟩ = some (.int .i64 k) ∧ W.cell? ⟨g, off + i * 5 + 1, none⟩ = some (.int .i64 a) ∧ W.cell? ⟨g, off + i * 5 + 2, none⟩ = some (.int .i64 n) ∧ W.cell? ⟨g, off + i * 5 + 3, none⟩ = some (B c) ∧ W.cell? ⟨g, off + i * 5 + 4, none⟩ = some (.bool s) ∧
    (-9223372036854775808 ≤ a ∧ a ≤ 9223372036854775807) ∧ (-9223372036854775808 ≤ n ∧ n ≤ 9223372036854775807)) := by
  have c3 : Try.prog.cellsOf 3 = 1 := by kernel_rfl
  have c4 : Try.prog.cellsOf 4 = 1 := by kernel_rfl
  have c5 : Try.prog.cellsOf 5 = 1 := by kernel_rfl
  obtain ⟨⟨h1, h2⟩, h3⟩ := in_elems (n := 5) Try.underlying81 (by kernel_rfl) (by omega) h
  refine ⟨by unfold maxLen at h2; omega, fun h0 => ?_⟩
  obtain ⟨g, off, rfl, hx⟩ := h3 h0
  refine ⟨g, off, rfl, fun i hi => ?_⟩
  obtain ⟨cs, fu, y, hlen, hcell, hy⟩ := hx i hi
  obtain ⟨v0, v1, v2, v3, v4, rfl⟩ := list5 hlen
  obtain ⟨xs, k, -, -, -, hxl, hxx⟩ := DataW.trod_struct Try.underlying83 hy
  have g0 : DataW.trod enc Try.prog W base sp held k 3 (([v0, v1, v2, v3, v4].drop 0).take (Try.prog.cellsOf 3)) = xs[0]? := hxx 0 _ rfl
  have g1 : DataW.trod enc Try.prog W base sp held k 3 (([v0, v1, v2, v3, v4].drop 1).take (Try.prog.cellsOf 3)) = xs[1]? := hxx 1 _ rfl
  have g2 : DataW.trod enc Try.prog W base sp held k 3 (([v0, v1, v2, v3, v4].drop 2).take (Try.prog.cellsOf 3)) = xs[2]? := hxx 2 _ rfl
  have g3 : DataW.trod enc Try.prog W base sp held k 5 (([v0, v1, v2, v3, v4].drop 3).take (Try.prog.cellsOf 5)) = xs[3]? := hxx 3 _ rfl
  have g4 : DataW.trod enc Try.prog W base sp held k 4 (([v0, v1, v2, v3, v4].drop 4).take (Try.prog.cellsOf 4)) = xs[4]? := hxx 4 _ rfl
  replace hxl : xs.length = 5 := hxl
  simp only [c3, c4, c5] at g0 g1 g2 g3 g4
  rw [List.getElem?_eq_getElem (by omega)] at g0 g1 g2 g3 g4
  simp at g0 g1 g2 g3 g4
  obtain ⟨n0, e0, -, w0⟩ := DataW.trod_int Try.underlying3 g0
  obtain ⟨n1, e1, -, w1⟩ := DataW.trod_int Try.underlying3 g1
  obtain ⟨n2, e2, -, w2⟩ := DataW.trod_int Try.underlying3 g2
  obtain ⟨n3, e3, -, w3⟩ := DataW.trod_int Try.underlying5 g3
  obtain ⟨n4, e4, -⟩ := DataW.trod_bool Try.underlying4 g4
  simp at e0 e1 e2 e3 e4
  subst e0 e1 e2 e3 e4
  obtain ⟨c, rfl⟩ := byte_of w3
  exact ⟨n0, n1, n2, c, n4, hcell 0 _ rfl, hcell 1 _ rfl, hcell 2 _ rfl, hcell 3 _ rfl, hcell 4 _ rfl, bounds_i64 w1, bounds_i64 w2⟩
end Go.Proofs.Ytoaeapnkefjpaaa

namespace Go.Proofs.Ytoaeapnkefjpaaa
open Go.ChangeShapes Go.WideShapes Go.ChangeAt Go.RowKit
set_option linter.unusedVariables false
set_option linter.unusedSimpArgs false
theorem list_of {α : Type} {P : Nat → α → Prop} : ∀ (n : Nat), (∀ i, i < n → ∃ x, P i x) → ∃ L : List α, L.length = n ∧ ∀ i x, L[i]? = some x → P i x
  | 0, _ => ⟨[], rfl, fun i x h => by simp at h⟩
  | n + 1, h => by
    obtain ⟨L, hl, hp⟩ := list_of n (fun i hi => h i (by omega))
    obtain ⟨x, hx⟩ := h n (by omega)
    refine ⟨L ++ [x], by simp [hl], fun i y hy => ?_⟩
    by_cases hi : i < n
    · rw [List.getElem?_append_left (by omega)] at hy
      exact hp i y hy
    · have hlt := (List.getElem?_eq_some_iff.1 hy).1
      simp only [List.length_append, List.length_cons, List.length_nil] at hlt
      have : i = n := by omega
      subst this
      rw [List.getElem?_append_right (by omega), hl, Nat.sub_self] at hy
      simp only [List.getElem?_cons_zero, Option.some.injEq] at hy
      exact hy ▸ hx
set_option maxRecDepth 100000 in
theorem in_bytes {H : Type} {enc : TypeId × Value → H} {W : World} {base : Nat} {held : Bool} {fuel : Nat} {v : Value} {y : DataW H × List MemPlace} (h : DataW.trod enc Try.prog W base (fun _ => true) held fuel 23 [v] = some y) : ∃ l, Sees W v l := by
  rcases open_ints Try.underlying23 Try.underlying5 (by kernel_rfl) h with ⟨hcs, _⟩ | ⟨x, l, c, zs, hcs, _, hl, hm, hz, _, hcell, hwz⟩
  · simp at hcs
    subst hcs
    exact ⟨[], Sees.nil W⟩
  · simp at hcs
    subst hcs
    obtain ⟨r, -, hr⟩ := sees_in (w := W) (a := some x) (len := l) (cap := c) (zs := zs) (.inr ⟨x, rfl, hl, hm, by simpa using hz, hcell, hwz⟩)
    exact ⟨r, hr⟩
set_option maxRecDepth 100000 in
theorem in_recs {H : Type} {enc : TypeId × Value → H} {W : World} {base : Nat} {held : Bool} {a : Option Addr} {len cap : Nat} {d : DataW H} {p : List MemPlace} (h : DataW.Trod enc Try.prog W base (fun _ => true) held 45 (Value.slice a len cap) d p) :
    ∃ L, L.length = len ∧ Shows W (.slice a len cap) L := by
  obtain ⟨⟨h1, h2⟩, h3⟩ := in_elems (n := 1) Try.underlying45 (by kernel_rfl) (by omega) h
  by_cases h0 : 0 < len
  · obtain ⟨g, off, rfl, hx⟩ := h3 h0
    obtain ⟨L, hl, hL⟩ := list_of (P := fun i r => ∃ u, W.cell? ⟨g, off + i, none⟩ = some u ∧ Sees W u r) len (fun i hi => by
      obtain ⟨cs, fu, y, hlen, hcell, hy⟩ := hx i hi
      obtain ⟨v, rfl⟩ := list1 hlen
      obtain ⟨l, hs⟩ := in_bytes hy
      have := hcell 0 v rfl
      rw [Nat.mul_one, Nat.add_zero] at this
      exact ⟨l, v, this, hs⟩)
    exact ⟨L, hl, _, cap, by rw [hl], by omega, h2, fun _ => ⟨g, off, rfl, hL⟩⟩
  · have : len = 0 := by omega
    subst this
    exact ⟨[], rfl, a, cap, rfl, Nat.zero_le _, h2, fun h => by simp at h⟩
end Go.Proofs.Ytoaeapnkefjpaaa

namespace Go.Proofs.Ytoaeapnkefjpaaa
open Go.ChangeShapes Go.WideShapes Go.ChangeAt Go.RowKit
set_option linter.unusedVariables false
set_option linter.unusedSimpArgs false

theorem weightsAll_mem {H : Type} {P : Program} {e : TypeId} : ∀ {ds : List (DataW H)} {d : DataW H}, d ∈ ds → ∀ n ∈ d.weights P e, n ∈ DataW.weightsAll P e ds
  | [], d, h, n, hn => by simp at h
  | x :: r, d, h, n, hn => by
    rw [DataW.weightsAll]
    rcases List.mem_cons.1 h with rfl | h
    · exact List.mem_append.2 (.inl hn)
    · exact List.mem_append.2 (.inr (weightsAll_mem h n hn))
theorem bytes5 : Try.prog.bytesOf 5 = 1 := by kernel_rfl
set_option maxRecDepth 100000 in
theorem in_bytes_sized {H : Type} {enc : TypeId × Value → H} {W : World} {base : Nat} {held : Bool} {fuel : Nat} {v : Value} {y : DataW H × List MemPlace} (h : DataW.trod enc Try.prog W base (fun _ => true) held fuel 23 [v] = some y) :
    ∃ l, Sees W v l ∧ ((∀ n ∈ y.1.weights Try.prog 23, n ≤ reachBytes) → l.length ≤ 140737488355328) := by
  rcases open_ints Try.underlying23 Try.underlying5 (by kernel_rfl) h with ⟨hcs, _⟩ | ⟨x, l, c, zs, hcs, _, hl, hm, hz, hy, hcell, hwz⟩
  · simp at hcs
    subst hcs
    exact ⟨[], Sees.nil W, fun _ => by simp⟩
  · simp at hcs
    subst hcs
    replace hz : zs.length = c := by simpa using hz
    obtain ⟨r, hrl, hr⟩ := sees_in (w := W) (a := some x) (len := l) (cap := c) (zs := zs) (.inr ⟨x, rfl, hl, hm, hz, hcell, hwz⟩)
    refine ⟨r, hr, fun hw => ?_⟩
    have h1 := hw ((((lits .u8 (zs.take l)).length + (lits .u8 (zs.drop l)).length) : Nat) * Try.prog.bytesOf 5) (by rw [hy]; rw [DataW.weights, Try.underlying23]; exact List.mem_cons_self ..)
    rw [bytes5] at h1
    simp only [lits, List.length_map, List.length_take, List.length_drop, reachBytes] at h1
    omega
set_option maxRecDepth 100000 in
theorem in_elems_sized {H : Type} {enc : TypeId × Value → H} {W : World} {base : Nat} {sp : Nat → Bool} {held : Bool} {t e : TypeId} {n : Nat} {a : Option Addr} {len cap : Nat} {d : DataW H} {p : List MemPlace} (ht : Try.prog.underlying t = some (.slice e)) (hc : Try.prog.cellsOf e = n) (hn : 0 < n)
    (h : DataW.Trod enc Try.prog W base sp held t (Value.slice a len cap) d p) :
    (len ≤ cap ∧ cap ≤ maxLen) ∧ (0 < len → ∃ g off, a = some ⟨g, off, none⟩ ∧ ∀ i, i < len → ∃ (cs : List Value) (fuel : Nat) (y : DataW H × List MemPlace), cs.length = n ∧ (∀ j v, cs[j]? = some v → W.cell? ⟨g, off + i * n + j, none⟩ = some v) ∧ DataW.trod enc Try.prog W base sp held fuel e cs = some y ∧ ∀ n ∈ y.1.weights Try.prog e, n ∈ d.weights Try.prog t) := by
  obtain ⟨fuel, hf⟩ := h
  rcases Deep.open_slice ht hf with ⟨hcs, _⟩ | ⟨x, l, c, m, k, D, Pl, hcs, _, hl, hm, hmm, hd, hx⟩
  · simp [Value.cells] at hcs
    obtain ⟨rfl, rfl, rfl⟩ := hcs
    exact ⟨⟨Nat.le_refl _, Nat.zero_le _⟩, fun h => absurd h (by omega)⟩
  · simp [Value.cells] at hcs
    obtain ⟨rfl, rfl, rfl⟩ := hcs
    refine ⟨⟨hl, hm⟩, fun h0 => ?_⟩
    have hlm : len ≤ m := by rw [hmm]; split <;> omega
    have hde : d = .slice ((List.range len).map D) ((List.range (m - len)).map fun j => D (len + j)) := (Prod.mk.inj hd).1
    have key : ∀ i, i < len → ∃ (cs : List Value) (fuel : Nat) (y : DataW H × List MemPlace), cs.length = n ∧ (∀ j, (hj : j < cs.length) → W.cell? ((x.add (i * n)).add j) = some cs[j]) ∧ DataW.trod enc Try.prog W base sp held fuel e cs = some y ∧ ∀ n ∈ y.1.weights Try.prog e, n ∈ d.weights Try.prog t := by
      intro i hi
      obtain ⟨cs', h1, h2⟩ := hx i (by omega)
      rw [hc] at h1
      obtain ⟨_, hlen, hcell⟩ := World.cells?_some h1
      refine ⟨cs', k, _, hlen, fun j hj => (hcell j (by omega)).trans (List.getElem?_eq_getElem hj), h2, fun q hq => ?_⟩
      rw [hde, DataW.weights, ht]
      refine List.mem_cons_of_mem _ (List.mem_append.2 (.inl (weightsAll_mem (d := D i) ?_ q hq)))
      exact List.mem_map.2 ⟨i, List.mem_range.2 hi, rfl⟩
    obtain ⟨g, off, spot⟩ := x
    obtain ⟨cs, _, _, hlen, h1, -⟩ := key 0 h0
    have hs : spot = none := by simpa [Addr.add] using World.cell?_spot (h1 0 (by omega))
    subst hs
    refine ⟨g, off, rfl, fun i hi => ?_⟩
    obtain ⟨cs, fu, y, hlen, h1, h2, h3⟩ := key i hi
    refine ⟨cs, fu, y, hlen, fun j v hj => ?_, h2, h3⟩
    have hjl := (List.getElem?_eq_some_iff.1 hj).1
    have := h1 j hjl
    rw [add_off, add_off] at this
    rw [this, ← hj, List.getElem?_eq_getElem hjl]
set_option maxRecDepth 100000 in
theorem in_recs_sized {H : Type} {enc : TypeId × Value → H} {W : World} {base : Nat} {held : Bool} {a : Option Addr} {len cap : Nat} {d : DataW H} {p : List MemPlace} (h : DataW.Trod enc Try.prog W base (fun _ => true) held 45 (Value.slice a len cap) d p)
    (hw : ∀ n ∈ d.weights Try.prog 45, n ≤ reachBytes) :
    ∃ L, L.length = len ∧ Shows W (.slice a len cap) L ∧ ∀ r ∈ L, r.length ≤ 140737488355328 := by
  obtain ⟨⟨h1, h2⟩, h3⟩ := in_elems_sized (n := 1) Try.underlying45 (by kernel_rfl) (by omega) h
  by_cases h0 : 0 < len
  · obtain ⟨g, off, rfl, hx⟩ := h3 h0
    obtain ⟨L, hl, hL⟩ := list_of (P := fun i r => (∃ u, W.cell? ⟨g, off + i, none⟩ = some u ∧ Sees W u r) ∧ r.length ≤ 140737488355328) len (fun i hi => by
      obtain ⟨cs, fu, y, hlen, hcell, hy, hz⟩ := hx i hi
      obtain ⟨v, rfl⟩ := list1 hlen
      obtain ⟨l, hs, hb⟩ := in_bytes_sized hy
      have := hcell 0 v rfl
      rw [Nat.mul_one, Nat.add_zero] at this
      exact ⟨l, ⟨v, this, hs⟩, hb (fun n hn => hw n (hz n hn))⟩)
    refine ⟨L, hl, ⟨_, cap, by rw [hl], by omega, h2, fun _ => ⟨g, off, rfl, fun i r hr => (hL i r hr).1⟩⟩, fun r hr => ?_⟩
    obtain ⟨i, hi⟩ := List.getElem?_of_mem hr
    exact (hL i r hi).2
  · have : len = 0 := by omega
    subst this
    exact ⟨[], rfl, ⟨a, cap, rfl, Nat.zero_le _, h2, fun h => by simp at h⟩, fun r hr => by simp at hr⟩
end Go.Proofs.Ytoaeapnkefjpaaa

namespace Go.Proofs.Ytoaeapnkefjpaaa
open Go.ChangeShapes Go.WideShapes Go.ChangeAt Go.RowKit
set_option linter.unusedVariables false
set_option linter.unusedSimpArgs false

theorem arr5 {cs : Array Value} (h : cs.size = 5) : ∃ a b c d e, cs = #[a, b, c, d, e] := by
  obtain ⟨l⟩ := cs
  match l, h with
  | [a, b, c, d, e], _ => exact ⟨a, b, c, d, e, rfl⟩
set_option maxRecDepth 100000 in
/-- The place, by value. -/
theorem in_place {H : Type} {enc : TypeId × Value → H} {W : World} {base : Nat} {held : Bool} {r : Reach} {b0 : Nat} {v : Value} {d : DataW H} {p : List MemPlace} (hv : Value.okWide Try.prog W r b0 94 v) (h : DataW.Trod enc Try.prog W base (fun _ => true) held 94 v d p)
    (hw : ∀ n ∈ d.weights Try.prog 94, n ≤ reachBytes) :
    ∃ pg lo hi sp fv first, v = .agg #[.int .i64 pg, .int .i64 lo, .int .i64 hi, fv, .int .i64 sp] ∧ (-9223372036854775808 ≤ pg ∧ pg ≤ 9223372036854775807) ∧ (-9223372036854775808 ≤ lo ∧ lo ≤ 9223372036854775807) ∧ (-9223372036854775808 ≤ hi ∧ hi ≤ 9223372036854775807) ∧ (-9223372036854775808 ≤ sp ∧ sp ≤ 9223372036854775807) ∧ Sees W fv first ∧ first.length ≤ 140737488355328 := by
  have c94 : Try.prog.cellsOf 94 = 5 := by kernel_rfl
  have c3 : Try.prog.cellsOf 3 = 1 := by kernel_rfl
  have c23 : Try.prog.cellsOf 23 = 1 := by kernel_rfl
  obtain ⟨cs, rfl, hs⟩ := okWide_struct Try.underlying94 hv
  obtain ⟨v0, v1, v2, v3, v4, rfl⟩ := arr5 (hs.trans c94)
  obtain ⟨fuel, hy⟩ := h
  obtain ⟨xs, k, -, hd, -, hxl, hxx⟩ := DataW.trod_struct Try.underlying94 hy
  have e : (Value.agg #[v0, v1, v2, v3, v4]).cells.toList = [v0, v1, v2, v3, v4] := rfl
  rw [e] at hxx
  have g0 : DataW.trod enc Try.prog W base (fun _ => true) held k 3 (([v0, v1, v2, v3, v4].drop 0).take (Try.prog.cellsOf 3)) = xs[0]? := hxx 0 _ rfl
  have g1 : DataW.trod enc Try.prog W base (fun _ => true) held k 3 (([v0, v1, v2, v3, v4].drop 1).take (Try.prog.cellsOf 3)) = xs[1]? := hxx 1 _ rfl
  have g2 : DataW.trod enc Try.prog W base (fun _ => true) held k 3 (([v0, v1, v2, v3, v4].drop 2).take (Try.prog.cellsOf 3)) = xs[2]? := hxx 2 _ rfl
  have g3 : DataW.trod enc Try.prog W base (fun _ => true) held k 23 (([v0, v1, v2, v3, v4].drop 3).take (Try.prog.cellsOf 23)) = xs[3]? := hxx 3 _ rfl
  have g4 : DataW.trod enc Try.prog W base (fun _ => true) held k 3 (([v0, v1, v2, v3, v4].drop 4).take (Try.prog.cellsOf 3)) = xs[4]? := hxx 4 _ rfl
  replace hxl : xs.length = 5 := hxl
  simp only [c3, c23] at g0 g1 g2 g3 g4
  rw [List.getElem?_eq_getElem (by omega)] at g0 g1 g2 g4
  obtain ⟨y3, hy3⟩ : ∃ y3, xs[3]? = some y3 := ⟨_, List.getElem?_eq_getElem (by omega)⟩
  rw [hy3] at g3
  simp at g0 g1 g2 g3 g4
  obtain ⟨n0, e0, -, w0⟩ := DataW.trod_int Try.underlying3 g0
  obtain ⟨n1, e1, -, w1⟩ := DataW.trod_int Try.underlying3 g1
  obtain ⟨n2, e2, -, w2⟩ := DataW.trod_int Try.underlying3 g2
  obtain ⟨n4, e4, -, w4⟩ := DataW.trod_int Try.underlying3 g4
  obtain ⟨first, hf, hfb⟩ := in_bytes_sized g3
  simp at e0 e1 e2 e4
  subst e0 e1 e2 e4
  refine ⟨n0, n1, n2, n4, v3, first, rfl, bounds_i64 w0, bounds_i64 w1, bounds_i64 w2, bounds_i64 w4, hf, hfb (fun n hn => hw n ?_)⟩
  have hde : d = .agg (xs.map (·.1)) := (Prod.mk.inj hd).1
  rw [hde, DataW.weights, Try.underlying94]
  exact DataW.weights_mem_each (j := 3) (t := 23) (d := y3.1) rfl (by rw [List.getElem?_map, hy3]; rfl) n hn
set_option maxRecDepth 100000 in
/-- A script of the tape's that came in. -/
theorem in_scr {H : Type} {enc : TypeId × Value → H} {W : World} {base : Nat} {held : Bool} {a : Option Addr} {len cap : Nat} {d : DataW H} {p : List MemPlace} (h : DataW.Trod enc Try.prog W base (fun _ => true) held 95 (Value.slice a len cap) d p)
    (hw : ∀ n ∈ d.weights Try.prog 95, n ≤ reachBytes) : ∃ L : List Cl, L.length = len ∧ IsScr W a L ∧ ScrOk L := by
  have c3 : Try.prog.cellsOf 3 = 1 := by kernel_rfl
  have c23 : Try.prog.cellsOf 23 = 1 := by kernel_rfl
  obtain ⟨⟨h1, h2⟩, h3⟩ := in_elems_sized (n := 4) Try.underlying95 (by kernel_rfl) (by omega) h
  unfold maxLen at h2
  by_cases h0 : 0 < len
  rotate_left
  · have : len = 0 := by omega
    subst this
    exact ⟨[], rfl, fun h => by simp at h, ⟨fun x hx => by simp at hx, fun x hx => by simp at hx, fun x hx => by simp at hx, by simp⟩⟩
  obtain ⟨g, off, rfl, hx⟩ := h3 h0
  obtain ⟨L, hl, hL⟩ := list_of (P := fun i (x : Cl) => (W.cell? ⟨g, off + i * 4, none⟩ = some (I x.1) ∧ W.cell? ⟨g, off + i * 4 + 1, none⟩ = some (I x.2.1) ∧ W.cell? ⟨g, off + i * 4 + 2, none⟩ = some (I x.2.2.1) ∧ ∃ u, W.cell? ⟨g, off + i * 4 + 3, none⟩ = some u ∧ Sees W u x.2.2.2) ∧
      (-9223372036854775808 ≤ x.2.1 ∧ x.2.1 ≤ 9223372036854775807) ∧ (-9223372036854775808 ≤ x.2.2.1 ∧ x.2.2.1 ≤ 9223372036854775807) ∧ x.2.2.2.length ≤ 140737488355328) len (fun i hi => by
    obtain ⟨cs, fu, y, hlen, hcell, hy, hz⟩ := hx i hi
    obtain ⟨v0, v1, v2, v3, rfl⟩ := list4 hlen
    obtain ⟨xs, k, -, hd, -, hxl, hxx⟩ := DataW.trod_struct Try.underlying101 hy
    have g0 : DataW.trod enc Try.prog W base (fun _ => true) held k 3 (([v0, v1, v2, v3].drop 0).take (Try.prog.cellsOf 3)) = xs[0]? := hxx 0 _ rfl
    have g1 : DataW.trod enc Try.prog W base (fun _ => true) held k 3 (([v0, v1, v2, v3].drop 1).take (Try.prog.cellsOf 3)) = xs[1]? := hxx 1 _ rfl
    have g2 : DataW.trod enc Try.prog W base (fun _ => true) held k 3 (([v0, v1, v2, v3].drop 2).take (Try.prog.cellsOf 3)) = xs[2]? := hxx 2 _ rfl
    have g3 : DataW.trod enc Try.prog W base (fun _ => true) held k 23 (([v0, v1, v2, v3].drop 3).take (Try.prog.cellsOf 23)) = xs[3]? := hxx 3 _ rfl
    replace hxl : xs.length = 4 := hxl
    simp only [c3, c23] at g0 g1 g2 g3
    rw [List.getElem?_eq_getElem (by omega)] at g0 g1 g2
    obtain ⟨y3, hy3⟩ : ∃ y3, xs[3]? = some y3 := ⟨_, List.getElem?_eq_getElem (by omega)⟩
    rw [hy3] at g3
    simp at g0 g1 g2 g3
    obtain ⟨n0, e0, -, w0⟩ := DataW.trod_int Try.underlying3 g0
    obtain ⟨n1, e1, -, w1⟩ := DataW.trod_int Try.underlying3 g1
    obtain ⟨n2, e2, -, w2⟩ := DataW.trod_int Try.underlying3 g2
    obtain ⟨bs, hf, hfb⟩ := in_bytes_sized g3
    simp at e0 e1 e2
    subst e0 e1 e2
    refine ⟨(n0, n1, n2, bs), ⟨hcell 0 _ rfl, hcell 1 _ rfl, hcell 2 _ rfl, v3, hcell 3 _ rfl, hf⟩, bounds_i64 w1, bounds_i64 w2, hfb (fun n hn => hw n (hz n ?_))⟩
    have hde : y.1 = .agg (xs.map (·.1)) := by rw [hd]
    rw [hde, DataW.weights, Try.underlying101]
    exact DataW.weights_mem_each (j := 3) (t := 23) (d := y3.1) rfl (by rw [List.getElem?_map, hy3]; rfl) n hn)
  refine ⟨L, hl, fun _ => ⟨g, off, rfl, fun i x hx => (hL i x hx).1⟩, ⟨fun x hx => ?_, fun x hx => ?_, fun x hx => ?_, by omega⟩⟩
  · obtain ⟨i, hi⟩ := List.getElem?_of_mem hx
    exact (hL i x hi).2.1
  · obtain ⟨i, hi⟩ := List.getElem?_of_mem hx
    exact (hL i x hi).2.2.1
  · obtain ⟨i, hi⟩ := List.getElem?_of_mem hx
    exact (hL i x hi).2.2.2
end Go.Proofs.Ytoaeapnkefjpaaa

namespace Go.Proofs.Ytoaeapnkefjpaaa
open Go.ChangeShapes Go.WideShapes Go.ChangeAt Go.RowKit
set_option linter.unusedVariables false
set_option linter.unusedSimpArgs false
set_option maxRecDepth 100000 in
/-- A script of the pair's that came in. -/
theorem in_scr5 {H : Type} {enc : TypeId × Value → H} {W : World} {base : Nat} {held : Bool} {a : Option Addr} {len cap : Nat} {d : DataW H} {p : List MemPlace} (h : DataW.Trod enc Try.prog W base (fun _ => true) held 38 (Value.slice a len cap) d p)
    (hw : ∀ n ∈ d.weights Try.prog 38, n ≤ reachBytes) : ∃ L : List Cl, L.length = len ∧ IsScr W a L ∧ ScrOk L := by
  have c3 : Try.prog.cellsOf 3 = 1 := by kernel_rfl
  have c23 : Try.prog.cellsOf 23 = 1 := by kernel_rfl
  obtain ⟨⟨h1, h2⟩, h3⟩ := in_elems_sized (n := 4) Try.underlying38 (by kernel_rfl) (by omega) h
  unfold maxLen at h2
  by_cases h0 : 0 < len
  rotate_left
  · have : len = 0 := by omega
    subst this
    exact ⟨[], rfl, fun h => by simp at h, ⟨fun x hx => by simp at hx, fun x hx => by simp at hx, fun x hx => by simp at hx, by simp⟩⟩
  obtain ⟨g, off, rfl, hx⟩ := h3 h0
  obtain ⟨L, hl, hL⟩ := list_of (P := fun i (x : Cl) => (W.cell? ⟨g, off + i * 4, none⟩ = some (I x.1) ∧ W.cell? ⟨g, off + i * 4 + 1, none⟩ = some (I x.2.1) ∧ W.cell? ⟨g, off + i * 4 + 2, none⟩ = some (I x.2.2.1) ∧ ∃ u, W.cell? ⟨g, off + i * 4 + 3, none⟩ = some u ∧ Sees W u x.2.2.2) ∧
      (-9223372036854775808 ≤ x.2.1 ∧ x.2.1 ≤ 9223372036854775807) ∧ (-9223372036854775808 ≤ x.2.2.1 ∧ x.2.2.1 ≤ 9223372036854775807) ∧ x.2.2.2.length ≤ 140737488355328) len (fun i hi => by
    obtain ⟨cs, fu, y, hlen, hcell, hy, hz⟩ := hx i hi
    obtain ⟨v0, v1, v2, v3, rfl⟩ := list4 hlen
    obtain ⟨xs, k, -, hd, -, hxl, hxx⟩ := DataW.trod_struct Try.underlying53 hy
    have g0 : DataW.trod enc Try.prog W base (fun _ => true) held k 3 (([v0, v1, v2, v3].drop 0).take (Try.prog.cellsOf 3)) = xs[0]? := hxx 0 _ rfl
    have g1 : DataW.trod enc Try.prog W base (fun _ => true) held k 3 (([v0, v1, v2, v3].drop 1).take (Try.prog.cellsOf 3)) = xs[1]? := hxx 1 _ rfl
    have g2 : DataW.trod enc Try.prog W base (fun _ => true) held k 3 (([v0, v1, v2, v3].drop 2).take (Try.prog.cellsOf 3)) = xs[2]? := hxx 2 _ rfl
    have g3 : DataW.trod enc Try.prog W base (fun _ => true) held k 23 (([v0, v1, v2, v3].drop 3).take (Try.prog.cellsOf 23)) = xs[3]? := hxx 3 _ rfl
    replace hxl : xs.length = 4 := hxl
    simp only [c3, c23] at g0 g1 g2 g3
    rw [List.getElem?_eq_getElem (by omega)] at g0 g1 g2
    obtain ⟨y3, hy3⟩ : ∃ y3, xs[3]? = some y3 := ⟨_, List.getElem?_eq_getElem (by omega)⟩
    rw [hy3] at g3
    simp at g0 g1 g2 g3
    obtain ⟨n0, e0, -, w0⟩ := DataW.trod_int Try.underlying3 g0
    obtain ⟨n1, e1, -, w1⟩ := DataW.trod_int Try.underlying3 g1
    obtain ⟨n2, e2, -, w2⟩ := DataW.trod_int Try.underlying3 g2
    obtain ⟨bs, hf, hfb⟩ := in_bytes_sized g3
    simp at e0 e1 e2
    subst e0 e1 e2
    refine ⟨(n0, n1, n2, bs), ⟨hcell 0 _ rfl, hcell 1 _ rfl, hcell 2 _ rfl, v3, hcell 3 _ rfl, hf⟩, bounds_i64 w1, bounds_i64 w2, hfb (fun n hn => hw n (hz n ?_))⟩
    have hde : y.1 = .agg (xs.map (·.1)) := by rw [hd]
    rw [hde, DataW.weights, Try.underlying53]
    exact DataW.weights_mem_each (j := 3) (t := 23) (d := y3.1) rfl (by rw [List.getElem?_map, hy3]; rfl) n hn)
  refine ⟨L, hl, fun _ => ⟨g, off, rfl, fun i x hx => (hL i x hx).1⟩, ⟨fun x hx => ?_, fun x hx => ?_, fun x hx => ?_, by omega⟩⟩
  · obtain ⟨i, hi⟩ := List.getElem?_of_mem hx
    exact (hL i x hi).2.1
  · obtain ⟨i, hi⟩ := List.getElem?_of_mem hx
    exact (hL i x hi).2.2.1
  · obtain ⟨i, hi⟩ := List.getElem?_of_mem hx
    exact (hL i x hi).2.2.2
end Go.Proofs.Ytoaeapnkefjpaaa
