/-
  Part 7 of what PairDoes lean on: contracts of the functions that they reach, and plain lemmas. Conditions: those that each lemma names.
-/
import Derived.Test.YtoaeapnkefjpaaaPX5
import Derived.Test.YtoaeapnkefjpaaaPX6
namespace Go.Proofs.Ytoaeapnkefjpaaa
open Go.RowKit
set_option linter.unusedVariables false
set_option linter.unusedSimpArgs false
set_option maxRecDepth 100000 in
set_option maxHeartbeats 1600000 in
theorem palike_any (w : World) (v1 v2 : Value) (L1 L2 : List (List UInt8)) (h1 : Shows w v1 L1) (h2 : Shows w v2 L2) : Calls Try.prog 49 #[v1, v2] w fun e w' => e = .returned (.bool (decide (L1 = L2))) ∧ ∃ m, w' = w.drewN m := by
  obtain ⟨a1, c1, rfl, l1⟩ := h1.len
  obtain ⟨a2, c2, rfl, l2⟩ := h2.len
  unfold maxLen at l1 l2
  have H1 := hid h1
  have H2 := hid h2
  obtain ⟨b, hb⟩ : ∃ b, b = decide (L1 = L2) := ⟨_, rfl⟩
  rw [← hb]
  have HB := hid hb
  clear h1 h2 hb
  by_cases hl : L1.length = L2.length
  rotate_left
  · have hl' : ((L1.length : Int) != (L2.length : Int)) = true := by simp; omega
    have hb : b = false := by rw [HB.out, decide_eq_false_iff_not]; intro e; exact hl (by rw [e])
    clear HB hl
    go_enter Try.func49, Try.ntmps49
    go_wp2
    go_ret
    exact ⟨by rw [hb]; rfl, 0, rfl⟩
  obtain ⟨n, hn⟩ : ∃ n, n = L1.length := ⟨_, rfl⟩
  have hn2 : n = L2.length := hn.trans hl
  rw [← hn, ← hn2]
  rw [← hn] at l1 H1
  rw [← hn2] at H2
  have HN := hid hn
  have HN2 := hid hn2
  clear hn hn2 hl l2
  go_enter Try.func49, Try.ntmps49
  go_wp2
  go_loopw [13] (fun i wr => ∃ (j m : Nat), j ≤ n ∧ i = I j ∧ Hid (L1.take j = L2.take j) ∧ Hid (wr = w.drewN m)) (fun i _ => n - (intOf i).toNat)
  case atStart => exact ⟨0, 0, by omega, rfl, hid rfl, hid rfl⟩
  case round =>
    obtain ⟨j, m, hj, rfl, HT, HW⟩ := hrel
    by_cases hlt : j < n
    · obtain ⟨r1, hr1⟩ : ∃ r1, L1[j]? = some r1 := ⟨_, List.getElem?_eq_getElem (by have := HN.out; omega)⟩
      obtain ⟨r2, hr2⟩ : ∃ r2, L2[j]? = some r2 := ⟨_, List.getElem?_eq_getElem (by have := HN2.out; omega)⟩
      obtain ⟨g1, o1, u1, rfl, hc1, hs1⟩ := H1.out.at hr1
      obtain ⟨g2, o2, u2, rfl, hc2, hs2⟩ := H2.out.at hr2
      have bw : Below w.heap.size w wr := by rw [HW.out]; exact below_drewN w m
      have k1 : ∀ w', Ext wr.drew w' → w'.cell? ⟨g1, o1 + j, none⟩ = some u1 := fun w' hh => (Ext.trans _ _ _ bw (Ext.trans _ _ _ (Ext.drew wr) hh)).cell hc1
      have k2 : ∀ w', Ext wr.drew w' → w'.cell? ⟨g2, o2 + j, none⟩ = some u2 := fun w' hh => (Ext.trans _ _ _ bw (Ext.trans _ _ _ (Ext.drew wr) hh)).cell hc2
      have k3 : ∀ w', Ext wr.drew w' → (convert 23 9 u1).run Try.prog w' = .ok (.string (str r1)) w' := fun w' hh => run_str Try.underlying23 Try.underlying5 Try.underlying9 (hs1.below (Ext.trans _ _ _ bw (Ext.trans _ _ _ (Ext.drew wr) hh)))
      have k4 : ∀ w', Ext wr.drew w' → (convert 23 9 u2).run Try.prog w' = .ok (.string (str r2)) w' := fun w' hh => run_str Try.underlying23 Try.underlying5 Try.underlying9 (hs2.below (Ext.trans _ _ _ bw (Ext.trans _ _ _ (Ext.drew wr) hh)))
      have HR1 := hid hr1
      have HR2 := hid hr2
      have hse := str_eq r1 r2
      clear hc1 hc2 hs1 hs2 bw hr1 hr2
      by_cases he : r1 = r2
      · have hb : decide (r1 = r2) = true := decide_eq_true he
        have HE := hid he
        clear he
        go_wp2
        refine wp_region_order Ext [] [(0,0),(1,0),(2,0),(3,0),(4,0),(5,0),(6,0),(7,0),(8,0),(9,0),(10,0)] _ (by kernel_rfl) rfl Ext.refl Ext.trans (by kernel_rfl) (by simp only [pick, List.getElem?_toArray, List.getElem?_cons_zero, List.getElem?_cons_succ]; rfl) (fun c a d v w h => by cases d <;> exact h) ?_
        refine wpK_q (v := ?_) (a' := ?_) (by rfl) (fun w' hR => ?_) ?_ ?_
        rotate_left 2
        · go_simp; with_reducible rfl
        · simp only [Act.put, List.setIfInBounds_toArray, List.set_cons_zero, List.set_cons_succ]; rfl
        refine wpK_q (v := ?_) (a' := ?_) (by rfl) (fun w' hR => ?_) ?_ ?_
        rotate_left 2
        · go_simp; with_reducible rfl
        · simp only [Act.put, List.setIfInBounds_toArray, List.set_cons_zero, List.set_cons_succ]; rfl
        refine wpK_q (v := ?_) (a' := ?_) (by rfl) (fun w' hR => ?_) ?_ ?_
        rotate_left 2
        · go_simp; with_reducible rfl
        · simp only [Act.put, List.setIfInBounds_toArray, List.set_cons_zero, List.set_cons_succ]; rfl
        refine wpK_q (v := ?_) (a' := ?_) (by rfl) (fun w' hR => ?_) ?_ ?_
        rotate_left 2
        · go_simp; with_reducible rfl
        · simp only [Act.put, List.setIfInBounds_toArray, List.set_cons_zero, List.set_cons_succ]; rfl
        refine wpK_q (v := ?_) (a' := ?_) (by rfl) (fun w' hR => ?_) ?_ ?_
        rotate_left 2
        · go_simp; with_reducible rfl
        · simp only [Act.put, List.setIfInBounds_toArray, List.set_cons_zero, List.set_cons_succ]; rfl
        refine wpK_q (v := ?_) (a' := ?_) (by rfl) (fun w' hR => ?_) ?_ ?_
        rotate_left 2
        · go_simp; with_reducible rfl
        · simp only [Act.put, List.setIfInBounds_toArray, List.set_cons_zero, List.set_cons_succ]; rfl
        refine wpK_q (v := ?_) (a' := ?_) (by rfl) (fun w' hR => ?_) ?_ ?_
        rotate_left 2
        · go_simp; with_reducible rfl
        · simp only [Act.put, List.setIfInBounds_toArray, List.set_cons_zero, List.set_cons_succ]; rfl
        refine wpK_q (v := ?_) (a' := ?_) (by rfl) (fun w' hR => ?_) ?_ ?_
        rotate_left 2
        · go_simp; with_reducible rfl
        · simp only [Act.put, List.setIfInBounds_toArray, List.set_cons_zero, List.set_cons_succ]; rfl
        refine wpK_q (v := ?_) (a' := ?_) (by rfl) (fun w' hR => ?_) ?_ ?_
        rotate_left 2
        · go_simp; with_reducible rfl
        · simp only [Act.put, List.setIfInBounds_toArray, List.set_cons_zero, List.set_cons_succ]; rfl
        refine wpK_q (v := ?_) (a' := ?_) (by rfl) (fun w' hR => ?_) ?_ ?_
        rotate_left 2
        · go_simp; with_reducible rfl
        · simp only [Act.put, List.setIfInBounds_toArray, List.set_cons_zero, List.set_cons_succ]; rfl
        refine wpK_q (v := ?_) (a' := ?_) (by rfl) (fun w' hR => ?_) ?_ ?_
        rotate_left 2
        · go_simp; with_reducible rfl
        · simp only [Act.put, List.setIfInBounds_toArray, List.set_cons_zero, List.set_cons_succ]; rfl
        refine wpK_done ?_
        clear k1 k2 k3 k4
        go_wp2
        go_roundw
        case rel =>
          refine ⟨j + 1, m + 1, by omega, by go_num, hid ?_, hid ?_⟩
          · rw [take_snoc HR1.out, take_snoc HR2.out, HT.out, HE.out]
          · rw [HW.out]; rfl
        case measure => simp [intOf]; omega
      · have hb : decide (r1 = r2) = false := decide_eq_false he
        have hbf : b = false := by
          rw [HB.out, decide_eq_false_iff_not]
          intro e
          have h1 := HR1.out
          rw [e, HR2.out] at h1
          exact he (Option.some.inj h1).symm
        have HBF := hid hbf
        clear he hbf HB
        go_wp2
        refine wp_region_order Ext [] [(0,0),(1,0),(2,0),(3,0),(4,0),(5,0),(6,0),(7,0),(8,0),(9,0),(10,0)] _ (by kernel_rfl) rfl Ext.refl Ext.trans (by kernel_rfl) (by simp only [pick, List.getElem?_toArray, List.getElem?_cons_zero, List.getElem?_cons_succ]; rfl) (fun c a d v w h => by cases d <;> exact h) ?_
        refine wpK_q (v := ?_) (a' := ?_) (by rfl) (fun w' hR => ?_) ?_ ?_
        rotate_left 2
        · go_simp; with_reducible rfl
        · simp only [Act.put, List.setIfInBounds_toArray, List.set_cons_zero, List.set_cons_succ]; rfl
        refine wpK_q (v := ?_) (a' := ?_) (by rfl) (fun w' hR => ?_) ?_ ?_
        rotate_left 2
        · go_simp; with_reducible rfl
        · simp only [Act.put, List.setIfInBounds_toArray, List.set_cons_zero, List.set_cons_succ]; rfl
        refine wpK_q (v := ?_) (a' := ?_) (by rfl) (fun w' hR => ?_) ?_ ?_
        rotate_left 2
        · go_simp; with_reducible rfl
        · simp only [Act.put, List.setIfInBounds_toArray, List.set_cons_zero, List.set_cons_succ]; rfl
        refine wpK_q (v := ?_) (a' := ?_) (by rfl) (fun w' hR => ?_) ?_ ?_
        rotate_left 2
        · go_simp; with_reducible rfl
        · simp only [Act.put, List.setIfInBounds_toArray, List.set_cons_zero, List.set_cons_succ]; rfl
        refine wpK_q (v := ?_) (a' := ?_) (by rfl) (fun w' hR => ?_) ?_ ?_
        rotate_left 2
        · go_simp; with_reducible rfl
        · simp only [Act.put, List.setIfInBounds_toArray, List.set_cons_zero, List.set_cons_succ]; rfl
        refine wpK_q (v := ?_) (a' := ?_) (by rfl) (fun w' hR => ?_) ?_ ?_
        rotate_left 2
        · go_simp; with_reducible rfl
        · simp only [Act.put, List.setIfInBounds_toArray, List.set_cons_zero, List.set_cons_succ]; rfl
        refine wpK_q (v := ?_) (a' := ?_) (by rfl) (fun w' hR => ?_) ?_ ?_
        rotate_left 2
        · go_simp; with_reducible rfl
        · simp only [Act.put, List.setIfInBounds_toArray, List.set_cons_zero, List.set_cons_succ]; rfl
        refine wpK_q (v := ?_) (a' := ?_) (by rfl) (fun w' hR => ?_) ?_ ?_
        rotate_left 2
        · go_simp; with_reducible rfl
        · simp only [Act.put, List.setIfInBounds_toArray, List.set_cons_zero, List.set_cons_succ]; rfl
        refine wpK_q (v := ?_) (a' := ?_) (by rfl) (fun w' hR => ?_) ?_ ?_
        rotate_left 2
        · go_simp; with_reducible rfl
        · simp only [Act.put, List.setIfInBounds_toArray, List.set_cons_zero, List.set_cons_succ]; rfl
        refine wpK_q (v := ?_) (a' := ?_) (by rfl) (fun w' hR => ?_) ?_ ?_
        rotate_left 2
        · go_simp; with_reducible rfl
        · simp only [Act.put, List.setIfInBounds_toArray, List.set_cons_zero, List.set_cons_succ]; rfl
        refine wpK_q (v := ?_) (a' := ?_) (by rfl) (fun w' hR => ?_) ?_ ?_
        rotate_left 2
        · go_simp; with_reducible rfl
        · simp only [Act.put, List.setIfInBounds_toArray, List.set_cons_zero, List.set_cons_succ]; rfl
        refine wpK_done ?_
        clear k1 k2 k3 k4
        go_wp2
        go_ret
        refine ⟨by rw [HBF.out]; rfl, m + 1, ?_⟩
        rw [HW.out]; rfl
    · obtain rfl : j = n := by omega
      have hbt : b = true := by
        rw [HB.out, decide_eq_true_eq]
        have := HT.out
        rwa [List.take_of_length_le (by have := HN.out; omega), List.take_of_length_le (by have := HN2.out; omega)] at this
      have HBT := hid hbt
      clear hbt HB
      go_wp2
      go_ret
      exact ⟨by rw [HBT.out]; rfl, m, HW.out⟩

set_option maxRecDepth 100000 in
theorem rhalf_any (w : World) (p : Nat) (own : Nat → Prop) (D : DS) (h : RefAt w p own D) : Calls Try.prog 85 #[.pointer (some ⟨p, 0, none⟩)] w fun e w' => e = .returned (I (PS.hp D.safe.length)) ∧ w = w' := by
  obtain ⟨as0, cs, cc0, -⟩ := h.cells
  have hn := h.ok.n2
  have hn1 := h.ok.n1
  have hw : IntKind.i64.wrap ((D.safe.length : Int) - 1) = (D.safe.length : Int) - 1 := IntWalk.i64_in _ (by omega)
  clear h
  go_enter Try.func85, Try.ntmps85
  go_wp2
  go_ret
  refine ⟨ret_int ?_, rfl⟩
  unfold PS.hp
  omega
set_option maxRecDepth 100000 in
theorem rtakes_any (w : World) (m : Nat) (hm : m ≤ 1099511627776) : Calls Try.prog 86 #[I m] w fun e w' => e = .returned (I (PS.takes m)) ∧ w = w' := by
  have hT : 256 * PS.takes m ≤ m + 267 ∧ m + 12 ≤ 256 * PS.takes m := by unfold PS.takes; omega
  generalize PS.takes m = T at *
  have hw1 : IntKind.i64.wrap (12 + (m : Int)) = 12 + (m : Int) := IntWalk.i64_in _ (by omega)
  go_enter Try.func86, Try.ntmps86
  go_wp2
  go_loopw [3] (fun i wr => ∃ k : Nat, k ≤ T ∧ i = I k ∧ Hid (wr = w)) (fun i _ => T - (intOf i).toNat)
  case atStart => exact ⟨0, by omega, rfl, hid rfl⟩
  case round =>
    obtain ⟨k, hk, rfl, HW⟩ := hrel
    have hw2 : IntKind.i64.wrap (256 * (k : Int)) = 256 * (k : Int) := IntWalk.i64_in _ (by omega)
    by_cases hlt : k < T
    · have f1 : 256 * (k : Int) < 12 + (m : Int) := by omega
      go_wp2
      go_roundw
      case rel => exact ⟨k + 1, by omega, by go_num, HW⟩
      case measure => simp [intOf]; omega
    · have f1 : ¬ 256 * (k : Int) < 12 + (m : Int) := by omega
      have hkt : k = T := by omega
      have HKT := hid hkt
      clear hkt
      go_wp2
      go_ret
      exact ⟨by first | rfl | (rw [HKT.out]; rfl), HW.out.symm⟩
set_option maxRecDepth 100000 in
set_option maxHeartbeats 1600000 in
theorem plong_any (w : World) (a1 : Option Addr) (cap : Nat) (L : List Cl) (hs : IsScr w a1 L) (hok : ScrOk L) :
    Calls Try.prog 35 #[.slice a1 L.length cap] w fun e w' => ∃ b, e = .returned (.bool b) ∧ (b = false → L.length ≤ 60 ∧ ∀ x ∈ L, x.2.2.2.length ≤ 16384) ∧ Below w.heap.size w w' := by
  have HS := hid hs
  have HOK := hid hok
  have hll := hok.l
  clear hs hok
  go_enter Try.func35, Try.ntmps35
  go_wp2
  go_loopw [3, 8] (fun n i wr => ∃ (k m : Nat), k ≤ L.length ∧ n = I m ∧ i = I k ∧ m ≤ 16384 ∧ Hid (∀ j x, j < k → L[j]? = some x → x.2.2.2.length ≤ m) ∧ Hid (Below w.heap.size w wr)) (fun _ i _ => L.length - (intOf i).toNat)
  case atStart => exact ⟨0, 0, by omega, rfl, rfl, by omega, hid (fun j x hj => by omega), hid (Below.refl _ _)⟩
  case round =>
    obtain ⟨k, m, hk, rfl, rfl, hm1, HM, HB⟩ := hrel
    by_cases hlt : k < L.length
    · have f1 : decide ((k : Int) < (L.length : Int)) = true := decide_eq_true (by omega)
      obtain ⟨x, hx⟩ : ∃ x, L[k]? = some x := ⟨_, List.getElem?_eq_getElem hlt⟩
      obtain ⟨g, off, rfl, hc⟩ := (HS.out.below HB.out) (by omega)
      obtain ⟨e0, e1, e2, u, e3, hu⟩ := hc k x hx
      have hxb := HOK.out.b x (List.mem_of_getElem? hx)
      obtain ⟨xk, xn, xj, xb⟩ := x
      simp only at e0 e1 e2 hu hxb
      obtain ⟨au, cu, rfl, hul⟩ := hu.form0
      have HX := hid hx
      have hba : Below wr.heap.size wr (wr.alloc (.cells #[I xk, I xn, I xj, .slice au xb.length cu] 53)) := (Below.refl _ _).alloc (Nat.le_refl _) _
      have HBA := hid (HB.out.trans (hba.mono HB.out.size))
      clear hc hu hx hba
      have hw1 : IntKind.i64.wrap ((m : Int) + (xb.length : Int)) = (m : Int) + (xb.length : Int) := IntWalk.i64_in _ (by omega)
      by_cases h6 : 16384 < m + xb.length
      · have f2 : decide ((16384 : Int) < (m : Int) + (xb.length : Int)) = true := decide_eq_true (by omega)
        go_wp2
        go_ret
        exact ⟨true, rfl, fun h => (by cases h), HBA.out⟩
      · have f2 : decide ((16384 : Int) < (m : Int) + (xb.length : Int)) = false := decide_eq_false (by omega)
        go_wp2
        go_roundw
        case rel =>
          refine ⟨k + 1, m + xb.length, by omega, by go_num, by go_num, by omega, hid (fun j y hj hy => ?_), HBA⟩
          by_cases e : j = k
          · subst e
            rw [HX.out] at hy
            obtain rfl := Option.some.inj hy
            show xb.length ≤ m + xb.length
            omega
          · have := HM.out j y (by omega) hy
            omega
        case measure => simp [intOf]; omega
    · have hke : k = L.length := by omega
      have HKE := hid hke
      have HBR := HB
      obtain ⟨bb, hbb⟩ : ∃ bb, bb = decide ((L.length : Int) > 60) := ⟨_, rfl⟩
      have HBB := hid hbb
      clear hke
      go_wp2
      go_ret
      refine ⟨bb, by rw [hbb]; first | rfl | simp, fun hf => ⟨?_, fun x hx => ?_⟩, HBR.out⟩
      · have h1 := HBB.out
        rw [hf] at h1
        have := of_decide_eq_false h1.symm
        omega
      · obtain ⟨j, hj⟩ := List.getElem?_of_mem hx
        have := HM.out j x (by rw [HKE.out]; exact (List.getElem?_eq_some_iff.1 hj).1) hj
        omega
set_option maxRecDepth 100000 in
set_option maxHeartbeats 1600000 in
theorem psame_any (w w0 : World) (p pm : Nat) (od om : Nat → Prop) (D : DS) (h : Both w0 od p om pm D D w) : Calls Try.prog 55 #[.pointer (some ⟨p, 0, none⟩), .pointer (some ⟨pm, 0, none⟩)] w fun e w' => e = .returned (.bool true) ∧ Below w.heap.size w w' := by
  have H := hid h
  obtain ⟨as0, cs, cc0, cc3, cc4, cfr⟩ := h.m.cells
  clear h cfr
  have hn := H.out.m.ok.n2
  have hn1 := H.out.m.ok.n1
  have hz := below_drewN w
  have HZ := hid hz
  clear hz
  have hdn := fun n => down_any (w.drewN n) p od D (H.out.drewN n).d
  cases ho : D.off with
  | true =>
    rw [ho] at cc3 hdn
    have HDN := hid hdn
    clear hdn ho
    have f0 : decide ((0 : Int) < (D.safe.length : Int)) = true := decide_eq_true (by omega)
    have f1 : (0 : Int) < (D.safe.length : Int) := by omega
    go_enter Try.func55, Try.ntmps55
    go_wp2_with fail
    go_quiet ((first | (go_at_call 59; exact quiet_mine (ops_any _ _ _ _ (H.out.drewN _).d)) | (go_at_call 61; exact quiet_mine (HDN.out _)) | (go_at_call 60; exact quiet_mine (pages_any _ _ _ _ (H.out.drewN _).d))))
    have cc0' : (w.drewN nq).cell? ⟨pm, 0, none⟩ = some (.slice as0 D.safe.length cs) := cc0
    have HDN1 := hid (HDN.out nq)
    have HB1 := hid (HZ.out nq)
    clear cc0 cc3 cc4 HDN HZ H
    generalize w.drewN nq = w1 at *
    go_wp2_with fail
    go_loopw [5] (fun i wr => i = I 0 ∧ Hid (wr = w1)) (fun _ _ => 0)
    case atStart => exact ⟨rfl, hid rfl⟩
    case round =>
      obtain ⟨rfl, HW⟩ := hrel
      obtain rfl := HW.out
      go_wp2_with (go_at_call 61; refine HDN1.out.mono ?_; rintro e w2 ⟨rfl, rfl⟩)
      go_ret
      exact ⟨rfl, HB1.out⟩
  | false =>
    rw [ho] at cc3 hdn
    have HDN := hid hdn
    have HO := hid ho
    clear hdn ho
    go_enter Try.func55, Try.ntmps55
    go_wp2_with fail
    go_quiet ((first | (go_at_call 59; exact quiet_mine (ops_any _ _ _ _ (H.out.drewN _).d)) | (go_at_call 61; exact quiet_mine (HDN.out _)) | (go_at_call 60; exact quiet_mine (pages_any _ _ _ _ (H.out.drewN _).d))))
    have H1 := hid (H.out.drewN nq)
    have HB1 := hid (HZ.out nq)
    have cc0' : (w.drewN nq).cell? ⟨pm, 0, none⟩ = some (.slice as0 D.safe.length cs) := cc0
    clear cc0 cc3 cc4 H HDN HZ
    generalize w.drewN nq = w1 at *
    have HCC := hid cc0'
    clear cc0'
    go_wp2_with fail
    go_loopw [5] (fun i wr => ∃ k : Nat, k ≤ D.safe.length ∧ i = I k ∧ Hid (Below w1.heap.size w1 wr)) (fun i _ => D.safe.length - (intOf i).toNat)
    case atStart => exact ⟨0, by omega, rfl, hid (Below.refl _ _)⟩
    case round =>
      obtain ⟨k, hk, rfl, HB⟩ := hrel
      have cc1 := cell_on HB.out HCC.out
      by_cases hlt : k < D.safe.length
      · have f1 : decide ((k : Int) < (D.safe.length : Int)) = true := decide_eq_true (by omega)
        have f2 : (k : Int) < (D.safe.length : Int) := by omega
        have hdn := down_any wr p od D (H1.out.on HB.out).d
        rw [HO.out] at hdn
        have HDN1 := hid hdn
        have hrd := read_any wr p od D (k : Int) (H1.out.on HB.out).d (by omega)
        rw [DS.read_ok HO.out hlt] at hrd
        have hll : (DS.look D.safe D.waits k).length = 256 := DS.look_len H1.out.m.ok.page H1.out.m.ok.wait hlt
        have hlk := fun (w' : World) (hb : Below wr.heap.size wr w') => rlook_any w' pm om D k ((H1.out.on HB.out).on hb).m hlt
        generalize DS.look D.safe D.waits k = q at *
        unfold Fresh2 at hrd
        simp only [hll] at hrd
        have HRD := hid hrd
        have HLK := hid hlk
        have HLL := hid hll
        clear hrd hlk hll hdn
        go_upto_region 7 with (first | (go_at_call 61; refine HDN1.out.mono ?_; rintro e w2 ⟨rfl, rfl⟩; clear HDN1) | (go_at_call 58; refine HRD.out.mono ?_; rintro e w2 ⟨v2, rfl, ho2, hb2⟩; obtain ⟨a2, c2, rfl⟩ := own_form ho2; have HS2 := hid (own_sees' ho2 HLL.out); have HB2 := hid hb2; clear ho2 hb2))
        have k2 : ∀ w', Ext w2.drew w' → (convert 23 9 (.slice a2 256 c2)).run Try.prog w' = .ok (.string (str q)) w' := fun w' hh => run_str Try.underlying23 Try.underlying5 Try.underlying9 (HS2.out.below (Ext.trans _ _ _ (Ext.drew w2) hh))
        have hlk2 := HLK.out w2.drew (HB2.out.trans ((Ext.drew w2).mono HB2.out.size))
        clear cc1
        refine wp_region_order Ext [] [(0,0),(1,0),(2,0),(3,0),(4,0),(5,0),(6,0),(7,1),(8,0),(9,0),(10,0)] _ (by kernel_rfl) rfl Ext.refl Ext.trans (by kernel_rfl) (by simp only [pick, List.getElem?_toArray, List.getElem?_cons_zero, List.getElem?_cons_succ]; rfl) (fun c a d v w h => by cases d <;> exact h) ?_
        refine wpK_q (v := ?_) (a' := ?_) (by rfl) (fun w' hR => ?_) ?_ ?_
        rotate_left 2
        · go_simp; with_reducible rfl
        · simp only [Act.put, List.setIfInBounds_toArray, List.set_cons_zero, List.set_cons_succ]; rfl
        refine wpK_q (v := ?_) (a' := ?_) (by rfl) (fun w' hR => ?_) ?_ ?_
        rotate_left 2
        · go_simp; with_reducible rfl
        · simp only [Act.put, List.setIfInBounds_toArray, List.set_cons_zero, List.set_cons_succ]; rfl
        refine wpK_q (v := ?_) (a' := ?_) (by rfl) (fun w' hR => ?_) ?_ ?_
        rotate_left 2
        · go_simp; with_reducible rfl
        · simp only [Act.put, List.setIfInBounds_toArray, List.set_cons_zero, List.set_cons_succ]; rfl
        refine wpK_q (v := ?_) (a' := ?_) (by rfl) (fun w' hR => ?_) ?_ ?_
        rotate_left 2
        · go_simp; with_reducible rfl
        · simp only [Act.put, List.setIfInBounds_toArray, List.set_cons_zero, List.set_cons_succ]; rfl
        refine wpK_q (v := ?_) (a' := ?_) (by rfl) (fun w' hR => ?_) ?_ ?_
        rotate_left 2
        · go_simp; with_reducible rfl
        · simp only [Act.put, List.setIfInBounds_toArray, List.set_cons_zero, List.set_cons_succ]; rfl
        refine wpK_q (v := ?_) (a' := ?_) (by rfl) (fun w' hR => ?_) ?_ ?_
        rotate_left 2
        · go_simp; with_reducible rfl
        · simp only [Act.put, List.setIfInBounds_toArray, List.set_cons_zero, List.set_cons_succ]; rfl
        refine wpK_q (v := ?_) (a' := ?_) (by rfl) (fun w' hR => ?_) ?_ ?_
        rotate_left 2
        · go_simp; with_reducible rfl
        · simp only [Act.put, List.setIfInBounds_toArray, List.set_cons_zero, List.set_cons_succ]; rfl
        refine wpK_call Try.func84 (by kernel_rfl) rfl rfl (by rfl) #[.pointer (some ⟨pm, 0, none⟩), .int .i64 (k : Int)] (by simp only [List.map_toArray, List.map_cons, List.map_nil]; rfl) ?_
        refine hlk2.mono ?_
        rintro e w3 ⟨rfl, v3, rfl, hs3, -⟩
        refine ⟨_, rfl, fun _ => Ext.refl _, ?_⟩
        have k3 : ∀ w', Ext w2.drew w' → (convert 23 9 v3).run Try.prog w' = .ok (.string (str q)) w' := fun w' hh => run_str Try.underlying23 Try.underlying5 Try.underlying9 (hs3.below hh)
        have hse : ((str q).toList == (str q).toList) = true := beq_self_eq_true _
        refine wpK_q (v := ?_) (a' := ?_) (by rfl) (fun w' hR => ?_) ?_ ?_
        rotate_left 2
        · go_simp; with_reducible rfl
        · simp only [Act.put, List.setIfInBounds_toArray, List.set_cons_zero, List.set_cons_succ]; rfl
        refine wpK_q (v := ?_) (a' := ?_) (by rfl) (fun w' hR => ?_) ?_ ?_
        rotate_left 2
        · go_simp; with_reducible rfl
        · simp only [Act.put, List.setIfInBounds_toArray, List.set_cons_zero, List.set_cons_succ]; rfl
        refine wpK_q (v := ?_) (a' := ?_) (by rfl) (fun w' hR => ?_) ?_ ?_
        rotate_left 2
        · go_simp; with_reducible rfl
        · simp only [Act.put, List.setIfInBounds_toArray, List.set_cons_zero, List.set_cons_succ]; rfl
        refine wpK_done ?_
        have HBX := hid (HB.out.trans ((HB2.out.trans ((Ext.drew w2).mono HB2.out.size)).mono HB.out.size))
        clear k2 k3 hlk2 hs3
        go_wp2_with fail
        go_roundw
        case rel => exact ⟨k + 1, by omega, by go_num, HBX⟩
        case measure => simp [intOf]; omega
      · have f1 : decide ((k : Int) < (D.safe.length : Int)) = false := decide_eq_false (by omega)
        have f2 : ¬ (k : Int) < (D.safe.length : Int) := by omega
        go_wp2_with fail
        go_ret
        exact ⟨rfl, HB1.out.trans (HB.out.mono HB1.out.size)⟩
end Go.Proofs.Ytoaeapnkefjpaaa

namespace Go.Proofs.Ytoaeapnkefjpaaa
open Go.RowKit
set_option linter.unusedVariables false
set_option linter.unusedSimpArgs false

/-- The document's pair at block q, its tape at t, over its drum at p, of n pages. -/
structure RPairIn (w : World) (q t p n : Nat) (P : PS) : Prop where
  hq : w.heap[q]? = some (.cells #[.pointer (some ⟨p, 0, none⟩), I P.half, .pointer (some ⟨t, 0, none⟩), I P.sick] 67 (0, 0))
  tape : RTapeIn w t p n P.T
  half : P.half ≤ 1
  sick : -9223372036854775808 ≤ P.sick ∧ P.sick ≤ 9223372036854775807
  ne : q ≠ t
  n5 : 5 ≤ n
section
variable {w w' : World} {q t p n : Nat} {P : PS}
theorem RPairIn.ql (h : RPairIn w q t p n P) : q < w.heap.size := (Array.getElem?_eq_some_iff.1 h.hq).1
theorem RPairIn.keep (h : RPairIn w q t p n P) (hb : w'.heap[q]? = w.heap[q]?) (ht : w'.heap[t]? = w.heap[t]?) : RPairIn w' q t p n P := ⟨hb.trans h.hq, h.tape.keep ht, h.half, h.sick, h.ne, h.n5⟩
theorem RPairIn.below (h : RPairIn w q t p n P) (hb : Below w.heap.size w w') : RPairIn w' q t p n P := h.keep (hb.block q h.ql) (hb.block t h.tape.lt)
theorem RPairIn.c0 (h : RPairIn w q t p n P) : w.cell? ⟨q, 0, none⟩ = some (.pointer (some ⟨p, 0, none⟩)) := by rw [cell_of_row w q _ _ _ _ h.hq]; rfl
theorem RPairIn.c1 (h : RPairIn w q t p n P) : w.cell? ⟨q, 1, none⟩ = some (I P.half) := by rw [cell_of_row w q _ _ _ _ h.hq]; rfl
theorem RPairIn.c2 (h : RPairIn w q t p n P) : w.cell? ⟨q, 2, none⟩ = some (.pointer (some ⟨t, 0, none⟩)) := by rw [cell_of_row w q _ _ _ _ h.hq]; rfl
theorem RPairIn.c3 (h : RPairIn w q t p n P) : w.cell? ⟨q, 3, none⟩ = some (I P.sick) := by rw [cell_of_row w q _ _ _ _ h.hq]; rfl
theorem RPairIn.fr (h : RPairIn w q t p n P) : ∀ i, w.frozen? ⟨q, i, none⟩ = false := frozen_row h.hq
end
/-- What the document's Open answers. -/
def ROpened5 (w : World) (p n : Nat) (X : Int × List UInt8 × List (List UInt8) × PS) (e : Ending) (w' : World) : Prop :=
  ((X.1 ≠ 0 ∧ e = .returned (.tuple #[.pointer none, .slice none 0 0, .slice none 0 0, I X.1])) ∨
  (X.1 = 0 ∧ ∃ q t vb vl, e = .returned (.tuple #[.pointer (some ⟨q, 0, none⟩), vb, vl, I 0]) ∧ RPairIn w' q t p n X.2.2.2 ∧ w.heap.size ≤ q ∧ w.heap.size ≤ t ∧ Sees w' vb X.2.1 ∧ Shows w' vl X.2.2.1)) ∧ Below w.heap.size w w'
set_option maxRecDepth 100000 in
theorem ropen5_few (w : World) (p : Nat) (own : Nat → Prop) (D : DS) (hd : RefAt w p own D) (h5 : D.safe.length < 5) : Calls Try.prog 39 #[.pointer (some ⟨p, 0, none⟩)] w fun e w' => e = .returned (.tuple #[.pointer none, .slice none 0 0, .slice none 0 0, I 1]) ∧ w = w' := by
  obtain ⟨as0, cs, cc0, -⟩ := hd.cells
  have hlt : (D.safe.length : Int) < 5 := by omega
  clear hd h5
  go_enter Try.func39, Try.ntmps39
  go_wp2
  refine bodyPost_ret (results_tmp4 rfl _ _ _) rfl ?_
  exact ⟨rfl, rfl⟩
set_option maxRecDepth 100000 in
theorem ropen5_off (w : World) (p : Nat) (own : Nat → Prop) (D : DS) (hd : RefAt w p own D) (h5 : 5 ≤ D.safe.length) (ho : D.off = true) : Calls Try.prog 39 #[.pointer (some ⟨p, 0, none⟩)] w fun e w' => e = .returned (.tuple #[.pointer none, .slice none 0 0, .slice none 0 0, I 20]) ∧ w = w' := by
  obtain ⟨as0, cs, cc0, cc3, -⟩ := hd.cells
  rw [ho] at cc3
  have hlt : ¬ (D.safe.length : Int) < 5 := by omega
  clear hd h5
  go_enter Try.func39, Try.ntmps39
  go_wp2
  refine bodyPost_ret (results_tmp4 rfl _ _ _) rfl ?_
  exact ⟨rfl, rfl⟩
/-- Are the first i bytes noughts? -/
def zeroB (S : List UInt8) (i : Nat) : Bool := decide (S.take i = List.replicate i 0)
theorem zeroB_zero (S : List UInt8) : zeroB S 0 = true := by unfold zeroB; simp
theorem zeroB_succ {S : List UInt8} {i : Nat} {c : UInt8} (h : S[i]? = some c) : zeroB S (i + 1) = (zeroB S i && decide (c = 0)) := by
  unfold zeroB
  have h1 : S.take (i + 1) = S.take i ++ [c] := by rw [List.take_add_one, h]; rfl
  have h2 : List.replicate (i + 1) (0 : UInt8) = List.replicate i 0 ++ [0] := by rw [List.replicate_succ']
  rw [h1, h2]
  by_cases e1 : S.take i = List.replicate i 0
  · rw [e1]
    by_cases e2 : c = 0
    · rw [e2]; simp
    · rw [decide_eq_false e2]; simp [e2]
  · rw [decide_eq_false e1, Bool.false_and, decide_eq_false_iff_not]
    intro e
    have := congrArg (List.take (S.take i).length) e
    rw [List.take_left' rfl] at this
    have hl : (S.take i).length = i := by rw [List.length_take]; have := (List.getElem?_eq_some_iff.1 h).1; omega
    rw [hl, List.take_left' (List.length_replicate ..)] at this
    exact e1 this
/-- The number of four bytes. -/
theorem PS.num4_eq {S : List UInt8} {a b c d : UInt8} (h0 : S[0]? = some a) (h1 : S[1]? = some b) (h2 : S[2]? = some c) (h3 : S[3]? = some d) : 16777216 * (a.toNat : Int) + 65536 * (b.toNat : Int) + 256 * (c.toNat : Int) + (d.toNat : Int) = (PS.num4 S : Int) := by
  have e : S.take 4 = [a, b, c, d] := by
    rw [show (4 : Nat) = 3 + 1 from rfl, List.take_add_one, List.take_add_one, List.take_add_one, List.take_add_one, h0, h1, h2, h3]
    rfl
  have ha := a.toNat_lt
  have hb := b.toNat_lt
  have hc := c.toNat_lt
  have hd := d.toNat_lt
  unfold PS.num4
  rw [e]
  simp only [Sum.num, Sum.nst, List.foldl_cons, List.foldl_nil]
  omega
end Go.Proofs.Ytoaeapnkefjpaaa

namespace Go.Proofs.Ytoaeapnkefjpaaa
open Go.RowKit
set_option linter.unusedVariables false
set_option linter.unusedSimpArgs false

/-- A save's raw work behind its pages. -/
def PS.lay2 (D : DS) (h : Nat) : Int × DS :=
  let x3 := D.Flush
  if x3.1 ≠ 0 then x3 else
  let x4 := x3.2.write 0 (PS.rootPage h)
  if x4.1 ≠ 0 then x4 else x4.2.Flush
/-- All pages that a save lays in a half. -/
def PS.ps (b : List UInt8) : List (List UInt8) := PS.paged b ++ [page0]
theorem PS.ps_len (b : List UInt8) : (PS.ps b).length = PS.takes b.length + 1 := by unfold PS.ps; rw [List.length_append, PS.paged_len]; rfl
theorem PS.lay_eq (D : DS) (a h : Nat) (b : List UInt8) : PS.lay D a h b = if (TS.wr D a (PS.ps b)).1 ≠ 0 then TS.wr D a (PS.ps b) else PS.lay2 (TS.wr D a (PS.ps b)).2 h := by
  have hz : (List.replicate 256 0 : List UInt8) = page0 := rfl
  unfold PS.lay PS.lay2 PS.ps
  simp only
  by_cases h1 : (TS.wr D a (PS.paged b)).1 = 0
  · rw [if_neg (by rw [h1]; simp)]
    have e : TS.wr D a (PS.paged b) = (0, (TS.wr D a (PS.paged b)).2) := by rw [← h1]
    rw [TS.wr_snoc D a (PS.paged b) page0 e, PS.paged_len, hz]
  · rw [if_pos h1, TS.wr_stop D a (PS.paged b) [page0] h1, if_pos h1]
/-- A page of the snapshot, cut from a longer row. -/
theorem PS.page_cut {b : List UInt8} {i : Nat} (hi : i < PS.takes b.length) : (PS.ps b)[i]? = some (((PS.framed b ++ List.replicate 512 0).drop (256 * i)).take 256) := by
  have hK : PS.takes b.length * 256 ≤ b.length + 267 := by unfold PS.takes; omega
  have hK2 : b.length + 12 ≤ PS.takes b.length * 256 := by unfold PS.takes; omega
  unfold PS.ps
  rw [List.getElem?_append_left (by rw [PS.paged_len]; exact hi), PS.paged_at b hi]
  congr 1
  unfold PS.all
  have e : (PS.framed b ++ List.replicate 512 (0 : UInt8)).take (PS.takes b.length * 256) = PS.framed b ++ List.replicate (PS.takes b.length * 256 - 12 - b.length) 0 := by
    rw [List.take_append, PS.framed_len, List.take_of_length_le (by rw [PS.framed_len]; omega), List.take_replicate]
    congr 2
    omega
  rw [← e, List.drop_take, List.take_take]
  congr 1
  omega
theorem wr_snoc_at {D : DS} {a i : Nat} {l : List (List UInt8)} {p : List UInt8} {D1 : DS} (h : TS.wr D a l = (0, D1)) (hl : l.length = i) : TS.wr D a (l ++ [p]) = D1.write ((a : Int) + (i : Int)) p := by
  rw [TS.wr_snoc D a l p h, hl, Int.natCast_add]
theorem own_page (w : World) (l : List UInt8) (hl : l.length = 256) : (w.alloc (.cells (l.map B).toArray 5)).ownsRow w.heap.size 5 1 (.slice (some ⟨w.heap.size, 0, none⟩) 256 256) 256 (l.map B) := by
  refine ⟨by rw [List.length_map, hl], .inr ⟨w.heap.size, 256, _, rfl, Nat.le_refl _, heap_alloc_new w _, Nat.le_refl _, by unfold maxLen; omega, by rw [List.size_toArray, List.length_map, hl], ?_⟩⟩
  rw [List.take_of_length_le (by rw [List.length_map, hl]; omega)]
/-- Between two pages. -/
structure PLW (w : World) (p : Nat) (own : Nat → Prop) (D : DS) (a : Nat) (ps : List (List UInt8)) (i : Nat) (wr : World) : Prop where
  ex : ∃ Di own', TS.wr D a (ps.take i) = (0, Di) ∧ RefAt wr p own' Di ∧ (∀ k, own' k → own k ∨ w.heap.size ≤ k) ∧ Mod own w wr
theorem page_fresh {own' : Nat → Prop} {wr : World} {p : Nat} {Di : DS} (h : RefAt wr p own' Di) (c : Nat) : ∀ k, (Value.slice (some ⟨wr.heap.size, 0, none⟩) 256 c).ownBlock = some k → ¬ own' k := fun k hk ho => by
  have e : wr.heap.size = k := Option.some.inj hk
  have := h.lt k ho
  omega
set_option maxRecDepth 100000 in
set_option maxHeartbeats 6400000 in
theorem rlay5_any (w : World) (q t p : Nat) (own : Nat → Prop) (P : PS) (D : DS) (v : Value) (b : List UInt8) (lo : Nat) (h : RPairIn w q t p D.safe.length P) (hd : RefAt w p own D) (hq : ¬ own q) (hv : Sees w v b) (hb : b.length ≤ 1073741824) (hlo : lo ≤ 4096) (hK : PS.takes b.length ≤ 4096) (hN : D.waits.length ≤ 700000000) :
    Calls Try.prog 90 #[.pointer (some ⟨q, 0, none⟩), I lo, v] w fun e w' => e = .returned (I (PS.lay D lo (1 - P.half) b).1) ∧ Reffed' own p w (PS.lay D lo (1 - P.half) b).2 w' := by
  obtain ⟨av, cv, rfl, hbl⟩ := hv.form0
  obtain ⟨X, hX⟩ : ∃ X, X = PS.lay D lo (1 - P.half) b := ⟨_, rfl⟩
  rw [← hX]
  rw [PS.lay_eq] at hX
  obtain ⟨K, hKe⟩ : ∃ K, K = PS.takes b.length := ⟨_, rfl⟩
  obtain ⟨hf, hhf⟩ : ∃ hf, hf = 1 - P.half := ⟨_, rfl⟩
  have hf1 : hf ≤ 1 := by omega
  have hhi : (P.half : Int) = 1 - (hf : Int) := by have := h.half; omega
  rw [← hhf] at hX
  have hK2 : K * 256 ≤ b.length + 267 ∧ b.length + 12 ≤ K * 256 := by rw [hKe]; unfold PS.takes; omega
  have htk : ∀ w', Calls Try.prog 86 #[I b.length] w' fun e w'' => e = .returned (I K) ∧ w' = w'' := fun w' => by rw [hKe]; exact rtakes_any w' b.length (by omega)
  have hfr := rframe5_any w (.slice av b.length cv) b hv hb
  obtain ⟨F, hF⟩ : ∃ F, F = PS.framed b := ⟨_, rfl⟩
  have hFl : F.length = 12 + b.length := by rw [hF, PS.framed_len]
  rw [← hF] at hfr
  have HX := hid hX
  have HKE := hid hKe
  have HTK := hid htk
  have HFR := hid hfr
  have H := hid h
  have HD := hid hd
  have HQ := hid hq
  have HF := hid hF
  have HFL := hid hFl
  have HHI := hid hhi
  have hmk := fun w => run_page0 w 23 rfl
  rw [← hKe] at hK
  clear hX htk hfr h hd hq hv hF hFl hKe hhf hhi
  go_enter Try.func90, Try.ntmps90
  go_upto_region 2 with (go_at_call 86; refine (HTK.out _).mono ?_; rintro e w3 ⟨rfl, rfl⟩)
  go_wp2_with (first | (go_at_call 76; refine HFR.out.mono ?_; rintro e w1 ⟨v1, rfl, ho1, hb1⟩; have ho2 := own_len ho1 HFL.out rfl; obtain ⟨av1, cv1, rfl⟩ := own_form ho2; have HO1 := hid ho2; have HB1 := hid hb1; clear ho1 hb1 ho2) | (at_builtin; go_must (refine wpList_zeros rfl (.tmp 18) (.const (.int .i64 512)) rfl w.heap.size (12 + b.length) (F.map B) 512 rfl HO1.out (by omega) (by omega) HB1.out.size ?_)))
  intro v2 w2 hown hgrow hat
  obtain ⟨G, hG⟩ : ∃ G, G = F ++ List.replicate 512 (0 : UInt8) := ⟨_, rfl⟩
  obtain ⟨m, hm⟩ : ∃ m, m = 12 + b.length + 512 := ⟨_, rfl⟩
  have hGl : G.length = m := by rw [hG, List.length_append, HFL.out, List.length_replicate, hm]
  replace hown : w2.ownsRow w.heap.size 5 1 v2 m (G.map B) := own_len hown hm.symm (by rw [hG, List.map_append, List.map_replicate]; rfl)
  have HB2 := hid (HB1.out.grown hgrow HB1.out.size (fun k hk => (own_lt HO1.out k hk).1))
  obtain ⟨ga, ca, rfl, q1, q2, q3, q4⟩ := own_slice hown (by omega)
  have HROW := hid hown
  have HGA := hid (And.intro q3 q4)
  have HGL := hid hGl
  have hmk2 : K * 256 ≤ m ∧ m ≤ b.length + 524 := by omega
  have hGe : G = PS.framed b ++ List.replicate 512 0 := by rw [hG, HF.out]
  have HGE := hid hGe
  have HDW := hid (HD.out.below HB2.out)
  have HNG : Hid (¬ own ga) := hid (fun ho => by have := HD.out.lt ga ho; omega)
  have HPW := hid (H.out.below HB2.out)
  clear hown hgrow hat HO1 HB1 q2 q3 q4 hG hm hGl hGe HFR
  unfold maxLen at *
  go_wp2_with fail
  go_loopw [9] (fun i wr => ∃ j : Nat, j ≤ K + 1 ∧ i = I j ∧ Hid (PLW w2 p own D lo (PS.ps b) j wr)) (fun i _ => K + 1 - (intOf i).toNat)
  case atStart => exact ⟨0, by omega, rfl, hid ⟨D, own, by simp [TS.wr], HDW.out, fun _ hk => .inl hk, Mod.refl _ _⟩⟩
  case round =>
    obtain ⟨i, hi, rfl, HW⟩ := hrel
    obtain ⟨Di, own', x1, x2, x3, x4⟩ := HW.out.ex
    have hqr := (x4.block q HPW.out.ql HQ.out).trans HPW.out.hq
    have c0 : wr.cell? ⟨q, 0, none⟩ = some (.pointer (some ⟨p, 0, none⟩)) := by rw [cell_of_row _ _ _ _ _ _ hqr]; rfl
    have HQR := hid hqr
    have hwt : Di.waits.length ≤ D.waits.length + i := by
      have := TS.wr_waits ((PS.ps b).take i) D lo
      rw [x1, List.length_take] at this
      simp only at this
      omega
    have hrow := own_mod HROW.out (fun k hk => x4.block k (own_lt HROW.out k hk).2 (fun ho => by
      have e : ga = k := Option.some.inj hk
      subst e
      exact HNG.out ho))
    have HX1 := hid x1
    have HX2 := hid x2
    have HX3 := hid x3
    have HX4 := hid x4
    have HRW := hid hrow
    clear x1 x2 x3 x4 hqr hrow
    have hlw : ∀ pg, (PS.ps b)[i]? = some pg → ∀ c D2, Di.write ((lo : Int) + (i : Int)) pg = (c, D2) → TS.wr D lo ((PS.ps b).take (i + 1)) = (c, D2) := fun pg hpg c D2 hw => by
      rw [take_snoc hpg, wr_snoc_at (i := i) HX1.out (by rw [List.length_take, PS.ps_len, ← HKE.out]; omega)]
      exact hw
    have HLW := hid hlw
    clear hlw
    have hw1 : IntKind.i64.wrap ((lo : Int) + (i : Int)) = (lo : Int) + (i : Int) := IntWalk.i64_in _ (by omega)
    by_cases hlast : i = K + 1
    · have f0 : ¬ i ≤ K := by omega
      have hwe : TS.wr D lo (PS.ps b) = (0, Di) := by
        have := HX1.out
        rwa [List.take_of_length_le (by rw [PS.ps_len, ← HKE.out]; omega)] at this
      have hxe : X = PS.lay2 Di hf := by rw [HX.out, hwe, if_neg (by simp)]
      obtain ⟨Y, hY⟩ : ∃ Y, Y = Di.Flush := ⟨_, rfl⟩
      have hfl := rflush_any wr p own' Di HX2.out
      rw [← hY] at hfl
      unfold PS.lay2 at hxe
      simp only [← hY] at hxe
      obtain ⟨c, D3⟩ := Y
      simp only at hfl hxe
      have HXE := hid hxe
      have HFL2 := hid hfl
      have hwt3 : D3.waits.length ≤ Di.waits.length := by have := DS.Flush_waits Di; rw [← hY] at this; exact this
      clear hwe hxe hfl hY hlast HLW HRW
      go_upto_region 13 with (go_at_call 53; refine HFL2.out.mono ?_; rintro e w5 ⟨rfl, own3, z1, z2, z3⟩; have HZ1 := hid z1; have HZ2 := hid z2; have HZ3 := hid z3; clear z1 z2 z3 HFL2)
      clear c0
      by_cases hc : c = 0
      rotate_left
      · have hcb : (c != 0) = true := by simpa using hc
        have HC := hid hc
        clear hc
        go_wp2
        go_ret
        rw [HXE.out, if_pos HC.out]
        exact ⟨rfl, Reffed'.below (Reffed'.trans HX3.out HX4.out ⟨own3, HZ1.out, HZ2.out, HZ3.out⟩) HB2.out⟩
      subst hc
      have hqr5 := (HZ3.out.block q (Array.getElem?_eq_some_iff.1 HQR.out).1 (fun ho => (HX3.out q ho).elim HQ.out (fun h => by have := HPW.out.ql; omega))).trans HQR.out
      have hbf : (B (UInt8.ofNat hf)) = .int .u8 (hf : Int) := by
        have : hf = 0 ∨ hf = 1 := by omega
        rcases this with e | e <;> rw [e] <;> rfl
      have hcs : (page0.map B).set 0 (.int .u8 (hf : Int)) = (PS.rootPage hf).map B := by rw [← hbf, ← List.map_set]; rfl
      have hb6 : Below w5.heap.size w5 (w5.alloc (.cells (page0.map B).toArray 5)) := (Below.refl _ _).alloc (Nat.le_refl _) _
      have hb7 : Below w5.heap.size w5 (w5.alloc (.cells ((page0.map B).set 0 (.int .u8 (hf : Int))).toArray 5)) := (Below.refl _ _).alloc (Nat.le_refl _) _
      have hrow0 := own_page0 w5
      have hrow1 := own_page w5 (PS.rootPage hf) (PS.rootPage_len hf)
      rw [← hcs] at hrow1
      have hrow2 : Sees (w5.alloc (.cells ((page0.map B).set 0 (.int .u8 (hf : Int))).toArray 5)) (.slice (some ⟨w5.heap.size, 0, none⟩) 256 256) (PS.rootPage hf) := by
        have h1 := hrow1
        rw [hcs] at h1 ⊢
        exact own_sees' h1 (PS.rootPage_len hf)
      have hwr := rwrite_any _ p own3 D3 0 (.slice (some ⟨w5.heap.size, 0, none⟩) 256 256) (PS.rootPage hf) (HZ1.out.below hb7) hrow2 (by omega) (page_fresh HZ1.out 256) (by omega)
      obtain ⟨Y, hY⟩ : ∃ Y, Y = D3.write 0 (PS.rootPage hf) := ⟨_, rfl⟩
      have hxe := HXE.out
      rw [if_neg (by simp)] at hxe
      rw [← hY] at hwr hxe
      obtain ⟨c, D4⟩ := Y
      simp only at hwr hxe
      have c0' : (w5.alloc (.cells (page0.map B).toArray 5)).cell? ⟨q, 0, none⟩ = some (.pointer (some ⟨p, 0, none⟩)) := by rw [cell_of_row _ _ _ _ _ _ ((hb6.block q (Array.getElem?_eq_some_iff.1 hqr5).1).trans hqr5)]; rfl
      have c1' : (w5.alloc (.cells (page0.map B).toArray 5)).cell? ⟨q, 1, none⟩ = some (I P.half) := by rw [cell_of_row _ _ _ _ _ _ ((hb6.block q (Array.getElem?_eq_some_iff.1 hqr5).1).trans hqr5)]; rfl
      have c0'' : w5.cell? ⟨q, 0, none⟩ = some (.pointer (some ⟨p, 0, none⟩)) := by rw [cell_of_row _ _ _ _ _ _ hqr5]; rfl
      have c1'' : w5.cell? ⟨q, 1, none⟩ = some (I P.half) := by rw [cell_of_row _ _ _ _ _ _ hqr5]; rfl
      have c00 := cell_on hb7 c0''
      have hqz : q ≠ w5.heap.size := by have := (Array.getElem?_eq_some_iff.1 hqr5).1; omega
      have hcz : (w5.alloc (.cells (page0.map B).toArray 5)).cell? ⟨w5.heap.size, 0, none⟩ = some (B 0) := own_cell hrow0 (i := 0) rfl
      have hfz := own_frozen hrow0 0
      have hwh : IntKind.i64.wrap (1 - (P.half : Int)) = (hf : Int) := by have := HHI.out; rw [IntWalk.i64_in _ (by omega)]; omega
      have hwu : IntKind.u8.wrap (hf : Int) = (hf : Int) := by
        have : hf = 0 ∨ hf = 1 := by omega
        rcases this with e | e <;> rw [e] <;> rfl
      have HXE2 := hid hxe
      have HWR := hid hwr
      have HB7 := hid hb7
      have HQ7 := hid ((hb7.block q (Array.getElem?_eq_some_iff.1 hqr5).1).trans hqr5)
      have c01 := cell_on hb7 c1''
      clear hxe hwr hb7 hb6 hrow0 hrow1 hrow2 hbf hcs hqr5 hY HXE
      go_upto_region 18 with (go_at_call 51; refine HWR.out.mono ?_; rintro e w6 ⟨rfl, own4, z1, z2, z3⟩; have HY1 := hid z1; have HY2 := hid z2; have HY3 := hid z3; clear z1 z2 z3 HWR)
      clear c00 c01 c0' c1' c0'' c1'' hcz hfz hwh hwu
      by_cases hc : c = 0
      rotate_left
      · have hcb : (c != 0) = true := by simpa using hc
        have HC := hid hc
        clear hc
        go_wp2
        go_ret
        rw [HXE2.out, if_pos HC.out]
        exact ⟨rfl, Reffed'.below (Reffed'.trans HX3.out HX4.out (Reffed'.trans HZ2.out HZ3.out (Reffed'.below ⟨own4, HY1.out, HY2.out, HY3.out⟩ HB7.out))) HB2.out⟩
      subst hc
      have hq3 : ¬ own3 q := fun ho => (HZ2.out q ho).elim (fun ho => (HX3.out q ho).elim HQ.out (fun h => by have := HPW.out.ql; omega)) (fun h => by have := (Array.getElem?_eq_some_iff.1 HQR.out).1; omega)
      have hq6 := (HY3.out.block q (Array.getElem?_eq_some_iff.1 HQ7.out).1 hq3).trans HQ7.out
      have c6 : w6.cell? ⟨q, 0, none⟩ = some (.pointer (some ⟨p, 0, none⟩)) := by rw [cell_of_row _ _ _ _ _ _ hq6]; rfl
      have hxe := HXE2.out
      rw [if_neg (by simp)] at hxe
      have HXE3 := hid hxe
      have HFL3 := hid (rflush_any w6 p own4 D4 HY1.out)
      clear hxe hq3 hq6 HXE2
      go_wp2_with (go_at_call 53; refine HFL3.out.mono ?_; rintro e w8 ⟨rfl, hre⟩; have HRE := hid hre; clear hre)
      go_ret
      rw [HXE3.out]
      exact ⟨rfl, Reffed'.below (Reffed'.trans HX3.out HX4.out (Reffed'.trans HZ2.out HZ3.out (Reffed'.below (Reffed'.trans HY2.out HY3.out HRE.out) HB7.out))) HB2.out⟩
    by_cases hlt : i < K
    · have f0 : i ≤ K := by omega
      have hb6 : Below wr.heap.size wr (wr.alloc (.cells (page0.map B).toArray 5)) := (Below.refl _ _).alloc (Nat.le_refl _) _
      obtain ⟨PG, hPG⟩ : ∃ PG, PG = (G.drop (256 * i)).take 256 := ⟨_, rfl⟩
      have hpe : (PS.ps b)[i]? = some PG := by rw [hPG, HGE.out]; exact PS.page_cut (by rw [← HKE.out]; exact hlt)
      have hPGl : PG.length = 256 := by rw [hPG, List.length_take, List.length_drop, HGL.out]; omega
      have hrow6 := own_below HRW.out hb6
      have hyl : (PG.map B).length = min 256 256 := by rw [List.length_map, hPGl]; rfl
      obtain ⟨w7, hcp, hO7, hM7⟩ := own_copy2 (P := Try.prog) (ys := PG.map B) (own_page0 wr) (a := ⟨ga, 256 * i, none⟩) (sl := 256) (sc := ca - 256 * i) (dT := 23) (sT := 23) (ty := 3) hyl Try.underlying23 z5 (fun j u hu => by
        rw [add_off]
        rw [hPG, List.getElem?_map, List.getElem?_take] at hu
        split at hu
        · rw [List.getElem?_drop] at hu
          exact own_cell hrow6 (by rw [List.getElem?_map]; exact hu)
        · simp at hu) (fun u hu => by obtain ⟨c, _, rfl⟩ := List.mem_map.1 hu; rfl)
      have hO7' : w7.ownsRow wr.heap.size 5 1 (.slice (some ⟨wr.heap.size, 0, none⟩) 256 256) 256 (PG.map B) := own_len hO7 rfl (by rw [List.length_map, hPGl, ← List.map_drop, List.drop_of_length_le (by rw [page0_len]; omega)]; simp)
      have hb7 : Below wr.heap.size wr w7 := hb6.trans (hM7.below hb6.size (fun j hj e => by omega))
      have hwr := rwrite_any w7 p own' Di ((lo : Int) + (i : Int)) (.slice (some ⟨wr.heap.size, 0, none⟩) 256 256) PG (HX2.out.below hb7) (own_sees' hO7' hPGl) (by omega) (page_fresh HX2.out 256) (by omega)
      obtain ⟨Y, hY⟩ : ∃ Y, Y = Di.write ((lo : Int) + (i : Int)) PG := ⟨_, rfl⟩
      rw [← hY] at hwr
      obtain ⟨c, D2⟩ := Y
      simp only at hwr
      have hlen := HLW.out PG hpe c D2 hY.symm
      have HLE := hid hlen
      have HWR := hid hwr
      have c7 : w7.cell? ⟨q, 0, none⟩ = some (.pointer (some ⟨p, 0, none⟩)) := cell_on hb7 c0
      have HB7 := hid hb7
      have tn : (256 * (i : Int)).toNat = 256 * i := by omega
      have tn2 : (256 * (i : Int) + 256).toNat = 256 * i + 256 := by omega
      have tc : ¬ (ca = 256 * i) := by omega
      have hw3 : IntKind.i64.wrap ((256 : Int) * (i : Int)) = 256 * (i : Int) := IntWalk.i64_in _ (by omega)
      have hw4 : IntKind.i64.wrap ((256 : Int) * (i : Int) + 256) = 256 * (i : Int) + 256 := IntWalk.i64_in _ (by omega)
      have tb : 256 * i + 256 - 256 * i = 256 := by omega
      clear hb6 hrow6 hyl hO7 hM7 hO7' hPG hpe hPGl hwr hY hlen hb7 hlast c0
      go_upto_region 10 with (first | (at_builtin; go_must (refine wpList_by rfl (exec_copy rfl _ (by simp only [List.map_toArray, List.map_cons, List.map_nil]; rfl) hcp) ?_)) | (go_at_call 51; refine HWR.out.mono ?_; rintro e w5 ⟨rfl, hre⟩; have HRE := hid (Reffed'.trans HX3.out HX4.out (Reffed'.below hre HB7.out)); clear hre HWR))
      clear hcp tn tn2 tc hw3 hw4 tb c7
      by_cases hc : c = 0
      · subst hc
        obtain ⟨own2, y1, y2, y3⟩ := HRE.out
        have HNX : Hid (PLW w2 p own D lo (PS.ps b) (i + 1) w5) := hid ⟨D2, own2, HLE.out, y1, y2, y3⟩
        clear y1 y2 y3 HRE
        go_wp2
        go_roundw
        case rel => exact ⟨i + 1, by omega, by go_num, HNX⟩
        case measure => simp [intOf]; omega
      · have hcb : (c != 0) = true := by simpa using hc
        have HC := hid hc
        clear hc
        go_wp2
        go_ret
        have hst := TS.wr_stop D lo ((PS.ps b).take (i + 1)) ((PS.ps b).drop (i + 1)) (by rw [HLE.out]; exact HC.out)
        rw [List.take_append_drop, HLE.out] at hst
        have e : X = (c, D2) := by rw [HX.out, hst, if_pos HC.out]
        rw [e]
        exact ⟨rfl, Reffed'.below HRE.out HB2.out⟩
    · have f0 : i ≤ K := by omega
      have hb7 : Below wr.heap.size wr (wr.alloc (.cells (page0.map B).toArray 5)) := (Below.refl _ _).alloc (Nat.le_refl _) _
      have hpe : (PS.ps b)[i]? = some page0 := by
        unfold PS.ps
        rw [List.getElem?_append_right (by rw [PS.paged_len, ← HKE.out]; omega), PS.paged_len, ← HKE.out, show i - K = 0 by omega]
        rfl
      have hwr := rwrite_any _ p own' Di ((lo : Int) + (i : Int)) (.slice (some ⟨wr.heap.size, 0, none⟩) 256 256) page0 (HX2.out.below hb7) (page0_sees wr) (by omega) (page_fresh HX2.out 256) (by omega)
      obtain ⟨Y, hY⟩ : ∃ Y, Y = Di.write ((lo : Int) + (i : Int)) page0 := ⟨_, rfl⟩
      rw [← hY] at hwr
      obtain ⟨c, D2⟩ := Y
      simp only at hwr
      have hlen := HLW.out page0 hpe c D2 hY.symm
      have HLE := hid hlen
      have HWR := hid hwr
      have c7 := cell_on hb7 c0
      have HB7 := hid hb7
      clear hpe hwr hY hlen hb7 hlast c0
      go_upto_region 10 with (go_at_call 51; refine HWR.out.mono ?_; rintro e w5 ⟨rfl, hre⟩; have HRE := hid (Reffed'.trans HX3.out HX4.out (Reffed'.below hre HB7.out)); clear hre HWR)
      clear c7
      by_cases hc : c = 0
      · subst hc
        obtain ⟨own2, y1, y2, y3⟩ := HRE.out
        have HNX : Hid (PLW w2 p own D lo (PS.ps b) (i + 1) w5) := hid ⟨D2, own2, HLE.out, y1, y2, y3⟩
        clear y1 y2 y3 HRE
        go_wp2
        go_roundw
        case rel => exact ⟨i + 1, by omega, by go_num, HNX⟩
        case measure => simp [intOf]; omega
      · have hcb : (c != 0) = true := by simpa using hc
        have HC := hid hc
        clear hc
        go_wp2
        go_ret
        have hst := TS.wr_stop D lo ((PS.ps b).take (i + 1)) ((PS.ps b).drop (i + 1)) (by rw [HLE.out]; exact HC.out)
        rw [List.take_append_drop, HLE.out] at hst
        have e : X = (c, D2) := by rw [HX.out, hst, if_pos HC.out]
        rw [e]
        exact ⟨rfl, Reffed'.below HRE.out HB2.out⟩
end Go.Proofs.Ytoaeapnkefjpaaa

namespace Go.Proofs.Ytoaeapnkefjpaaa
open Go.RowKit
set_option linter.unusedVariables false
set_option linter.unusedSimpArgs false

theorem DS.op_on0 {D : DS} (h : D.op.off = false) : D.op.safe = D.safe ∧ D.op.waits = D.waits := by
  unfold DS.op at h ⊢
  simp only at h ⊢
  by_cases h1 : 0 < D.armed
  · rw [if_pos h1] at h ⊢
    by_cases h2 : D.armed - 1 = 0
    · rw [if_pos h2] at h
      unfold DS.Off at h
      split at h
      · rename_i h3; rw [h3] at h; cases h
      · cases h
    · rw [if_neg h2]
      exact ⟨rfl, rfl⟩
  · rw [if_neg h1]
    exact ⟨rfl, rfl⟩
theorem DS.write_zero {D : DS} {a : Nat} {p : List UInt8} (h : (D.write a p).1 = 0) : a < D.safe.length ∧ (D.write a p).2.safe = D.safe ∧ (D.write a p).2.waits = D.waits ++ [(a, p)] ∧ (D.write a p).2.off = false := by
  unfold DS.write at h ⊢
  by_cases h1 : D.bad a p.length = true
  · rw [if_pos h1] at h; cases h
  · rw [if_neg h1] at h ⊢
    by_cases h2 : D.off = true
    · rw [if_pos h2] at h; cases h
    · rw [if_neg h2] at h ⊢
      simp only at h ⊢
      by_cases h3 : (DS.op { D with waits := D.waits ++ [((a : Int).toNat, p)] }).off = true
      · rw [if_pos h3] at h; cases h
      · rw [if_neg h3]
        have h4 := DS.op_on0 (by simpa using h3)
        simp only [DS.bad, Bool.or_eq_true, decide_eq_true_eq, not_or] at h1
        exact ⟨by omega, h4.1, h4.2, by simpa using h3⟩
theorem DS.Flush_zero {D : DS} (h : D.Flush.1 = 0) : D.Flush.2.safe = DS.flush D.safe D.waits ∧ D.Flush.2.waits = [] ∧ D.Flush.2.off = false := by
  unfold DS.Flush at h ⊢
  by_cases h1 : D.off = true
  · rw [if_pos h1] at h; cases h
  · rw [if_neg h1] at h ⊢
    simp only at h ⊢
    by_cases h2 : D.op.off = true
    · rw [if_pos h2] at h; cases h
    · rw [if_neg h2]
      have h3 := DS.op_on0 (by simpa using h2)
      exact ⟨by show DS.flush D.op.safe D.op.waits = _; rw [h3.1, h3.2], rfl, by show D.op.off = false; simpa using h2⟩
theorem TS.wr_zero : ∀ (ps : List (List UInt8)) (D : DS) (a : Nat), (TS.wr D a ps).1 = 0 → (TS.wr D a ps).2.safe = D.safe ∧ ∀ k, DS.look (TS.wr D a ps).2.safe (TS.wr D a ps).2.waits k = if a ≤ k ∧ k < a + ps.length then ps.getD (k - a) [] else DS.look D.safe D.waits k
  | [], D, a, _ => ⟨rfl, fun k => by rw [if_neg (by simp)]; rfl⟩
  | p :: ps, D, a, h => by
    rw [TS.wr] at h ⊢
    by_cases h0 : (D.write a p).1 = 0
    · rw [if_pos h0] at h ⊢
      obtain ⟨w1, w2, w3, -⟩ := DS.write_zero h0
      obtain ⟨h1, h2⟩ := TS.wr_zero ps _ (a + 1) h
      refine ⟨h1.trans w2, fun k => ?_⟩
      rw [h2 k, w2, w3, DS.look_snoc, List.length_cons]
      by_cases e : a = k
      · subst e
        rw [if_neg (by omega), if_pos rfl, if_pos (by omega), Nat.sub_self]
        rfl
      · rw [if_neg e]
        by_cases e2 : a + 1 ≤ k ∧ k < a + 1 + ps.length
        · rw [if_pos e2, if_pos (by omega)]
          have : k - a = (k - (a + 1)) + 1 := by omega
          rw [this, List.getD_cons_succ]
        · rw [if_neg e2, if_neg (by omega)]
    · rw [if_neg h0] at h
      exact absurd h h0
/-- A stretch that begins with a nought holds nothing. -/
theorem TS.opn_zero {D : DS} (hok : D.Ok) (ho : D.off = false) {lo hi : Nat} (h1 : lo < hi) (h2 : hi ≤ D.safe.length) (h3 : (DS.look D.safe D.waits lo).head? = some 0) : TS.opn D lo hi = (0, [], 0, 0) := by
  have hst : TS.Stop (TS.stretch D lo (hi - lo)) := by
    refine .inr ?_
    rw [List.head?_eq_getElem?, TS.stretch_get hok (by omega) (by omega), Nat.zero_div, Nat.zero_mod, Nat.add_zero, ← List.head?_eq_getElem?]
    exact h3
  have hf := TS.found_stop (A := []) (c := 0) hst
  rw [List.nil_append, List.length_nil] at hf
  unfold TS.opn
  rw [if_neg (by omega), ho, if_neg (by simp)]
  simp only [Int.toNat_natCast]
  rw [TS.opened, hf]
namespace PS
theorem lay_zero {D : DS} {a h : Nat} {b : List UInt8} (hok : D.Ok) (ha : 1 ≤ a) (hn : a + takes b.length < D.safe.length) (hz : (lay D a h b).1 = 0) :
    (lay D a h b).2.Ok ∧ (lay D a h b).2.off = false ∧ DS.look (lay D a h b).2.safe (lay D a h b).2.waits (a + takes b.length) = page0 := by
  rw [lay_eq] at hz ⊢
  by_cases h1 : (TS.wr D a (ps b)).1 = 0
  · rw [if_neg (by rw [h1]; simp)] at hz ⊢
    obtain ⟨w1, w2⟩ := TS.wr_zero _ D a h1
    have hokw := TS.wr_safe (ps b) D a hok
    have hlk := w2 (a + takes b.length)
    rw [ps_len, if_pos (by omega), Nat.add_sub_cancel_left] at hlk
    have hpg : (ps b).getD (takes b.length) [] = page0 := by
      rw [List.getD_eq_getElem?_getD]
      unfold ps
      rw [List.getElem?_append_right (by rw [paged_len]; omega), paged_len, Nat.sub_self]
      rfl
    rw [hpg] at hlk
    have hlen : (TS.wr D a (ps b)).2.safe.length = D.safe.length := TS.wr_len _ D a
    generalize (TS.wr D a (ps b)).2 = D1 at *
    unfold lay2 at hz ⊢
    simp only at hz ⊢
    by_cases h2 : D1.Flush.1 = 0
    · rw [if_neg (by rw [h2]; simp)] at hz ⊢
      obtain ⟨f1, f2, f3⟩ := DS.Flush_zero h2
      have hokf := hokw.Flush
      have hlf := DS.Flush_len D1
      have hl2 : DS.look D1.Flush.2.safe D1.Flush.2.waits (a + takes b.length) = page0 := by rw [f1, f2, DS.look_flush _ _ _ (by omega), hlk]
      generalize D1.Flush.2 = D2 at *
      by_cases h3 : (D2.write 0 (rootPage h)).1 = 0
      · rw [if_neg (by rw [h3]; simp)] at hz ⊢
        have h3' : (D2.write ((0 : Nat) : Int) (rootPage h)).1 = 0 := h3
        obtain ⟨g1, g2, g3, g4⟩ := DS.write_zero h3'
        have hokr := hokf.write 0 (rootPage h)
        have hlr := DS.write_len D2 0 (rootPage h)
        have g2' : (D2.write 0 (rootPage h)).2.safe = D2.safe := g2
        have g3' : (D2.write 0 (rootPage h)).2.waits = D2.waits ++ [(0, rootPage h)] := g3
        have hl3 : DS.look (D2.write 0 (rootPage h)).2.safe (D2.write 0 (rootPage h)).2.waits (a + takes b.length) = page0 := by rw [g2', g3', DS.look_snoc, if_neg (by omega), hl2]
        generalize (D2.write 0 (rootPage h)).2 = D3 at *
        obtain ⟨k1, k2, k3⟩ := DS.Flush_zero hz
        exact ⟨hokr.Flush, k3, by rw [k1, k2, DS.look_flush _ _ _ (by omega), hl3]⟩
      · rw [if_pos h3] at hz
        exact absurd hz h3
    · rw [if_pos h2] at hz
      exact absurd hz h2
  · rw [if_pos h1] at hz
    exact absurd hz h1
/-- A save as the document has it: the new tape needs no look. -/
theorem save_ref {D : DS} {P : PS} {b : List UInt8} (hok : D.Ok) (h5 : 5 ≤ D.safe.length) (hh : P.half ≤ 1) : save D P b =
    if hp D.safe.length ≤ takes b.length then (3, D, P) else if P.sick ≠ 0 then (P.sick, D, P) else
    if (lay D (1 + (1 - P.half) * hp D.safe.length) (1 - P.half) b).1 ≠ 0 then ((lay D (1 + (1 - P.half) * hp D.safe.length) (1 - P.half) b).1, (lay D (1 + (1 - P.half) * hp D.safe.length) (1 - P.half) b).2, { P with sick := (lay D (1 + (1 - P.half) * hp D.safe.length) (1 - P.half) b).1 })
    else (0, (lay D (1 + (1 - P.half) * hp D.safe.length) (1 - P.half) b).2, ⟨1 - P.half, ⟨1 + (1 - P.half) * hp D.safe.length + takes b.length, 1 + (1 - P.half) * hp D.safe.length + hp D.safe.length, 0, 0, 0⟩, 0⟩) := by
  unfold save
  by_cases h1 : hp D.safe.length ≤ takes b.length
  · rw [if_pos h1, if_pos h1]
  · rw [if_neg h1, if_neg h1]
    by_cases h2 : P.sick ≠ 0
    · rw [if_pos h2, if_pos h2]
    · rw [if_neg h2, if_neg h2]
      simp only
      by_cases h3 : (lay D (1 + (1 - P.half) * hp D.safe.length) (1 - P.half) b).1 = 0
      · have hn : ¬ (lay D (1 + (1 - P.half) * hp D.safe.length) (1 - P.half) b).1 ≠ 0 := by rw [h3]; simp
        have hle := half_le h5 (a := 1 - P.half) (by omega)
        obtain ⟨l1, l2, l3⟩ := lay_zero hok (a := 1 + (1 - P.half) * hp D.safe.length) (by omega) (by omega) h3
        have hlen := lay_len D (1 + (1 - P.half) * hp D.safe.length) (1 - P.half) b
        have ho := TS.opn_zero l1 l2 (lo := 1 + (1 - P.half) * hp D.safe.length + takes b.length) (hi := 1 + (1 - P.half) * hp D.safe.length + hp D.safe.length) (by omega) (by omega) (by rw [l3]; rfl)
        rw [if_neg hn, ho, if_neg (by simp), if_neg hn]
      · rw [if_pos h3, if_pos h3]
end PS
end Go.Proofs.Ytoaeapnkefjpaaa

namespace Go.Proofs.Ytoaeapnkefjpaaa
open Go.RowKit
set_option linter.unusedVariables false
set_option linter.unusedSimpArgs false

set_option maxRecDepth 100000 in
theorem rappend5_any (w : World) (q t p : Nat) (own : Nat → Prop) (P : PS) (D : DS) (v : Value) (r : List UInt8) (h : RPairIn w q t p D.safe.length P) (hd : RefAt w p own D) (hq : ¬ own q) (ht : ¬ own t) (hv : Sees w v r) (hN : D.waits.length ≤ 800000000) :
    Calls Try.prog 41 #[.pointer (some ⟨q, 0, none⟩), v] w fun e w' => e = .returned (I (PS.append D P r).1) ∧ RPairIn w' q t p D.safe.length (PS.append D P r).2.2 ∧ ∃ own', RefAt w' p own' (PS.append D P r).2.1 ∧ (∀ k, own' k → own k ∨ w.heap.size ≤ k) ∧ Mod (fun k => own k ∨ k = t) w w' := by
  have c2 := h.c2
  have c3 := h.c3
  have hap := rtappend_any w t p own P.T D v r h.tape hd ht hv hN
  obtain ⟨X, hX⟩ : ∃ X, X = PS.append D P r := ⟨_, rfl⟩
  rw [← hX]
  unfold PS.append at hX
  have HX := hid hX
  have H := hid h
  have HAP := hid hap
  have HD := hid hd
  have HQ := hid hq
  clear hX h hap hd ht hv hq
  by_cases hs : P.sick = 0
  · have hb : (P.sick != 0) = false := by simpa using hs
    have HXX := hid (show X = _ from by rw [HX.out, if_neg (by simpa using hs)])
    clear HX hs
    go_enter Try.func41, Try.ntmps41
    go_wp2_with (first | (go_at_call 73; refine HAP.out.mono ?_; rintro e w1 ⟨rfl, ht1, own', hd1, ho1, hm1⟩; have HZ := hid (And.intro ht1 (And.intro hd1 (And.intro ho1 hm1))); clear ht1 hd1 ho1 hm1))
    go_ret
    obtain ⟨ht1, hd1, ho1, hm1⟩ := HZ.out
    rw [HXX.out]
    refine ⟨rfl, ⟨(hm1.block q H.out.ql (fun e => ?_)).trans H.out.hq, ht1, H.out.half, H.out.sick, H.out.ne, H.out.n5⟩, own', hd1, ho1, hm1⟩
    rcases e with e | e
    · exact HQ.out e
    · exact H.out.ne e
  · have hb : (P.sick != 0) = true := by simpa using hs
    have HXX := hid (show X = _ from by rw [HX.out, if_pos (by simpa using hs)])
    clear HX
    go_enter Try.func41, Try.ntmps41
    go_wp2
    go_ret
    rw [HXX.out]
    exact ⟨rfl, H.out, own, HD.out, fun k hk => .inl hk, Mod.refl _ _⟩
set_option maxRecDepth 100000 in
set_option maxHeartbeats 1600000 in
theorem rsave5_any (w : World) (q t p : Nat) (own : Nat → Prop) (P : PS) (D : DS) (v : Value) (b : List UInt8) (h : RPairIn w q t p D.safe.length P) (hd : RefAt w p own D) (hq : ¬ own q) (ht : ¬ own t) (hv : Sees w v b) (hb : b.length ≤ 1073741824) (hN : D.waits.length ≤ 700000000) :
    Calls Try.prog 43 #[.pointer (some ⟨q, 0, none⟩), v] w fun e w' => ∃ t', e = .returned (I (PS.save D P b).1) ∧ RPairIn w' q t' p D.safe.length (PS.save D P b).2.2 ∧ (t' = t ∨ w.heap.size ≤ t') ∧ ∃ own', RefAt w' p own' (PS.save D P b).2.1 ∧ (∀ k, own' k → own k ∨ w.heap.size ≤ k) ∧ ¬ own' t' ∧ Mod (fun k => own k ∨ k = q) w w' := by
  obtain ⟨av, cv, rfl, hbl⟩ := hv.form0
  have hok := hd.ok
  have hn := hok.n2
  obtain ⟨X, hX⟩ : ∃ X, X = PS.save D P b := ⟨_, rfl⟩
  rw [← hX]
  rw [PS.save_ref hok h.n5 h.half] at hX
  obtain ⟨K, hKe⟩ : ∃ K, K = PS.takes b.length := ⟨_, rfl⟩
  obtain ⟨Q, hQe⟩ : ∃ Q, Q = PS.hp D.safe.length := ⟨_, rfl⟩
  have hQ2 : 2 ≤ Q ∧ 2 * Q + 1 ≤ D.safe.length := by rw [hQe]; exact PS.hp_two h.n5
  have hK2 : K * 256 ≤ b.length + 267 ∧ b.length + 12 ≤ K * 256 := by rw [hKe]; unfold PS.takes; omega
  rw [← hKe, ← hQe] at hX
  have hhf := rhalf_any w p own D hd
  rw [← hQe] at hhf
  have htk : ∀ w', Calls Try.prog 86 #[I b.length] w' fun e w'' => e = .returned (I K) ∧ w' = w'' := fun w' => by rw [hKe]; exact rtakes_any w' b.length (by omega)
  have c0 := h.c0
  have c3 := h.c3
  have hw1 : IntKind.i64.wrap (256 * (Q : Int)) = 256 * (Q : Int) := IntWalk.i64_in _ (by omega)
  have HX := hid hX
  have HHF := hid hhf
  have HTK := hid htk
  have H := hid h
  have HD := hid hd
  have HQ := hid hq
  have HNT := hid ht
  have HV := hid hv
  have HKE := hid hKe
  have HQE := hid hQe
  clear hX hhf htk h hd hq ht hv hKe hQe hok
  by_cases hno : Q ≤ K
  · have HXX := hid (show X = _ from by rw [HX.out, if_pos hno])
    clear HX
    by_cases h1 : 256 * Q < b.length
    · have f1 : (256 : Int) * (Q : Int) < (b.length : Int) := by omega
      clear hno h1
      go_enter Try.func43, Try.ntmps43
      go_wp2_with (go_at_call 85; refine HHF.out.mono ?_; rintro e w1 ⟨rfl, rfl⟩)
      go_ret
      rw [HXX.out]
      exact ⟨t, rfl, H.out, .inl rfl, own, HD.out, fun k hk => .inl hk, HNT.out, Mod.refl _ _⟩
    · have f1 : ¬ (256 : Int) * (Q : Int) < (b.length : Int) := by omega
      have f2 : (Q : Int) ≤ (K : Int) := by omega
      clear hno h1
      go_enter Try.func43, Try.ntmps43
      go_wp2_with (first | (go_at_call 85; refine HHF.out.mono ?_; rintro e w1 ⟨rfl, rfl⟩) | (go_at_call 86; refine (HTK.out _).mono ?_; rintro e w1 ⟨rfl, rfl⟩))
      go_ret
      rw [HXX.out]
      exact ⟨t, rfl, H.out, .inl rfl, own, HD.out, fun k hk => .inl hk, HNT.out, Mod.refl _ _⟩
  have f1 : ¬ (256 : Int) * (Q : Int) < (b.length : Int) := by omega
  have f2 : ¬ (Q : Int) ≤ (K : Int) := by omega
  by_cases hs : P.sick ≠ 0
  · have hb : (P.sick != 0) = true := by simpa using hs
    have HXX := hid (show X = _ from by rw [HX.out, if_neg hno, if_pos hs])
    clear HX hs hno
    go_enter Try.func43, Try.ntmps43
    go_wp2_with (first | (go_at_call 85; refine HHF.out.mono ?_; rintro e w1 ⟨rfl, rfl⟩) | (go_at_call 86; refine (HTK.out _).mono ?_; rintro e w1 ⟨rfl, rfl⟩))
    go_ret
    rw [HXX.out]
    exact ⟨t, rfl, H.out, .inl rfl, own, HD.out, fun k hk => .inl hk, HNT.out, Mod.refl _ _⟩
  have hs0 : P.sick = 0 := by simpa using hs
  have hb0 : (P.sick != 0) = false := by simpa using hs
  obtain ⟨hf, hhfe⟩ : ∃ hf, hf = 1 - P.half := ⟨_, rfl⟩
  have hh1 := H.out.half
  have hf1 : hf ≤ 1 := by omega
  have hwh : IntKind.i64.wrap (1 - (P.half : Int)) = (hf : Int) := by rw [IntWalk.i64_in _ (by omega)]; omega
  obtain ⟨A0, hA0⟩ : ∃ A0, A0 = hf * Q := ⟨_, rfl⟩
  have hA1 : A0 ≤ Q := by rw [hA0]; have := Nat.mul_le_mul_right Q hf1; omega
  have hmul : IntKind.i64.wrap ((hf : Int) * (Q : Int)) = (A0 : Int) := by rw [hA0, ← Int.natCast_mul]; exact IntWalk.i64_in _ (by rw [← hA0]; omega)
  obtain ⟨lo, hlo⟩ : ∃ lo, lo = 1 + A0 := ⟨_, rfl⟩
  have hlo2 : lo ≤ 1 + A0 ∧ 1 + A0 ≤ lo := by omega
  have hadd : IntKind.i64.wrap (1 + (A0 : Int)) = (lo : Int) := by rw [IntWalk.i64_in _ (by omega)]; omega
  have hxe : X = if (PS.lay D lo hf b).1 ≠ 0 then ((PS.lay D lo hf b).1, (PS.lay D lo hf b).2, { P with sick := (PS.lay D lo hf b).1 }) else (0, (PS.lay D lo hf b).2, ⟨hf, ⟨lo + K, lo + Q, 0, 0, 0⟩, 0⟩) := by
    rw [HX.out, if_neg hno, if_neg hs, ← hhfe, ← hA0, ← hlo]
  have c1 := H.out.c1
  have hly := rlay5_any w q t p own P D (.slice av b.length cv) b lo H.out HD.out HQ.out HV.out hb (by omega) (by rw [← HKE.out]; omega) hN
  rw [← hhfe] at hly
  have hcb2 := (PS.lay_code D lo hf b).bd
  have hlen := PS.lay_len D lo hf b
  obtain ⟨Y, hY⟩ : ∃ Y, Y = PS.lay D lo hf b := ⟨_, rfl⟩
  rw [← hY] at hly hxe hcb2 hlen
  obtain ⟨c, D2⟩ := Y
  simp only at hly hxe hcb2 hlen
  have HLY := hid hly
  have HXE := hid hxe
  have HHE := hid hhfe
  have HLN := hid hlen
  clear hly hxe hY HX hno hs hs0 hhfe hA0 hlo hlen
  go_enter Try.func43, Try.ntmps43
  go_wp2_with (first | (go_at_call 85; refine HHF.out.mono ?_; rintro e w1 ⟨rfl, rfl⟩) | (go_at_call 86; refine (HTK.out _).mono ?_; rintro e w1 ⟨rfl, rfl⟩))
  refine HLY.out.mono ?_
  rintro e w1 ⟨rfl, own1, z1, z2, z3⟩
  have hql := H.out.ql
  have htl := H.out.tape.lt
  have hne := H.out.ne
  have hq1 := (z3.block q hql HQ.out).trans H.out.hq
  have ht1 := z3.block t htl HNT.out
  have hz1 := z3.size
  have c31 : w1.cell? ⟨q, 3, none⟩ = some (I P.sick) := by rw [cell_of_row _ _ _ _ _ _ hq1]; rfl
  have c01 : w1.cell? ⟨q, 0, none⟩ = some (.pointer (some ⟨p, 0, none⟩)) := by rw [cell_of_row _ _ _ _ _ _ hq1]; rfl
  have c11 : w1.cell? ⟨q, 1, none⟩ = some (I P.half) := by rw [cell_of_row _ _ _ _ _ _ hq1]; rfl
  have f3 := frozen_row hq1 3
  have f1q := frozen_row hq1 1
  have hs3 := heap_setCell_same w1 q 3 _ _ (I c) hq1
  have hn1 : ¬ own1 q ∧ ¬ own1 t := ⟨fun h => (z2 q h).elim HQ.out (fun h => by omega), fun h => (z2 t h).elim HNT.out (fun h => by omega)⟩
  have HZ1 := hid z1
  have HZ2 := hid z2
  have HZ3 := hid z3
  have HT1 := hid ht1
  have HN1 := hid hn1
  have HS3 := hid hs3
  have HQ1 := hid hq1
  clear z1 z2 z3 ht1 hs3 hn1 HLY HHF c0 c1 c3 hb0 hmul hadd
  by_cases hc : c = 0
  rotate_left
  · have hcb : (c != 0) = true := by simpa using hc
    have HC := hid hc
    clear hc hq1
    go_wp2
    go_ret
    have hm : Mod (fun k => k = q) w1 (w1.setCell ⟨q, 3, none⟩ (I c)) := Mod.set rfl
    rw [HXE.out, if_pos HC.out]
    refine ⟨t, rfl, ⟨HS3.out, H.out.tape.keep ((heap_setCell_other w1 ⟨q, 3, none⟩ t _ (fun e => hne e.symm)).trans HT1.out), H.out.half, hcb2, hne, H.out.n5⟩, .inl rfl, own1, HZ1.out.mod hm (fun k hk e => HN1.out.1 (e ▸ hk)), HZ2.out, HN1.out.2, (HZ3.out.mono (fun i _ hi => .inl hi)).trans (hm.mono (fun i _ hi => .inr hi))⟩
  subst hc
  clear hq1
  have hs1 := heap_setCell_same (w1.setCell ⟨q, 3, none⟩ (I 0)) q 1 _ _ (I hf) HS3.out
  have hm2 : Mod (fun k => k = q) w1 ((w1.setCell ⟨q, 3, none⟩ (I 0)).setCell ⟨q, 1, none⟩ (I hf)) := (Mod.set (own := fun k => k = q) rfl).trans (Mod.set rfl)
  have HM2 := hid hm2
  have HS1 := hid hs1
  clear hs1 hm2
  go_upto_region 11 with fail
  clear c01 c11 c31 f3 f1q hwh
  obtain ⟨w2, hw2⟩ : ∃ w2, w2 = (w1.setCell ⟨q, 3, none⟩ (I 0)).setCell ⟨q, 1, none⟩ (I hf) := ⟨_, rfl⟩
  have hw2e : (w1.setCell ⟨q, 3, none⟩ (.int .i64 0)).setCell ⟨q, 1, none⟩ (.int .i64 (hf : Int)) = w2 := hw2.symm
  rw [hw2e]
  have hs2 : w2.heap[q]? = some (.cells #[.pointer (some ⟨p, 0, none⟩), I hf, .pointer (some ⟨t, 0, none⟩), I 0] 67 (0, 0)) := by rw [hw2]; exact HS1.out
  have hm2 : Mod (fun k => k = q) w1 w2 := by rw [hw2]; exact HM2.out
  have hz2 : w2.heap.size = w1.heap.size := by rw [hw2]; simp
  have HS2 := hid hs2
  have HMM := hid hm2
  clear hw2 hw2e hs2 hm2 HS1 HM2 HS3 HQ1
  have k0 : ∀ w', Ext w2.drew w' → w'.cell? ⟨q, 0, none⟩ = some (.pointer (some ⟨p, 0, none⟩)) := fun w' hh => by rw [cell_of_row w' _ _ _ _ _ ((hh.block q (by show q < w2.heap.size; omega)).trans HS2.out)]; rfl
  have hwa : IntKind.i64.wrap ((lo : Int) + (K : Int)) = (lo : Int) + (K : Int) := IntWalk.i64_in _ (by omega)
  have hwb : IntKind.i64.wrap ((lo : Int) + (Q : Int)) = (lo : Int) + (Q : Int) := IntWalk.i64_in _ (by omega)
  refine wp_region_order Ext [17] [(0,0),(1,0),(2,0),(3,0),(4,0),(5,0),(6,0),(7,0),(10,0),(11,0),(12,0),(8,1),(9,0),(13,0),(14,1),(15,0),(16,0),(17,2)] _ (by kernel_rfl) rfl Ext.refl Ext.trans (by kernel_rfl) (by simp only [pick, List.getElem?_toArray, List.getElem?_cons_zero, List.getElem?_cons_succ]; rfl) (fun c a d v w h => by cases d <;> exact h) ?_
  refine wpK_q (v := ?_) (a' := ?_) (by rfl) (fun w' hR => ?_) ?_ ?_
  rotate_left 2
  · go_simp; with_reducible rfl
  · simp only [Act.put, List.setIfInBounds_toArray, List.set_cons_zero, List.set_cons_succ]; rfl
  refine wpK_q (v := ?_) (a' := ?_) (by rfl) (fun w' hR => ?_) ?_ ?_
  rotate_left 2
  · go_simp; with_reducible rfl
  · simp only [Act.put, List.setIfInBounds_toArray, List.set_cons_zero, List.set_cons_succ]; rfl
  refine wpK_q (v := ?_) (a' := ?_) (by rfl) (fun w' hR => ?_) ?_ ?_
  rotate_left 2
  · go_simp; with_reducible rfl
  · simp only [Act.put, List.setIfInBounds_toArray, List.set_cons_zero, List.set_cons_succ]; rfl
  refine wpK_q (v := ?_) (a' := ?_) (by rfl) (fun w' hR => ?_) ?_ ?_
  rotate_left 2
  · go_simp; with_reducible rfl
  · simp only [Act.put, List.setIfInBounds_toArray, List.set_cons_zero, List.set_cons_succ]; rfl
  refine wpK_q (v := ?_) (a' := ?_) (by rfl) (fun w' hR => ?_) ?_ ?_
  rotate_left 2
  · go_simp; with_reducible rfl
  · simp only [Act.put, List.setIfInBounds_toArray, List.set_cons_zero, List.set_cons_succ]; rfl
  refine wpK_q (v := ?_) (a' := ?_) (by rfl) (fun w' hR => ?_) ?_ ?_
  rotate_left 2
  · go_simp; with_reducible rfl
  · simp only [Act.put, List.setIfInBounds_toArray, List.set_cons_zero, List.set_cons_succ]; rfl
  refine wpK_q (v := ?_) (a' := ?_) (by rfl) (fun w' hR => ?_) ?_ ?_
  rotate_left 2
  · go_simp; with_reducible rfl
  · simp only [Act.put, List.setIfInBounds_toArray, List.set_cons_zero, List.set_cons_succ]; rfl
  refine wpK_q (v := ?_) (a' := ?_) (by rfl) (fun w' hR => ?_) ?_ ?_
  rotate_left 2
  · go_simp; with_reducible rfl
  · simp only [Act.put, List.setIfInBounds_toArray, List.set_cons_zero, List.set_cons_succ]; rfl
  refine wpK_q (v := ?_) (a' := ?_) (by rfl) (fun w' hR => ?_) ?_ ?_
  rotate_left 2
  · go_simp; with_reducible rfl
  · simp only [Act.put, List.setIfInBounds_toArray, List.set_cons_zero, List.set_cons_succ]; rfl
  refine wpK_q (v := ?_) (a' := ?_) (by rfl) (fun w' hR => ?_) ?_ ?_
  rotate_left 2
  · go_simp; with_reducible rfl
  · simp only [Act.put, List.setIfInBounds_toArray, List.set_cons_zero, List.set_cons_succ]; rfl
  refine wpK_q (v := ?_) (a' := ?_) (by rfl) (fun w' hR => ?_) ?_ ?_
  rotate_left 2
  · go_simp; with_reducible rfl
  · simp only [Act.put, List.setIfInBounds_toArray, List.set_cons_zero, List.set_cons_succ]; rfl
  refine wpK_call Try.func86 (by kernel_rfl) rfl rfl (by rfl) #[I b.length] (by simp only [List.map_toArray, List.map_cons, List.map_nil]; rfl) ?_
  refine (HTK.out _).mono ?_
  rintro e w3 ⟨rfl, rfl⟩
  refine ⟨_, rfl, fun _ => Ext.refl _, ?_⟩
  refine wpK_q (v := ?_) (a' := ?_) (by rfl) (fun w' hR => ?_) ?_ ?_
  rotate_left 2
  · go_simp; with_reducible rfl
  · simp only [Act.put, List.setIfInBounds_toArray, List.set_cons_zero, List.set_cons_succ]; rfl
  refine wpK_q (v := ?_) (a' := ?_) (by rfl) (fun w' hR => ?_) ?_ ?_
  rotate_left 2
  · go_simp; with_reducible rfl
  · simp only [Act.put, List.setIfInBounds_toArray, List.set_cons_zero, List.set_cons_succ]; rfl
  refine wpK_v (v := .pointer (some ⟨w2.drew.heap.size, 0, none⟩)) (w' := w2.drew.alloc (.cells #[.pointer (some ⟨p, 0, none⟩), I ((lo : Int) + (K : Int)), I ((lo : Int) + (Q : Int)), I 0, I 0, I 0] 64)) (by rfl) (by go_simp) (fun _ => (Below.refl _ _).alloc (Nat.le_refl _) _) (by simp only [Act.put, List.setIfInBounds_toArray, List.set_cons_zero, List.set_cons_succ]; rfl) ?_
  refine wpK_q (v := ?_) (a' := ?_) (by rfl) (fun w' hR => ?_) ?_ ?_
  rotate_left 2
  · go_simp; with_reducible rfl
  · simp only [Act.put, List.setIfInBounds_toArray, List.set_cons_zero, List.set_cons_succ]; rfl
  refine wpK_q (v := ?_) (a' := ?_) (by rfl) (fun w' hR => ?_) ?_ ?_
  rotate_left 2
  · go_simp; with_reducible rfl
  · simp only [Act.put, List.setIfInBounds_toArray, List.set_cons_zero, List.set_cons_succ]; rfl
  obtain ⟨t', ht'⟩ : ∃ t', t' = w2.drew.heap.size := ⟨_, rfl⟩
  rw [← ht']
  have ht2 : t' = w2.heap.size := ht'
  have hbA : Below w2.heap.size w2 (w2.drew.alloc (.cells #[.pointer (some ⟨p, 0, none⟩), I ((lo : Int) + (K : Int)), I ((lo : Int) + (Q : Int)), I 0, I 0, I 0] 64)) := Ext.trans _ _ _ (Ext.drew w2) ((Below.refl _ _).alloc (Nat.le_refl _) _)
  have hgA : (w2.drew.alloc (.cells #[.pointer (some ⟨p, 0, none⟩), I ((lo : Int) + (K : Int)), I ((lo : Int) + (Q : Int)), I 0, I 0, I 0] 64)).heap[t']? = some (.cells #[.pointer (some ⟨p, 0, none⟩), I ((lo : Int) + (K : Int)), I ((lo : Int) + (Q : Int)), I 0, I 0, I 0] 64 (0, 0)) := by rw [ht']; exact heap_alloc_new _ _
  generalize w2.drew.alloc (.cells #[.pointer (some ⟨p, 0, none⟩), I ((lo : Int) + (K : Int)), I ((lo : Int) + (Q : Int)), I 0, I 0, I 0] 64) = w4 at *
  have hq4 := (hbA.block q (by omega)).trans HS2.out
  have c24 : w4.cell? ⟨q, 2, none⟩ = some (.pointer (some ⟨t, 0, none⟩)) := by rw [cell_of_row _ _ _ _ _ _ hq4]; rfl
  refine wpK_s (by rfl) rfl (exec_store rfl (vx := .pointer (some ⟨q, 2, none⟩)) (vy := .pointer (some ⟨t', 0, none⟩)) rfl rfl (run_store1 (u := .pointer (some ⟨t, 0, none⟩)) (by kernel_rfl) rfl rfl c24 (frozen_row hq4 2))) (fun h => by cases h) ?_
  refine wpK_done ?_
  have hs4 := heap_setCell_same w4 q 2 _ _ (.pointer (some ⟨t', 0, none⟩)) hq4
  have hm4 : Mod (fun k => k = q) w4 (w4.setCell ⟨q, 2, none⟩ (.pointer (some ⟨t', 0, none⟩))) := Mod.set rfl
  have hg4 := (heap_setCell_other w4 ⟨q, 2, none⟩ t' (.pointer (some ⟨t', 0, none⟩)) (by show t' ≠ q; omega)).trans hgA
  have HF := hid (And.intro hs4 (And.intro hm4 (And.intro hg4 hbA)))
  clear hs4 hm4 hg4 hbA hgA c24 hq4 k0 hwa hwb
  go_wp2
  go_ret
  obtain ⟨hs4, hm4, hg4, hbA⟩ := HF.out
  rw [HXE.out, if_neg (by simp)]
  have hmw : Mod (fun k => k = q) w1 (w4.setCell ⟨q, 2, none⟩ (.pointer (some ⟨t', 0, none⟩))) := (HMM.out.trans (Mod.of_below _ hbA)).trans hm4
  have hls : t' < w4.heap.size := by have := (Array.getElem?_eq_some_iff.1 hg4).1; simpa using this
  refine ⟨t', rfl, ⟨hs4, ⟨⟨?_, ?_, Nat.zero_le _, Nat.le_refl _, ?_⟩, hn, ?_⟩, hf1, ?_, by omega, H.out.n5⟩, .inr (by omega), own1, HZ1.out.mod hmw (fun k hk e => HN1.out.1 (e ▸ hk)), HZ2.out, fun ho => by have := HZ1.out.lt t' ho; omega, (HZ3.out.mono (fun i _ hi => .inl hi)).trans (hmw.mono (fun i _ hi => .inr hi))⟩
  · show lo + K < lo + Q; omega
  · show lo + Q ≤ D.safe.length; omega
  · show (-9223372036854775808 : Int) ≤ 0 ∧ (0 : Int) ≤ 9223372036854775807; omega
  · rw [hg4, Int.natCast_add, Int.natCast_add]; rfl
  · show (-9223372036854775808 : Int) ≤ 0 ∧ (0 : Int) ≤ 9223372036854775807; omega
end Go.Proofs.Ytoaeapnkefjpaaa

namespace Go.Proofs.Ytoaeapnkefjpaaa
open Go.RowKit
set_option linter.unusedVariables false
set_option linter.unusedSimpArgs false

theorem PS.inner_root {D : DS} (h : 1 < PS.root D) : PS.inner D = (11, [], [], ⟨0, ⟨0, 0, 0, 0, 0⟩, 0⟩) := by unfold PS.inner; simp only; rw [if_pos h]
theorem PS.inner_load {D : DS} {h : Nat} {e : Int} {b : List UInt8} {k : Nat} (hr : PS.root D = h) (h1 : ¬ 1 < h) (hl : PS.load (PS.halfOf D h) (PS.hp D.safe.length) = (e, b, k)) (he : e ≠ 0) : PS.inner D = (e, [], [], ⟨0, ⟨0, 0, 0, 0, 0⟩, 0⟩) := by
  unfold PS.inner; simp only [hr, hl]; rw [if_neg h1, if_pos he]
theorem PS.inner_tape {D : DS} {h : Nat} {b : List UInt8} {k : Nat} {e : Int} {rs : List (List UInt8)} {a c : Nat} (hr : PS.root D = h) (h1 : ¬ 1 < h) (hl : PS.load (PS.halfOf D h) (PS.hp D.safe.length) = (0, b, k)) (ho : TS.opn D ((1 + h * PS.hp D.safe.length) + k : Nat) ((1 + h * PS.hp D.safe.length) + PS.hp D.safe.length : Nat) = (e, rs, a, c)) :
    PS.inner D = if e ≠ 0 then (e, [], [], ⟨0, ⟨0, 0, 0, 0, 0⟩, 0⟩) else (0, b, rs, ⟨h, ⟨(1 + h * PS.hp D.safe.length) + k, (1 + h * PS.hp D.safe.length) + PS.hp D.safe.length, a, c, 0⟩, 0⟩) := by
  unfold PS.inner; simp only [hr, hl, ho]; rw [if_neg h1, if_neg (by simp)]
/-- What is seen is no place where a pointer stands. -/
theorem Sees.setPtr {w : World} {v : Value} {l : List UInt8} {a : Addr} {x : Option Addr} (h : Sees w v l) (ha : w.cell? a = some (.pointer x)) (u : Value) : Sees (w.setCell a u) v l := by
  obtain ⟨ao, cap, rfl, h1, h2, h3⟩ := h
  refine ⟨ao, cap, rfl, h1, h2, fun hp => ?_⟩
  obtain ⟨g, off, rfl, hc⟩ := h3 hp
  refine ⟨g, off, rfl, fun i c hi => ?_⟩
  have h4 := hc i c hi
  exact (World.cell?_setCell_other _ _ _ _ (fun e => by rw [← e, ha] at h4; simp [B] at h4)).trans h4
theorem Shows.setPtr {w : World} {v : Value} {L : List (List UInt8)} {a : Addr} {x : Option Addr} (h : Shows w v L) (ha : w.cell? a = some (.pointer x)) (u : Value) : Shows (w.setCell a u) v L := by
  obtain ⟨ao, cap, rfl, h1, h2, h3⟩ := h
  refine ⟨ao, cap, rfl, h1, h2, fun hp => ?_⟩
  obtain ⟨g, off, rfl, h4⟩ := h3 hp
  refine ⟨g, off, rfl, fun i r hr => ?_⟩
  obtain ⟨y, hy, hs⟩ := h4 i r hr
  refine ⟨y, ?_, hs.setPtr ha u⟩
  obtain ⟨ay, cy, rfl, -⟩ := hs.form0
  exact (World.cell?_setCell_other _ _ _ _ (fun e => by rw [← e, ha] at hy; simp at hy)).trans hy
set_option maxRecDepth 100000 in
set_option maxHeartbeats 6400000 in
theorem ropen5_on (w : World) (p : Nat) (own : Nat → Prop) (D : DS) (hd : RefAt w p own D) (h5 : 5 ≤ D.safe.length) (ho : D.off = false) :
    Calls Try.prog 39 #[.pointer (some ⟨p, 0, none⟩)] w (ROpened5 w p D.safe.length (PS.inner D)) := by
  obtain ⟨X, hX⟩ : ∃ X, X = PS.inner D := ⟨_, rfl⟩
  rw [← hX]
  have HX := hid hX
  clear hX
  obtain ⟨as0, cs, cc0, cc3, -⟩ := hd.cells
  rw [ho] at cc3
  have hok := hd.ok
  have hn := hok.n2
  have hlt : ¬ (D.safe.length : Int) < 5 := by omega
  obtain ⟨Q, hQ⟩ : ∃ Q, Q = PS.hp D.safe.length := ⟨_, rfl⟩
  have hQ2 : 2 ≤ Q ∧ 2 * Q + 1 ≤ D.safe.length := by rw [hQ]; exact PS.hp_two h5
  have HQ := hid hQ
  have hlk := rlook_any w p own D 0 hd (by omega)
  have hll : (DS.look D.safe D.waits 0).length = 256 := DS.look_len hok.page hok.wait (by omega)
  obtain ⟨h, hh⟩ : ∃ h, h = PS.root D := ⟨_, rfl⟩
  have hh0 := hh
  unfold PS.root at hh
  have hc0 : (DS.look D.safe D.waits 0)[0]? = some ((DS.look D.safe D.waits 0).getD 0 0) := by rw [List.getD_eq_getElem?_getD, List.getElem?_eq_getElem (by rw [hll]; decide)]; rfl
  have hlk2 : Calls Try.prog 84 #[.pointer (some ⟨p, 0, none⟩), I 0] w fun e w' => w = w' ∧ ∃ g off cap, e = .returned (.slice (some ⟨g, off, none⟩) 256 cap) ∧ w.cell? ⟨g, off, none⟩ = some (.int .u8 (h : Int)) := hlk.mono fun e w' hx => by
    obtain ⟨h1, v, h2, h3, -⟩ := hx
    rcases h3.open with ⟨h4, -⟩ | ⟨g, off, cap, -, rfl, -, -, hcell⟩
    · rw [h4] at hll; cases hll
    · refine ⟨h1, g, off, cap, by rw [h2, hll], ?_⟩
      have h5 := hcell 0 _ hc0
      rw [Nat.add_zero] at h5
      rw [h5, hh]
  have HLK := hid hlk2
  have hb256 : (h : Int) ≤ 255 ∧ 0 ≤ (h : Int) := by rw [hh]; have := ((DS.look D.safe D.waits 0).getD 0 0).toNat_lt; omega
  have hwc : IntKind.i64.wrap (h : Int) = (h : Int) := IntWalk.i64_in _ (by omega)
  have HD := hid hd
  have HOK := hid hok
  have HH := hid hh0
  have HO := hid ho
  clear hd hok ho hQ hlk hlk2 hll hc0 hh hh0
  by_cases hroot : 1 < h
  · have f1 : (1 : Int) < (h : Int) := by omega
    go_enter Try.func39, Try.ntmps39
    go_wp2_with (go_at_call 84; go_must (refine HLK.out.mono ?_); rintro e w1 ⟨rfl, g, off, cap, rfl, hcell⟩)
    refine bodyPost_ret (results_tmp4 rfl _ _ _) rfl ?_
    rw [HX.out, PS.inner_root (by rw [← HH.out]; exact hroot)]
    exact ⟨.inl ⟨by decide, rfl⟩, (Below.refl _ _).alloc (Nat.le_refl _) _⟩
  have f1 : ¬ (1 : Int) < (h : Int) := by omega
  have hh1 : h ≤ 1 := by omega
  go_enter Try.func39, Try.ntmps39
  go_upto_region 9 with (go_at_call 84; go_must (refine HLK.out.mono ?_); rintro e w1 ⟨rfl, g, off, cap, rfl, hcell⟩)
  obtain ⟨A0, hA0⟩ : ∃ A0, A0 = h * Q := ⟨_, rfl⟩
  have hA1 : A0 ≤ Q := by rw [hA0]; have := Nat.mul_le_mul_right Q hh1; omega
  have hmul : IntKind.i64.wrap ((h : Int) * (Q : Int)) = (A0 : Int) := by rw [hA0, ← Int.natCast_mul]; exact IntWalk.i64_in _ (by rw [← hA0]; omega)
  obtain ⟨lo, hlo⟩ : ∃ lo, lo = 1 + A0 := ⟨_, rfl⟩
  have hlo2 : lo ≤ 1 + A0 ∧ 1 + A0 ≤ lo := by omega
  have hadd : IntKind.i64.wrap (1 + (A0 : Int)) = (lo : Int) := by rw [IntWalk.i64_in _ (by omega)]; omega
  have hloh : lo = 1 + h * PS.hp D.safe.length := by rw [hlo, hA0, HQ.out]
  have HLO := hid hloh
  obtain ⟨wb, hwb⟩ : ∃ wb, wb = w.alloc (.cells #[.pointer (some ⟨p, 0, none⟩), I h, .pointer none, I 0] 67) := ⟨_, rfl⟩
  have hqb : wb.heap[w.heap.size]? = some (.cells #[.pointer (some ⟨p, 0, none⟩), I h, .pointer none, I 0] 67 (0, 0)) := by rw [hwb]; exact heap_alloc_new _ _
  have hbb : Below w.heap.size w wb := by rw [hwb]; exact (Below.refl _ _).alloc (Nat.le_refl _) _
  rw [← hwb]
  have kq1 : ∀ w', Ext wb.drew w' → w'.cell? ⟨w.heap.size, 1, none⟩ = some (I h) := fun w' hh => by rw [cell_of_row w' _ _ _ _ _ ((hh.block _ (Array.getElem?_eq_some_iff.1 hqb).1).trans hqb)]; rfl
  have hhf : ∀ w', Ext wb.drew w' → Calls Try.prog 85 #[.pointer (some ⟨p, 0, none⟩)] w' fun e w'' => e = .returned (I Q) ∧ w' = w'' := fun w' hh => by
    rw [HQ.out]
    exact rhalf_any w' p own D (((HD.out.below hbb).below (Ext.drew wb)).below hh)
  have HHF := hid hhf
  have HQB := hid hqb
  have HBB := hid hbb
  have hzb : w.heap.size < wb.heap.size := (Array.getElem?_eq_some_iff.1 hqb).1
  clear hA0 hlo hloh hwb hqb hbb hhf HLK hcell cc0 cc3 hlt f1
  refine wp_region_order Ext [] [(0,0),(1,0),(2,0),(3,0),(4,0),(5,1),(6,0),(7,0),(8,0)] _ (by kernel_rfl) rfl Ext.refl Ext.trans (by kernel_rfl) (by simp only [pick, List.getElem?_toArray, List.getElem?_cons_zero, List.getElem?_cons_succ]; rfl) (fun c a d v w h => by cases d <;> exact h) ?_
  refine wpK_q (v := ?_) (a' := ?_) (by rfl) (fun w' hR => ?_) ?_ ?_
  rotate_left 2
  · go_simp; with_reducible rfl
  · simp only [Act.put, List.setIfInBounds_toArray, List.set_cons_zero, List.set_cons_succ]; rfl
  refine wpK_q (v := ?_) (a' := ?_) (by rfl) (fun w' hR => ?_) ?_ ?_
  rotate_left 2
  · go_simp; with_reducible rfl
  · simp only [Act.put, List.setIfInBounds_toArray, List.set_cons_zero, List.set_cons_succ]; rfl
  refine wpK_q (v := ?_) (a' := ?_) (by rfl) (fun w' hR => ?_) ?_ ?_
  rotate_left 2
  · go_simp; with_reducible rfl
  · simp only [Act.put, List.setIfInBounds_toArray, List.set_cons_zero, List.set_cons_succ]; rfl
  refine wpK_q (v := ?_) (a' := ?_) (by rfl) (fun w' hR => ?_) ?_ ?_
  rotate_left 2
  · go_simp; with_reducible rfl
  · simp only [Act.put, List.setIfInBounds_toArray, List.set_cons_zero, List.set_cons_succ]; rfl
  refine wpK_q (v := ?_) (a' := ?_) (by rfl) (fun w' hR => ?_) ?_ ?_
  rotate_left 2
  · go_simp; with_reducible rfl
  · simp only [Act.put, List.setIfInBounds_toArray, List.set_cons_zero, List.set_cons_succ]; rfl
  refine wpK_call Try.func85 (by kernel_rfl) rfl rfl (by rfl) #[.pointer (some ⟨p, 0, none⟩)] (by simp only [List.map_toArray, List.map_cons, List.map_nil]; rfl) ?_
  refine (HHF.out _ (Ext.refl _)).mono ?_
  rintro e w2 ⟨rfl, rfl⟩
  refine ⟨_, rfl, fun _ => Ext.refl _, ?_⟩
  refine wpK_q (v := ?_) (a' := ?_) (by rfl) (fun w' hR => ?_) ?_ ?_
  rotate_left 2
  · go_simp; with_reducible rfl
  · simp only [Act.put, List.setIfInBounds_toArray, List.set_cons_zero, List.set_cons_succ]; rfl
  refine wpK_q (v := ?_) (a' := ?_) (by rfl) (fun w' hR => ?_) ?_ ?_
  rotate_left 2
  · go_simp; with_reducible rfl
  · simp only [Act.put, List.setIfInBounds_toArray, List.set_cons_zero, List.set_cons_succ]; rfl
  refine wpK_q (v := ?_) (a' := ?_) (by rfl) (fun w' hR => ?_) ?_ ?_
  rotate_left 2
  · go_simp; with_reducible rfl
  · simp only [Act.put, List.setIfInBounds_toArray, List.set_cons_zero, List.set_cons_succ]; rfl
  refine wpK_done ?_
  clear kq1
  obtain ⟨wc, hwc2⟩ : ∃ wc, wc = wb.drew := ⟨_, rfl⟩
  have HWC : Hid (Below wb.heap.size wb wc) := hid (by rw [hwc2]; exact Ext.drew wb)
  have HHC := hid (HHF.out wc (by rw [hwc2]; exact Ext.refl _))
  rw [← hwc2]
  clear hwc2 HHF hmul hadd
  obtain ⟨hi, hhi⟩ : ∃ hi, hi = lo + Q := ⟨_, rfl⟩
  have hhi2 : hi ≤ lo + Q ∧ lo + Q ≤ hi := by omega
  have hadd2 : IntKind.i64.wrap ((lo : Int) + (Q : Int)) = (hi : Int) := by rw [IntWalk.i64_in _ (by omega)]; omega
  have HHI := hid hhi
  clear hhi
  have HL := hid (fun j (hj : j ≤ Q) => TS.stretch_len HOK.out (lo := lo) (n := j) (by omega))
  go_wp2_with (go_at_call 85; refine HHC.out.mono ?_; rintro e w3 ⟨rfl, rfl⟩; clear HHC)
  clear hadd2
  go_loopw [10, 11] (fun o i wr => ∃ j : Nat, j ≤ Q ∧ i = I ((lo + j : Nat) : Int) ∧ Hid (wr.ownsRow wc.heap.size 5 1 o (j * 256) ((TS.stretch D lo j).map B)) ∧ Hid (Below wc.heap.size wc wr)) (fun _ i _ => hi - (intOf i).toNat)
  case atStart => exact ⟨0, by omega, rfl, hid (by rw [TS.stretch_zero]; exact World.ownsRow_nil _ _ _ _), hid (Below.refl _ _)⟩
  case round =>
    obtain ⟨j, hj, rfl, HO5, HB⟩ := hrel
    have hbw : Below w.heap.size w wr := (HBB.out.trans (HWC.out.mono HBB.out.size)).trans (HB.out.mono (Nat.le_trans HBB.out.size HWC.out.size))
    have HBW := hid hbw
    clear hbw
    obtain ⟨k, hk⟩ : ∃ k, k = lo + j := ⟨_, rfl⟩
    rw [← hk]
    have hk1 : lo + j ≤ k ∧ k ≤ lo + j := by omega
    obtain ⟨ao, co, rfl⟩ := own_form HO5.out
    by_cases hltj : j < Q
    · have f1 : decide ((k : Int) < (hi : Int)) = true := decide_eq_true (by omega)
      have hlk := rlook_any wr p own D k (HD.out.below HBW.out) (by omega)
      have HLK := hid hlk
      have hll : (DS.look D.safe D.waits k).length = 256 := DS.look_len HOK.out.page HOK.out.wait (by omega)
      have hsn := TS.stretch_snoc D lo j
      rw [← hk] at hsn
      have HSN := hid hsn
      have HKE := hid hk
      generalize DS.look D.safe D.waits k = q at *
      have HLL := hid hll
      clear hlk hll hsn hk
      go_wp2_with (first | (go_at_call 84; refine HLK.out.mono ?_; rintro e w' ⟨rfl, v, rfl, hs, hb⟩; have HS := hid hs; clear hs hb) | (at_builtin; go_must (refine wpList_app rfl (.tmp 65) (.tmp 68) 23 rfl wc.heap.size 5 (.int .u8 0) 1 1 Try.underlying23 info5 rfl (by decide) (j * 256) ((TS.stretch D lo j).map B) 256 (q.map B) HO5.out ?src ?h63 ?hb HB.out.size ?_)))
      case src => have := HS.out.src; rw [HLL.out] at this; exact this
      case h63 => unfold maxLen; omega
      case hb => omega
      intro v' w8 hown hgrow hat
      replace hown : w8.ownsRow wc.heap.size 5 1 v' ((j + 1) * 256) ((TS.stretch D lo (j + 1)).map B) := own_len hown (by omega) (by rw [HSN.out, List.map_append])
      have HO8 := hid hown
      have HB8 := hid (HB.out.grown hgrow HB.out.size (fun i hi => (own_lt HO5.out i hi).1))
      obtain ⟨av', cv', rfl⟩ := own_form hown
      clear hown hgrow hat HS HLK HSN
      go_wp2
      go_roundw
      case rel => exact ⟨j + 1, by omega, by rw [show lo + (j + 1) = k + 1 by omega]; go_num, HO8, HB8⟩
      case measure => simp [intOf]; omega
    have f1 : decide ((k : Int) < (hi : Int)) = false := decide_eq_false (by omega)
    obtain rfl : Q = j := by omega
    obtain ⟨S, hS⟩ : ∃ S, S = TS.stretch D lo Q := ⟨_, rfl⟩
    have hSl : S.length = Q * 256 := by rw [hS]; exact HL.out Q (Nat.le_refl _)
    have hSh : S = PS.halfOf D h := by rw [hS, HQ.out, HLO.out]; rfl
    have ho5 := HO5.out
    rw [← hS] at ho5
    obtain ⟨g, cp, hv, hcp, hcm, hg1, hg2⟩ := own_slice ho5 (by omega)
    simp only [Value.slice.injEq] at hv
    obtain ⟨rfl, -, rfl⟩ := hv
    have HROW := hid ho5
    have HSL := hid hSl
    have HSH := hid hSh
    have hrow0 := HD.out.below HBW.out
    have HDR := hid hrow0
    have hQB2 := HQB.out
    have HQR : Hid (wr.heap[w.heap.size]? = some (.cells #[.pointer (some ⟨p, 0, none⟩), I h, .pointer none, I 0] 67 (0, 0))) := hid ((HB.out.block _ (by have := HWC.out.size; omega)).trans ((HWC.out.block _ hzb).trans HQB.out))
    have hzr : w.heap.size < wr.heap.size := by have := HWC.out.size; have := HB.out.size; omega
    have hkhi : k ≤ hi ∧ hi ≤ k := by omega
    clear hS hSl hSh ho5 hrow0 hQB2 HO5 hk HL HQB HBB HWC HB hltj hj hk1
    go_wp2
    clear f1
    generalize hwy : wr = wy at *
    clear hwy
    have hcapb : (Q : Int) * 256 ≤ (co : Int) := by omega
    go_loopw [12, 13] (fun z i wr => ∃ (i2 : Nat) (b : Bool), i2 ≤ 12 ∧ i = I i2 ∧ z = .bool b ∧ Hid (b = zeroB S i2) ∧ Hid (wr = wy)) (fun _ i _ => 12 - (intOf i).toNat)
    case atStart => exact ⟨0, true, by omega, rfl, rfl, hid (zeroB_zero S).symm, hid rfl⟩
    case round =>
      obtain ⟨i2, b, hi2, rfl, rfl, HZ, HW⟩ := hrel
      obtain rfl := HW.out
      clear HW
      by_cases hlt2 : i2 < 12
      · have f1 : decide ((i2 : Int) < 12) = true := decide_eq_true (by omega)
        obtain ⟨c, hc⟩ : ∃ c, S[i2]? = some c := ⟨_, List.getElem?_eq_getElem (by have := HSL.out; omega)⟩
        have hcell := own_cell HROW.out (i := i2) (u := B c) (by rw [List.getElem?_map, hc]; rfl)
        have hzs := zeroB_succ hc
        have f2 : (i2 : Int) < (Q : Int) * 256 := by omega
        cases b with
        | true =>
          have HZN : Hid (decide (c = 0) = zeroB S (i2 + 1)) := hid (by rw [hzs, ← HZ.out, Bool.true_and])
          have hbd := byte_bd c
          by_cases hc0 : c = 0
          · subst hc0
            have hcell2 : wr.cell? ⟨g, i2, none⟩ = some (.int .u8 0) := hcell
            clear hcell hzs HZ hc
            go_wp2
            go_roundw
            case rel => exact ⟨i2 + 1, true, by omega, by go_num, rfl, hid (by rw [← HZN.out]; rfl), hid (by trivial)⟩
            case measure => simp [intOf]; omega
          · have f3 : ((c.toNat : Int) == 0) = false := by rw [beq_eq_false_iff_ne]; intro e; exact hc0 (UInt8.toNat_inj.1 (by rw [show (0 : UInt8).toNat = 0 from rfl]; omega))
            have HC0 := hid hc0
            clear hzs HZ hc hc0
            go_wp2
            go_roundw
            case rel => exact ⟨i2 + 1, false, by omega, by go_num, rfl, hid (by rw [← HZN.out, decide_eq_false HC0.out]), hid (by trivial)⟩
            case measure => simp [intOf]; omega
        | false =>
          have HZN : Hid (false = zeroB S (i2 + 1)) := hid (by rw [hzs, ← HZ.out, Bool.false_and])
          clear hcell hzs HZ hc
          go_wp2
          go_roundw
          case rel => exact ⟨i2 + 1, false, by omega, by go_num, rfl, HZN, hid (by trivial)⟩
          case measure => simp [intOf]; omega
      obtain rfl : i2 = 12 := by omega
      clear hlt2 hi2
      have HZ12 : Hid (b = decide (S.take 12 = List.replicate 12 0)) := HZ
      clear HZ
      cases b with
      | true =>
        have hl : PS.load S Q = (0, [], 1) := by unfold PS.load; rw [if_pos (of_decide_eq_true HZ12.out.symm)]
        have HLD : Hid (PS.load (PS.halfOf D h) (PS.hp D.safe.length) = (0, [], 1)) := hid (by rw [← HSH.out, ← HQ.out]; exact hl)
        clear hl
        obtain ⟨kk, hkk⟩ : ∃ kk, kk = 1 := ⟨_, rfl⟩
        rw [← hkk] at HLD
        have hkQ : 1 ≤ kk ∧ kk < Q := by omega
        have HSB : Hid (Sees wr (.slice none 0 0) []) := hid (Sees.nil wr)
        have HBT := HBW
        have HDT := HDR
        have HQT := HQR
        have hzt := hzr
        go_upto_region 31 with fail
        rw [show (Value.int .i64 1) = I kk by rw [hkk]; rfl]
        clear hkk HZ12
        obtain ⟨lk, hlk⟩ : ∃ lk, lk = lo + kk := ⟨_, rfl⟩
        have hlk2 : lk ≤ lo + kk ∧ lo + kk ≤ lk := by omega
        have hadd : IntKind.i64.wrap ((lo : Int) + (kk : Int)) = (lk : Int) := by rw [IntWalk.i64_in _ (by omega)]; omega
        obtain ⟨y, hy⟩ : ∃ y, y = TS.opn D lk hi := ⟨_, rfl⟩
        have hop := ropen_any wr p own D (lk : Int) (hi : Int) HDT.out (by omega) (by omega)
        rw [← hy] at hop
        simp only [Int.toNat_natCast] at hop
        obtain ⟨ye, yr, ya, yc⟩ := y
        have hin := PS.inner_tape (e := ye) (rs := yr) (a := ya) (c := yc) HH.out.symm hroot HLD.out (by rw [← HLO.out, ← HQ.out, ← HHI.out, ← hlk]; exact hy.symm)
        rw [← HLO.out, ← HQ.out, ← HHI.out, ← hlk, ← HX.out] at hin
        have HIN := hid hin
        have HOP := hid hop
        clear hin hop hy hlk
        go_wp2_with fail
        refine HOP.out.mono ?_
        rintro e w5 ⟨⟨h0, rfl⟩ | ⟨h0, t, v, rfl, ht, htp, hsh⟩, hb5⟩
        · have hne : (ye != 0) = true := by simpa using h0
          have HB5 := hid hb5
          clear hb5
          go_wp2
          refine bodyPost_ret (results_tmp4 rfl _ _ _) rfl ?_
          rw [HIN.out, if_pos h0]
          exact ⟨.inl ⟨h0, rfl⟩, HBT.out.trans (HB5.out.mono HBT.out.size)⟩
        · obtain ⟨al, cl, rfl, -⟩ := hsh.len
          simp only at h0
          subst h0
          have hq5 := (hb5.block _ hzt).trans HQT.out
          have cq2 : w5.cell? ⟨w.heap.size, 2, none⟩ = some (.pointer none) := by rw [cell_of_row _ _ _ _ _ _ hq5]; rfl
          have fq2 := frozen_row hq5 2
          have HQ5 := hid hq5
          have CQ2 := hid cq2
          have HB5 := hid hb5
          have HT5 := hid (And.intro ht (And.intro htp hsh))
          clear hb5 ht htp hsh hq5
          go_wp2
          refine bodyPost_ret (results_tmp4 rfl _ _ _) rfl ?_
          obtain ⟨ht, htp, hsh⟩ := HT5.out
          have hs := heap_setCell_same w5 w.heap.size 2 _ _ (.pointer (some ⟨t, 0, none⟩)) HQ5.out
          have hbs : Mod (fun k => k = w.heap.size) w5 (w5.setCell ⟨w.heap.size, 2, none⟩ (.pointer (some ⟨t, 0, none⟩))) := Mod.set rfl
          have hqt : w.heap.size ≠ t := by omega
          rw [HIN.out, if_neg (by simp)]
          refine ⟨.inr ⟨rfl, w.heap.size, t, _, _, rfl, ⟨hs, htp.mod hbs (fun e => hqt e.symm), hh1, by show (-9223372036854775808 : Int) ≤ 0 ∧ (0 : Int) ≤ 9223372036854775807; omega, hqt, h5⟩, Nat.le_refl _, by omega, (HSB.out.below HB5.out).setPtr CQ2.out _, hsh.setPtr CQ2.out _⟩, (HBT.out.trans (HB5.out.mono HBT.out.size)).trans (hbs.below (Nat.le_trans HBT.out.size HB5.out.size) (fun i hi e => by omega))⟩
      | false =>
        obtain ⟨N, hN⟩ : ∃ N, N = PS.num4 S := ⟨_, rfl⟩
        have hNlt : N < 4294967296 := by rw [hN]; exact PS.num4_lt S
        have hz0 : ¬ S.take 12 = List.replicate 12 0 := of_decide_eq_false HZ12.out.symm
        have hls := HSL.out
        obtain ⟨x0, hx0⟩ : ∃ x, S[0]? = some x := ⟨_, List.getElem?_eq_getElem (by omega)⟩
        obtain ⟨x1, hx1⟩ : ∃ x, S[1]? = some x := ⟨_, List.getElem?_eq_getElem (by omega)⟩
        obtain ⟨x2, hx2⟩ : ∃ x, S[2]? = some x := ⟨_, List.getElem?_eq_getElem (by omega)⟩
        obtain ⟨x3, hx3⟩ : ∃ x, S[3]? = some x := ⟨_, List.getElem?_eq_getElem (by omega)⟩
        have hnum := PS.num4_eq hx0 hx1 hx2 hx3
        rw [← hN] at hnum
        have HN := hid hN
        have HZ0 := hid hz0
        have HNUM := hid hnum
        have bb0 := byte_bd x0
        have bb1 := byte_bd x1
        have bb2 := byte_bd x2
        have bb3 := byte_bd x3
        have f0 : (0 : Int) < (Q : Int) * 256 := by omega
        have f1 : (1 : Int) < (Q : Int) * 256 := by omega
        have f2 : (2 : Int) < (Q : Int) * 256 := by omega
        have f3 : (3 : Int) < (Q : Int) * 256 := by omega
        go_upto_region 24 with fail
        have kc0 : ∀ w', Ext wr.drew w' → w'.cell? ⟨g, 0, none⟩ = some (B x0) := fun w' hh => hh.cell (p := ⟨g, 0, none⟩) (own_cell HROW.out (i := 0) (by rw [List.getElem?_map, hx0]; rfl))
        have kc1 : ∀ w', Ext wr.drew w' → w'.cell? ⟨g, 1, none⟩ = some (B x1) := fun w' hh => hh.cell (p := ⟨g, 1, none⟩) (own_cell HROW.out (i := 1) (by rw [List.getElem?_map, hx1]; rfl))
        have kc2 : ∀ w', Ext wr.drew w' → w'.cell? ⟨g, 2, none⟩ = some (B x2) := fun w' hh => hh.cell (p := ⟨g, 2, none⟩) (own_cell HROW.out (i := 2) (by rw [List.getElem?_map, hx2]; rfl))
        have kc3 : ∀ w', Ext wr.drew w' → w'.cell? ⟨g, 3, none⟩ = some (B x3) := fun w' hh => hh.cell (p := ⟨g, 3, none⟩) (own_cell HROW.out (i := 3) (by rw [List.getElem?_map, hx3]; rfl))
        have hw0 : IntKind.i64.wrap (x0.toNat : Int) = (x0.toNat : Int) := IntWalk.i64_in _ (by omega)
        have hw1 : IntKind.i64.wrap (x1.toNat : Int) = (x1.toNat : Int) := IntWalk.i64_in _ (by omega)
        have hw2 : IntKind.i64.wrap (x2.toNat : Int) = (x2.toNat : Int) := IntWalk.i64_in _ (by omega)
        have hw3 : IntKind.i64.wrap (x3.toNat : Int) = (x3.toNat : Int) := IntWalk.i64_in _ (by omega)
        have hp0 : IntKind.i64.wrap (16777216 * (x0.toNat : Int)) = 16777216 * (x0.toNat : Int) := IntWalk.i64_in _ (by omega)
        have hp1 : IntKind.i64.wrap (65536 * (x1.toNat : Int)) = 65536 * (x1.toNat : Int) := IntWalk.i64_in _ (by omega)
        have hp2 : IntKind.i64.wrap (256 * (x2.toNat : Int)) = 256 * (x2.toNat : Int) := IntWalk.i64_in _ (by omega)
        have hs0 : IntKind.i64.wrap (16777216 * (x0.toNat : Int) + 65536 * (x1.toNat : Int)) = 16777216 * (x0.toNat : Int) + 65536 * (x1.toNat : Int) := IntWalk.i64_in _ (by omega)
        have hs1 : IntKind.i64.wrap (16777216 * (x0.toNat : Int) + 65536 * (x1.toNat : Int) + 256 * (x2.toNat : Int)) = 16777216 * (x0.toNat : Int) + 65536 * (x1.toNat : Int) + 256 * (x2.toNat : Int) := IntWalk.i64_in _ (by omega)
        have hs2 : IntKind.i64.wrap (16777216 * (x0.toNat : Int) + 65536 * (x1.toNat : Int) + 256 * (x2.toNat : Int) + (x3.toNat : Int)) = (N : Int) := by rw [HNUM.out]; exact IntWalk.i64_in _ (by omega)
        clear hx0 hx1 hx2 hx3 hnum hN hz0 HZ12 hls
        refine wp_region_order Ext [] [(0,0),(1,0),(2,0),(3,0),(4,0),(5,0),(6,0),(7,0),(8,0),(9,0),(10,0),(11,0),(12,0),(13,0),(14,0),(15,0),(16,0),(17,0),(18,0),(19,0),(20,0),(21,0),(22,0)] _ (by kernel_rfl) rfl Ext.refl Ext.trans (by kernel_rfl) (by simp only [pick, List.getElem?_toArray, List.getElem?_cons_zero, List.getElem?_cons_succ]; rfl) (fun c a d v w h => by cases d <;> exact h) ?_
        refine wpK_q (v := ?_) (a' := ?_) (by rfl) (fun w' hR => ?_) ?_ ?_
        rotate_left 2
        · go_simp; with_reducible rfl
        · simp only [Act.put, List.setIfInBounds_toArray, List.set_cons_zero, List.set_cons_succ]; rfl
        refine wpK_q (v := ?_) (a' := ?_) (by rfl) (fun w' hR => ?_) ?_ ?_
        rotate_left 2
        · go_simp; with_reducible rfl
        · simp only [Act.put, List.setIfInBounds_toArray, List.set_cons_zero, List.set_cons_succ]; rfl
        refine wpK_q (v := ?_) (a' := ?_) (by rfl) (fun w' hR => ?_) ?_ ?_
        rotate_left 2
        · go_simp; with_reducible rfl
        · simp only [Act.put, List.setIfInBounds_toArray, List.set_cons_zero, List.set_cons_succ]; rfl
        refine wpK_q (v := ?_) (a' := ?_) (by rfl) (fun w' hR => ?_) ?_ ?_
        rotate_left 2
        · go_simp; with_reducible rfl
        · simp only [Act.put, List.setIfInBounds_toArray, List.set_cons_zero, List.set_cons_succ]; rfl
        refine wpK_q (v := ?_) (a' := ?_) (by rfl) (fun w' hR => ?_) ?_ ?_
        rotate_left 2
        · go_simp; with_reducible rfl
        · simp only [Act.put, List.setIfInBounds_toArray, List.set_cons_zero, List.set_cons_succ]; rfl
        refine wpK_q (v := ?_) (a' := ?_) (by rfl) (fun w' hR => ?_) ?_ ?_
        rotate_left 2
        · go_simp; with_reducible rfl
        · simp only [Act.put, List.setIfInBounds_toArray, List.set_cons_zero, List.set_cons_succ]; rfl
        refine wpK_q (v := ?_) (a' := ?_) (by rfl) (fun w' hR => ?_) ?_ ?_
        rotate_left 2
        · go_simp; with_reducible rfl
        · simp only [Act.put, List.setIfInBounds_toArray, List.set_cons_zero, List.set_cons_succ]; rfl
        refine wpK_q (v := ?_) (a' := ?_) (by rfl) (fun w' hR => ?_) ?_ ?_
        rotate_left 2
        · go_simp; with_reducible rfl
        · simp only [Act.put, List.setIfInBounds_toArray, List.set_cons_zero, List.set_cons_succ]; rfl
        refine wpK_q (v := ?_) (a' := ?_) (by rfl) (fun w' hR => ?_) ?_ ?_
        rotate_left 2
        · go_simp; with_reducible rfl
        · simp only [Act.put, List.setIfInBounds_toArray, List.set_cons_zero, List.set_cons_succ]; rfl
        refine wpK_q (v := ?_) (a' := ?_) (by rfl) (fun w' hR => ?_) ?_ ?_
        rotate_left 2
        · go_simp; with_reducible rfl
        · simp only [Act.put, List.setIfInBounds_toArray, List.set_cons_zero, List.set_cons_succ]; rfl
        refine wpK_q (v := ?_) (a' := ?_) (by rfl) (fun w' hR => ?_) ?_ ?_
        rotate_left 2
        · go_simp; with_reducible rfl
        · simp only [Act.put, List.setIfInBounds_toArray, List.set_cons_zero, List.set_cons_succ]; rfl
        refine wpK_q (v := ?_) (a' := ?_) (by rfl) (fun w' hR => ?_) ?_ ?_
        rotate_left 2
        · go_simp; with_reducible rfl
        · simp only [Act.put, List.setIfInBounds_toArray, List.set_cons_zero, List.set_cons_succ]; rfl
        refine wpK_q (v := ?_) (a' := ?_) (by rfl) (fun w' hR => ?_) ?_ ?_
        rotate_left 2
        · go_simp; with_reducible rfl
        · simp only [Act.put, List.setIfInBounds_toArray, List.set_cons_zero, List.set_cons_succ]; rfl
        refine wpK_q (v := ?_) (a' := ?_) (by rfl) (fun w' hR => ?_) ?_ ?_
        rotate_left 2
        · go_simp; with_reducible rfl
        · simp only [Act.put, List.setIfInBounds_toArray, List.set_cons_zero, List.set_cons_succ]; rfl
        refine wpK_q (v := ?_) (a' := ?_) (by rfl) (fun w' hR => ?_) ?_ ?_
        rotate_left 2
        · go_simp; with_reducible rfl
        · simp only [Act.put, List.setIfInBounds_toArray, List.set_cons_zero, List.set_cons_succ]; rfl
        refine wpK_q (v := ?_) (a' := ?_) (by rfl) (fun w' hR => ?_) ?_ ?_
        rotate_left 2
        · go_simp; with_reducible rfl
        · simp only [Act.put, List.setIfInBounds_toArray, List.set_cons_zero, List.set_cons_succ]; rfl
        refine wpK_q (v := ?_) (a' := ?_) (by rfl) (fun w' hR => ?_) ?_ ?_
        rotate_left 2
        · go_simp; with_reducible rfl
        · simp only [Act.put, List.setIfInBounds_toArray, List.set_cons_zero, List.set_cons_succ]; rfl
        refine wpK_q (v := ?_) (a' := ?_) (by rfl) (fun w' hR => ?_) ?_ ?_
        rotate_left 2
        · go_simp; with_reducible rfl
        · simp only [Act.put, List.setIfInBounds_toArray, List.set_cons_zero, List.set_cons_succ]; rfl
        refine wpK_q (v := ?_) (a' := ?_) (by rfl) (fun w' hR => ?_) ?_ ?_
        rotate_left 2
        · go_simp; with_reducible rfl
        · simp only [Act.put, List.setIfInBounds_toArray, List.set_cons_zero, List.set_cons_succ]; rfl
        refine wpK_q (v := ?_) (a' := ?_) (by rfl) (fun w' hR => ?_) ?_ ?_
        rotate_left 2
        · go_simp; with_reducible rfl
        · simp only [Act.put, List.setIfInBounds_toArray, List.set_cons_zero, List.set_cons_succ]; rfl
        refine wpK_q (v := ?_) (a' := ?_) (by rfl) (fun w' hR => ?_) ?_ ?_
        rotate_left 2
        · go_simp; with_reducible rfl
        · simp only [Act.put, List.setIfInBounds_toArray, List.set_cons_zero, List.set_cons_succ]; rfl
        refine wpK_q (v := ?_) (a' := ?_) (by rfl) (fun w' hR => ?_) ?_ ?_
        rotate_left 2
        · go_simp; with_reducible rfl
        · simp only [Act.put, List.setIfInBounds_toArray, List.set_cons_zero, List.set_cons_succ]; rfl
        refine wpK_q (v := ?_) (a' := ?_) (by rfl) (fun w' hR => ?_) ?_ ?_
        rotate_left 2
        · go_simp; with_reducible rfl
        · simp only [Act.put, List.setIfInBounds_toArray, List.set_cons_zero, List.set_cons_succ]; rfl
        refine wpK_done ?_
        clear kc0 kc1 kc2 kc3 hw0 hw1 hw2 hw3 hp0 hp1 hp2 hs0 hs1 hs2 bb0 bb1 bb2 bb3 HNUM
        obtain ⟨wz, hwz⟩ : ∃ wz, wz = wr.drew := ⟨_, rfl⟩
        have hez : Below wr.heap.size wr wz := by rw [hwz]; exact Ext.drew wr
        have HEZ := hid hez
        rw [← hwz]
        have hzz : w.heap.size < wz.heap.size := by have := hez.size; omega
        have HBZ := hid (HBW.out.trans (hez.mono HBW.out.size))
        have HROZ := hid (own_below HROW.out hez)
        have HDZ := hid (HDR.out.below hez)
        have HQZ : Hid (wz.heap[w.heap.size]? = some (.cells #[.pointer (some ⟨p, 0, none⟩), I h, .pointer none, I 0] 67 (0, 0))) := hid ((hez.block _ hzr).trans HQR.out)
        clear hwz hez HBW HROW HDR HQR HEZ
        have hhf := rhalf_any wz p own D HDZ.out
        rw [← HQ.out] at hhf
        have HHF := hid hhf
        obtain ⟨K, hK⟩ : ∃ K, K = PS.takes N := ⟨_, rfl⟩
        have hK2 : N + 12 ≤ 256 * K ∧ 256 * K ≤ N + 267 := by rw [hK]; unfold PS.takes; omega
        have htk : ∀ w', Calls Try.prog 86 #[I N] w' fun e w'' => e = .returned (I K) ∧ w' = w'' := fun w' => by rw [hK]; exact rtakes_any w' N (by omega)
        have HTK := hid htk
        have HKE := hid hK
        have hld : ¬ K < Q → PS.load (PS.halfOf D h) (PS.hp D.safe.length) = (11, [], 0) := fun hk => by
          rw [← HSH.out, ← HQ.out]
          unfold PS.load
          rw [if_neg HZ0.out, ← HN.out, ← HKE.out, if_pos (by omega)]
        have HLD := hid hld
        clear hhf hK htk hld
        by_cases hA : Q * 256 < N
        · have f9 : (Q : Int) * 256 < (N : Int) := by omega
          have hkq : ¬ K < Q := by omega
          have HKQ := hid hkq
          clear hkq hA
          go_wp2
          refine bodyPost_ret (results_tmp4 rfl _ _ _) rfl ?_
          rw [HX.out, PS.inner_load HH.out.symm hroot (HLD.out HKQ.out) (by decide)]
          exact ⟨.inl ⟨by decide, rfl⟩, HBZ.out⟩
        have f9 : ¬ (Q : Int) * 256 < (N : Int) := by omega
        by_cases hkq : K < Q
        rotate_left
        · have f10 : (Q : Int) ≤ (K : Int) := by omega
          have HKQ := hid hkq
          clear hkq hA
          go_wp2_with (first | (go_at_call 86; refine (HTK.out _).mono ?_; rintro e w3 ⟨rfl, rfl⟩) | (go_at_call 85; refine HHF.out.mono ?_; rintro e w3 ⟨rfl, rfl⟩))
          refine bodyPost_ret (results_tmp4 rfl _ _ _) rfl ?_
          rw [HX.out, PS.inner_load HH.out.symm hroot (HLD.out HKQ.out) (by decide)]
          exact ⟨.inl ⟨by decide, rfl⟩, HBZ.out⟩
        have f10 : ¬ (Q : Int) ≤ (K : Int) := by omega
        obtain ⟨M, hM⟩ : ∃ M, M = 12 + N := ⟨_, rfl⟩
        have hw12 : IntKind.i64.wrap (12 + (N : Int)) = (M : Int) := by rw [IntWalk.i64_in _ (by omega)]; omega
        have hM2 : M ≤ Q * 256 ∧ 12 ≤ M ∧ M - 12 = N := by omega
        have hpart := Part.of_own HROZ.out (n := N) (by omega) (by omega)
        have hsl : sl (some ⟨g, 0, none⟩) co 12 (12 + N) = .slice (some ⟨g, 12, none⟩) N (co - 12) := by unfold sl; rw [if_neg (by omega), show 12 + N - 12 = N by omega]; rfl
        rw [hsl] at hpart
        obtain ⟨bl, hbl⟩ : ∃ bl, bl = (S.drop 12).take N := ⟨_, rfl⟩
        obtain ⟨Y, hY⟩ : ∃ Y, Y = S.take M := ⟨_, rfl⟩
        obtain ⟨F, hF⟩ : ∃ F, F = PS.framed bl := ⟨_, rfl⟩
        have hbll : bl.length = N := by rw [hbl, List.length_take, List.length_drop, HSL.out]; omega
        rw [← hbl] at hpart
        have hsY := (own_sees' HROZ.out HSL.out).take M (by rw [HSL.out]; omega)
        rw [← hY] at hsY
        have hge : PS.load (PS.halfOf D h) (PS.hp D.safe.length) = if F = Y then (0, bl, K) else (12, [], 0) := by
          rw [← HSH.out, ← HQ.out]
          unfold PS.load
          rw [if_neg HZ0.out, ← HN.out, ← HKE.out, if_neg (by omega), ← hbl, ← hF, ← hM, ← hY]
        have HGE := hid hge
        have HPA := hid hpart
        have HAL := hid hsY
        have HBL := hid hbll
        have HFF := hid hF
        have hse := str_eq F Y
        have hN1 : N ≤ 1073741824 := by omega
        have hc12 : ¬ co = 12 := by omega
        have m1 : 12 ≤ M := hM2.2.1
        have m1i : (12 : Int) ≤ (M : Int) := by omega
        have m2 : M - 12 = N := hM2.2.2
        have m3 : M ≤ co := by omega
        have m3i : (M : Int) ≤ (co : Int) := by omega
        clear hpart hsl hbl hY hF hbll hsY hge hM HLD
        go_upto_region 27 with (first | (go_at_call 86; refine (HTK.out _).mono ?_; rintro e w3 ⟨rfl, rfl⟩) | (go_at_call 85; refine HHF.out.mono ?_; rintro e w3 ⟨rfl, rfl⟩))
        go_wp2_with (at_builtin; go_must (refine wpList_app rfl (.tmp 118) (.tmp 122) 23 rfl wz.heap.size 5 (.int .u8 0) 1 1 Try.underlying23 info5 rfl (by decide) 0 [] N (bl.map B) (World.ownsRow_nil _ _ _ _) ?src ?h63 ?hb (Nat.le_refl _) ?_))
        case src => have := HPA.out.sees.src; rw [HBL.out] at this; exact this
        case h63 => unfold maxLen; omega
        case hb => omega
        intro v' w8 hown hgrow hat
        replace hown : w8.ownsRow wz.heap.size 5 1 v' N (bl.map B) := own_len hown (by omega) rfl
        have HB8 : Hid (Below wz.heap.size wz w8) := hid ((Below.refl _ _).grown hgrow (Nat.le_refl _) (fun i hi => by cases hi))
        have HS8 := hid (own_sees' hown HBL.out)
        obtain ⟨av, cv, rfl⟩ := own_form hown
        clear hown hgrow hat
        go_upto_region 29 with (go_at_call 86; refine (HTK.out _).mono ?_; rintro e w3 ⟨rfl, rfl⟩)
        have k51 : ∀ w', Ext w8.drew w' → (convert 23 9 (.slice (some ⟨g, 0, none⟩) M co)).run Try.prog w' = .ok (.string (str Y)) w' := fun w' hh => run_str Try.underlying23 Try.underlying5 Try.underlying9 ((HAL.out.below HB8.out).below (Ext.trans _ _ _ (Ext.drew w8) hh))
        have hfr := rframe5_any w8.drew _ bl HS8.out.drew (by rw [HBL.out]; exact hN1)
        rw [← HFF.out] at hfr
        have HFR := hid hfr
        clear hfr
        by_cases hfy : F = Y
        · have hb : decide (F = Y) = true := decide_eq_true hfy
          have HLD : Hid (PS.load (PS.halfOf D h) (PS.hp D.safe.length) = (0, bl, K)) := hid (by rw [HGE.out, if_pos hfy])
          clear hfy HGE
          refine wp_region_order Ext [] [(0,0),(3,0),(4,0),(5,0),(6,0),(7,0),(1,1),(2,0),(8,0)] _ (by kernel_rfl) rfl Ext.refl Ext.trans (by kernel_rfl) (by simp only [pick, List.getElem?_toArray, List.getElem?_cons_zero, List.getElem?_cons_succ]; rfl) (fun c a d v w h => by cases d <;> exact h) ?_
          refine wpK_q (v := ?_) (a' := ?_) (by rfl) (fun w' hR => ?_) ?_ ?_
          rotate_left 2
          · go_simp; with_reducible rfl
          · simp only [Act.put, List.setIfInBounds_toArray, List.set_cons_zero, List.set_cons_succ]; rfl
          refine wpK_q (v := ?_) (a' := ?_) (by rfl) (fun w' hR => ?_) ?_ ?_
          rotate_left 2
          · go_simp; with_reducible rfl
          · simp only [Act.put, List.setIfInBounds_toArray, List.set_cons_zero, List.set_cons_succ]; rfl
          refine wpK_q (v := ?_) (a' := ?_) (by rfl) (fun w' hR => ?_) ?_ ?_
          rotate_left 2
          · go_simp; with_reducible rfl
          · simp only [Act.put, List.setIfInBounds_toArray, List.set_cons_zero, List.set_cons_succ]; rfl
          refine wpK_q (v := ?_) (a' := ?_) (by rfl) (fun w' hR => ?_) ?_ ?_
          rotate_left 2
          · go_simp; with_reducible rfl
          · simp only [Act.put, List.setIfInBounds_toArray, List.set_cons_zero, List.set_cons_succ]; rfl
          refine wpK_q (v := ?_) (a' := ?_) (by rfl) (fun w' hR => ?_) ?_ ?_
          rotate_left 2
          · go_simp; with_reducible rfl
          · simp only [Act.put, List.setIfInBounds_toArray, List.set_cons_zero, List.set_cons_succ]; rfl
          refine wpK_q (v := ?_) (a' := ?_) (by rfl) (fun w' hR => ?_) ?_ ?_
          rotate_left 2
          · go_simp; with_reducible rfl
          · simp only [Act.put, List.setIfInBounds_toArray, List.set_cons_zero, List.set_cons_succ]; rfl
          refine wpK_call Try.func76 (by kernel_rfl) rfl rfl (by rfl) #[.slice av N cv] (by simp only [List.map_toArray, List.map_cons, List.map_nil]; rfl) ?_
          refine HFR.out.mono ?_
          rintro e w11 ⟨v11, rfl, ho11, hb11⟩
          refine ⟨_, rfl, fun _ => hb11, ?_⟩
          obtain ⟨ao11, co11, rfl⟩ := own_form ho11
          have S11 := hid (own_sees ho11)
          have HBX : Hid (Below w8.heap.size w8 w11) := hid (Ext.trans _ _ _ (Ext.drew w8) hb11)
          have k6 : ∀ w', Ext w11 w' → (convert 23 9 (.slice ao11 F.length co11)).run Try.prog w' = .ok (.string (str F)) w' := fun w' hh => run_str Try.underlying23 Try.underlying5 Try.underlying9 (S11.out.below hh)
          clear ho11 hb11
          refine wpK_q (v := ?_) (a' := ?_) (by rfl) (fun w' hR => ?_) ?_ ?_
          rotate_left 2
          · go_simp; with_reducible rfl
          · simp only [Act.put, List.setIfInBounds_toArray, List.set_cons_zero, List.set_cons_succ]; rfl
          refine wpK_q (v := ?_) (a' := ?_) (by rfl) (fun w' hR => ?_) ?_ ?_
          rotate_left 2
          · go_simp; with_reducible rfl
          · simp only [Act.put, List.setIfInBounds_toArray, List.set_cons_zero, List.set_cons_succ]; rfl
          refine wpK_done ?_
          clear k6 k51 hse hb S11 HFR
          have HSB := hid ((HS8.out.below HBX.out))
          have HBT := hid (HBZ.out.trans ((HB8.out.trans (HBX.out.mono HB8.out.size)).mono HBZ.out.size))
          have HDT := hid ((HDZ.out.below HB8.out).below HBX.out)
          have HQT := hid ((HBX.out.block _ (by have := HB8.out.size; omega)).trans ((HB8.out.block _ hzz).trans HQZ.out))
          have hzt : w.heap.size < w11.heap.size := by have := HB8.out.size; have := HBX.out.size; omega
          obtain ⟨kk, hkk⟩ : ∃ kk, kk = K := ⟨_, rfl⟩
          rw [← hkk] at HLD ⊢
          have hkQ : 1 ≤ kk ∧ kk < Q := by omega
          clear hkk HBZ HB8 HBX HDZ HQZ HS8 HPA HAL HROZ HTK HHF HKE
          go_upto_region 31 with fail
          obtain ⟨lk, hlk⟩ : ∃ lk, lk = lo + kk := ⟨_, rfl⟩
          have hlk2 : lk ≤ lo + kk ∧ lo + kk ≤ lk := by omega
          have hadd : IntKind.i64.wrap ((lo : Int) + (kk : Int)) = (lk : Int) := by rw [IntWalk.i64_in _ (by omega)]; omega
          obtain ⟨y, hy⟩ : ∃ y, y = TS.opn D lk hi := ⟨_, rfl⟩
          have hop := ropen_any w11 p own D (lk : Int) (hi : Int) HDT.out (by omega) (by omega)
          rw [← hy] at hop
          simp only [Int.toNat_natCast] at hop
          obtain ⟨ye, yr, ya, yc⟩ := y
          have hin := PS.inner_tape (e := ye) (rs := yr) (a := ya) (c := yc) HH.out.symm hroot HLD.out (by rw [← HLO.out, ← HQ.out, ← HHI.out, ← hlk]; exact hy.symm)
          rw [← HLO.out, ← HQ.out, ← HHI.out, ← hlk, ← HX.out] at hin
          have HIN := hid hin
          have HOP := hid hop
          clear hin hop hy hlk
          go_wp2_with fail
          refine HOP.out.mono ?_
          rintro e w5 ⟨⟨h0, rfl⟩ | ⟨h0, t, v, rfl, ht, htp, hsh⟩, hb5⟩
          · have hne : (ye != 0) = true := by simpa using h0
            have HB5 := hid hb5
            clear hb5
            go_wp2
            refine bodyPost_ret (results_tmp4 rfl _ _ _) rfl ?_
            rw [HIN.out, if_pos h0]
            exact ⟨.inl ⟨h0, rfl⟩, HBT.out.trans (HB5.out.mono HBT.out.size)⟩
          · obtain ⟨al, cl, rfl, -⟩ := hsh.len
            simp only at h0
            subst h0
            have hq5 := (hb5.block _ hzt).trans HQT.out
            have cq2 : w5.cell? ⟨w.heap.size, 2, none⟩ = some (.pointer none) := by rw [cell_of_row _ _ _ _ _ _ hq5]; rfl
            have fq2 := frozen_row hq5 2
            have HQ5 := hid hq5
            have CQ2 := hid cq2
            have HB5 := hid hb5
            have HT5 := hid (And.intro ht (And.intro htp hsh))
            clear hb5 ht htp hsh hq5
            go_wp2
            refine bodyPost_ret (results_tmp4 rfl _ _ _) rfl ?_
            obtain ⟨ht, htp, hsh⟩ := HT5.out
            have hs := heap_setCell_same w5 w.heap.size 2 _ _ (.pointer (some ⟨t, 0, none⟩)) HQ5.out
            have hbs : Mod (fun k => k = w.heap.size) w5 (w5.setCell ⟨w.heap.size, 2, none⟩ (.pointer (some ⟨t, 0, none⟩))) := Mod.set rfl
            have hqt : w.heap.size ≠ t := by omega
            rw [HIN.out, if_neg (by simp)]
            refine ⟨.inr ⟨rfl, w.heap.size, t, _, _, rfl, ⟨hs, htp.mod hbs (fun e => hqt e.symm), hh1, by show (-9223372036854775808 : Int) ≤ 0 ∧ (0 : Int) ≤ 9223372036854775807; omega, hqt, h5⟩, Nat.le_refl _, by omega, (HSB.out.below HB5.out).setPtr CQ2.out _, hsh.setPtr CQ2.out _⟩, (HBT.out.trans (HB5.out.mono HBT.out.size)).trans (hbs.below (Nat.le_trans HBT.out.size HB5.out.size) (fun i hi e => by omega))⟩
        · have hb : decide (F = Y) = false := decide_eq_false hfy
          have HLD : Hid (PS.load (PS.halfOf D h) (PS.hp D.safe.length) = (12, [], 0)) := hid (by rw [HGE.out, if_neg hfy])
          clear hfy HGE
          refine wp_region_order Ext [] [(0,0),(3,0),(4,0),(5,0),(6,0),(7,0),(1,1),(2,0),(8,0)] _ (by kernel_rfl) rfl Ext.refl Ext.trans (by kernel_rfl) (by simp only [pick, List.getElem?_toArray, List.getElem?_cons_zero, List.getElem?_cons_succ]; rfl) (fun c a d v w h => by cases d <;> exact h) ?_
          refine wpK_q (v := ?_) (a' := ?_) (by rfl) (fun w' hR => ?_) ?_ ?_
          rotate_left 2
          · go_simp; with_reducible rfl
          · simp only [Act.put, List.setIfInBounds_toArray, List.set_cons_zero, List.set_cons_succ]; rfl
          refine wpK_q (v := ?_) (a' := ?_) (by rfl) (fun w' hR => ?_) ?_ ?_
          rotate_left 2
          · go_simp; with_reducible rfl
          · simp only [Act.put, List.setIfInBounds_toArray, List.set_cons_zero, List.set_cons_succ]; rfl
          refine wpK_q (v := ?_) (a' := ?_) (by rfl) (fun w' hR => ?_) ?_ ?_
          rotate_left 2
          · go_simp; with_reducible rfl
          · simp only [Act.put, List.setIfInBounds_toArray, List.set_cons_zero, List.set_cons_succ]; rfl
          refine wpK_q (v := ?_) (a' := ?_) (by rfl) (fun w' hR => ?_) ?_ ?_
          rotate_left 2
          · go_simp; with_reducible rfl
          · simp only [Act.put, List.setIfInBounds_toArray, List.set_cons_zero, List.set_cons_succ]; rfl
          refine wpK_q (v := ?_) (a' := ?_) (by rfl) (fun w' hR => ?_) ?_ ?_
          rotate_left 2
          · go_simp; with_reducible rfl
          · simp only [Act.put, List.setIfInBounds_toArray, List.set_cons_zero, List.set_cons_succ]; rfl
          refine wpK_q (v := ?_) (a' := ?_) (by rfl) (fun w' hR => ?_) ?_ ?_
          rotate_left 2
          · go_simp; with_reducible rfl
          · simp only [Act.put, List.setIfInBounds_toArray, List.set_cons_zero, List.set_cons_succ]; rfl
          refine wpK_call Try.func76 (by kernel_rfl) rfl rfl (by rfl) #[.slice av N cv] (by simp only [List.map_toArray, List.map_cons, List.map_nil]; rfl) ?_
          refine HFR.out.mono ?_
          rintro e w11 ⟨v11, rfl, ho11, hb11⟩
          refine ⟨_, rfl, fun _ => hb11, ?_⟩
          obtain ⟨ao11, co11, rfl⟩ := own_form ho11
          have S11 := hid (own_sees ho11)
          have HBX : Hid (Below w8.heap.size w8 w11) := hid (Ext.trans _ _ _ (Ext.drew w8) hb11)
          have k6 : ∀ w', Ext w11 w' → (convert 23 9 (.slice ao11 F.length co11)).run Try.prog w' = .ok (.string (str F)) w' := fun w' hh => run_str Try.underlying23 Try.underlying5 Try.underlying9 (S11.out.below hh)
          clear ho11 hb11
          refine wpK_q (v := ?_) (a' := ?_) (by rfl) (fun w' hR => ?_) ?_ ?_
          rotate_left 2
          · go_simp; with_reducible rfl
          · simp only [Act.put, List.setIfInBounds_toArray, List.set_cons_zero, List.set_cons_succ]; rfl
          refine wpK_q (v := ?_) (a' := ?_) (by rfl) (fun w' hR => ?_) ?_ ?_
          rotate_left 2
          · go_simp; with_reducible rfl
          · simp only [Act.put, List.setIfInBounds_toArray, List.set_cons_zero, List.set_cons_succ]; rfl
          refine wpK_done ?_
          clear k6 k51 hse hb S11 HFR
          go_wp2
          refine bodyPost_ret (results_tmp4 rfl _ _ _) rfl ?_
          rw [HX.out, PS.inner_load HH.out.symm hroot HLD.out (by decide)]
          exact ⟨.inl ⟨by decide, rfl⟩, HBZ.out.trans ((HB8.out.trans (HBX.out.mono HB8.out.size)).mono HBZ.out.size)⟩
end Go.Proofs.Ytoaeapnkefjpaaa

namespace Go.Proofs.Ytoaeapnkefjpaaa
open Go.RowKit
set_option linter.unusedVariables false
set_option linter.unusedSimpArgs false

section
variable {w0 w w' : World} {od om od' om' : Nat → Prop} {p pm : Nat} {D M D' M' : DS}
/-- The program's drum and a block beside it change. -/
theorem Both.dstep1 (h : Both w0 od p om pm D M w) {g : Nat} (hg : ¬ om g) (hz : w0.heap.size ≤ g) (hd : DrumAt w' p od' D') (ho : ∀ k, od' k → od k ∨ w.heap.size ≤ k) (hm : Mod (fun k => od k ∨ k = g) w w') :
    Both w0 od' p om pm D' M w' ∧ (∀ b o, b ≠ g → Held od om w b o → Held od' om w' b o) ∧ Below w0.heap.size w w' := by
  have hlow : ∀ i, i < w0.heap.size → ¬ (od i ∨ i = g) := fun i hi e => by
    rcases e with e | e
    · have := h.fd i e; omega
    · omega
  refine ⟨⟨hd, h.m.mod hm (fun k hk e => e.elim (fun e => h.dis k e hk) (fun e => hg (e ▸ hk))), fun k hk => ?_, h.fm, fun k hk hk2 => ?_, h.below.trans (hm.below h.below.size hlow)⟩, fun b o hb hh => ⟨(hm.block b hh.lt (fun e => e.elim hh.2.1 hb)).trans hh.1, fun e => ?_, hh.2.2⟩, hm.below h.below.size hlow⟩
  · rcases ho k hk with h' | h'
    · exact h.fd k h'
    · exact Nat.le_trans h.below.size h'
  · rcases ho k hk with h' | h'
    · exact h.dis k h' hk2
    · have := h.m.lt k hk2; omega
  · rcases ho b e with h' | h'
    · exact hh.2.1 h'
    · have := hh.lt; omega
/-- The document's drum and a block beside it change. -/
theorem Both.mstep1 (h : Both w0 od p om pm D M w) {g : Nat} (hg : ¬ od g) (hz : w0.heap.size ≤ g) (hd : RefAt w' pm om' M') (ho : ∀ k, om' k → om k ∨ w.heap.size ≤ k) (hm : Mod (fun k => om k ∨ k = g) w w') :
    Both w0 od p om' pm D M' w' ∧ (∀ b o, b ≠ g → Held od om w b o → Held od om' w' b o) ∧ Below w0.heap.size w w' := by
  have hlow : ∀ i, i < w0.heap.size → ¬ (om i ∨ i = g) := fun i hi e => by
    rcases e with e | e
    · have := h.fm i e; omega
    · omega
  refine ⟨⟨h.d.mod hm (fun k hk e => e.elim (fun e => h.dis k hk e) (fun e => hg (e ▸ hk))), hd, h.fd, fun k hk => ?_, fun k hk hk2 => ?_, h.below.trans (hm.below h.below.size hlow)⟩, fun b o hb hh => ⟨(hm.block b hh.lt (fun e => e.elim hh.2.2 hb)).trans hh.1, hh.2.1, fun e => ?_⟩, hm.below h.below.size hlow⟩
  · rcases ho k hk with h' | h'
    · exact h.fm k h'
    · exact Nat.le_trans h.below.size h'
  · rcases ho k hk2 with h' | h'
    · exact h.dis k hk h'
    · have := h.d.lt k hk; omega
  · rcases ho b e with h' | h'
    · exact hh.2.2 h'
    · have := hh.lt; omega
end
/-- A block that is of neither drum. -/
abbrev Free (od om : Nat → Prop) (x : Nat) : Prop := ¬ od x ∧ ¬ om x
/-- The two pairs side by side. -/
structure PP (w0 w : World) (od om : Nat → Prop) (p pm n : Nat) (P : PS) (q t u s : Nat) : Prop where
  a : PairIn w q t p n P
  b : RPairIn w u s pm n P
  fq : Free od om q
  ft : Free od om t
  fu : Free od om u
  fs : Free od om s
  d1 : q ≠ u
  d2 : q ≠ s
  d3 : t ≠ u
  d4 : t ≠ s
  zq : w0.heap.size ≤ q
  zu : w0.heap.size ≤ u
  zs : w0.heap.size ≤ s
/-- The two pairs, or none. -/
def Pairs (w0 w : World) (od om : Nat → Prop) (p pm n : Nat) (P : PS) (pv qv : Value) : Prop :=
  (pv = .pointer none ∧ qv = .pointer none) ∨ ∃ q t u s, pv = .pointer (some ⟨q, 0, none⟩) ∧ qv = .pointer (some ⟨u, 0, none⟩) ∧ PP w0 w od om p pm n P q t u s
theorem PP.stay {w0 w w' : World} {od om od' om' : Nat → Prop} {p pm n : Nat} {P : PS} {q t u s : Nat} (h : PP w0 w od om p pm n P q t u s) (hs : Stay od om od' om' w w') : PP w0 w' od' om' p pm n P q t u s := by
  obtain ⟨h1, h2⟩ := hs q _ ⟨h.a.hq, h.fq⟩
  obtain ⟨h3, h4⟩ := hs t _ ⟨h.a.tape.ht, h.ft⟩
  obtain ⟨h5, h6⟩ := hs u _ ⟨h.b.hq, h.fu⟩
  obtain ⟨h7, h8⟩ := hs s _ ⟨h.b.tape.ht, h.fs⟩
  exact ⟨h.a.keep (h1.trans h.a.hq.symm) (h3.trans h.a.tape.ht.symm), h.b.keep (h5.trans h.b.hq.symm) (h7.trans h.b.tape.ht.symm), h2, h4, h6, h8, h.d1, h.d2, h.d3, h.d4, h.zq, h.zu, h.zs⟩
theorem Pairs.stay {w0 w w' : World} {od om od' om' : Nat → Prop} {p pm n : Nat} {P : PS} {pv qv : Value} (h : Pairs w0 w od om p pm n P pv qv) (hs : Stay od om od' om' w w') : Pairs w0 w' od' om' p pm n P pv qv := by
  rcases h with h | ⟨q, t, u, s, h1, h2, h3⟩
  · exact .inl h
  · exact .inr ⟨q, t, u, s, h1, h2, h3.stay hs⟩
theorem PS.open_bad {D : DS} (h : (PS.open_ D).1 ≠ 0) : (PS.open_ D).2.1 = [] ∧ (PS.open_ D).2.2.1 = [] := by
  unfold PS.open_ at h ⊢
  simp only at h ⊢
  split at h
  · rw [if_pos (by assumption)]; exact ⟨rfl, rfl⟩
  · rw [if_neg (by assumption)]
    split at h
    · rw [if_pos (by assumption)]; exact ⟨rfl, rfl⟩
    · rw [if_neg (by assumption)]
      split at h
      · rw [if_pos (by assumption)]; exact ⟨rfl, rfl⟩
      · rw [if_neg (by assumption)]
        split at h
        · rw [if_pos (by assumption)]; exact ⟨rfl, rfl⟩
        · rw [if_neg (by assumption)]
          split at h
          · rw [if_pos (by assumption)]; exact ⟨rfl, rfl⟩
          · exact absurd rfl h
section
variable {w0 w : World} {od om : Nat → Prop} {p pm : Nat} {D M : DS}
theorem both_popen (h : Both w0 od p om pm D M w) :
    Calls Try.prog 38 #[.pointer (some ⟨p, 0, none⟩)] w fun e w' => ∃ pv vb vl, e = .returned (.tuple #[pv, vb, vl, I (PS.open_ D).1]) ∧ Below w.heap.size w w' ∧ Sees w' vb (PS.open_ D).2.1 ∧ Shows w' vl (PS.open_ D).2.2.1 ∧
      (((PS.open_ D).1 ≠ 0 ∧ pv = .pointer none) ∨ ((PS.open_ D).1 = 0 ∧ ∃ q, pv = .pointer (some ⟨q, 0, none⟩) ∧ ∃ t, w.heap.size ≤ q ∧ PairIn w' q t p D.safe.length (PS.open_ D).2.2.2)) := by
  by_cases h5 : D.safe.length < 5
  · have e : PS.open_ D = (1, [], [], ⟨0, ⟨0, 0, 0, 0, 0⟩, 0⟩) := by unfold PS.open_; simp only; rw [if_pos h5]
    rw [e]
    refine (popen_few w p od D h.d h5).mono fun e w' hx => ⟨_, _, _, hx.1, hx.2, Sees.nil _, shows_nil _, .inl ⟨by decide, rfl⟩⟩
  · refine (pair_open w p od D h.d (by omega)).mono fun e w' hx => ?_
    rcases hx with ⟨h1, h2, h3⟩ | ⟨h1, q, t, vb, vl, h2, h3, h4, h5', h6, h7⟩
    · obtain ⟨e1, e2⟩ := PS.open_bad h1
      rw [e1, e2]
      exact ⟨_, _, _, h2, h3, Sees.nil _, shows_nil _, .inl ⟨h1, rfl⟩⟩
    · exact ⟨_, _, _, by rw [h1]; exact h2, h7, h5'.sees, h6.shows, .inr ⟨h1, q, rfl, t, h4, h3⟩⟩
theorem ropen5_any (w : World) (p : Nat) (own : Nat → Prop) (D : DS) (hd : RefAt w p own D) : Calls Try.prog 39 #[.pointer (some ⟨p, 0, none⟩)] w (ROpened5 w p D.safe.length (PS.open_ D)) := by
  by_cases h5 : D.safe.length < 5
  · have e : PS.open_ D = (1, [], [], ⟨0, ⟨0, 0, 0, 0, 0⟩, 0⟩) := by unfold PS.open_; simp only; rw [if_pos h5]
    rw [e]
    exact (ropen5_few w p own D hd h5).mono fun e w' hx => ⟨.inl ⟨by decide, hx.1⟩, hx.2 ▸ Below.refl _ _⟩
  · cases ho : D.off with
    | true =>
      have e : PS.open_ D = (20, [], [], ⟨0, ⟨0, 0, 0, 0, 0⟩, 0⟩) := by unfold PS.open_; simp only; rw [if_neg h5, if_pos ho]
      rw [e]
      exact (ropen5_off w p own D hd (by omega) ho).mono fun e w' hx => ⟨.inl ⟨by decide, hx.1⟩, hx.2 ▸ Below.refl _ _⟩
    | false =>
      rw [PS.open_eq D (by omega) ho]
      exact ropen5_on w p own D hd (by omega) ho
theorem both_ropen5 (h : Both w0 od p om pm D M w) :
    Calls Try.prog 39 #[.pointer (some ⟨pm, 0, none⟩)] w fun e w' => ∃ qv vb vl, e = .returned (.tuple #[qv, vb, vl, I (PS.open_ M).1]) ∧ Below w.heap.size w w' ∧ Sees w' vb (PS.open_ M).2.1 ∧ Shows w' vl (PS.open_ M).2.2.1 ∧
      (((PS.open_ M).1 ≠ 0 ∧ qv = .pointer none) ∨ ((PS.open_ M).1 = 0 ∧ ∃ u, qv = .pointer (some ⟨u, 0, none⟩) ∧ ∃ s, w.heap.size ≤ u ∧ w.heap.size ≤ s ∧ RPairIn w' u s pm M.safe.length (PS.open_ M).2.2.2)) := by
  refine (ropen5_any w pm om M h.m).mono fun e w' hx => ?_
  obtain ⟨hx, hb⟩ := hx
  rcases hx with ⟨h1, h2⟩ | ⟨h1, u, s, vb, vl, h2, h3, h4, h5, h6, h7⟩
  · obtain ⟨e1, e2⟩ := PS.open_bad h1
    rw [e1, e2]
    exact ⟨_, _, _, h2, hb, Sees.nil _, shows_nil _, .inl ⟨h1, rfl⟩⟩
  · exact ⟨_, _, _, by rw [h1]; exact h2, hb, h6, h7, .inr ⟨h1, u, rfl, s, h4, h5, h3⟩⟩
end
/-- Behind two openings. -/
theorem Pairs.opened {w0 w1 w2 w3 : World} {od om : Nat → Prop} {p pm : Nat} {D : DS} {pv qv : Value} (hb : Both w0 od p om pm D D w1) (h12 : Below w1.heap.size w1 w2) (h23 : Below w2.heap.size w2 w3)
    (ht : ((PS.open_ D).1 ≠ 0 ∧ pv = .pointer none) ∨ ((PS.open_ D).1 = 0 ∧ ∃ q, pv = .pointer (some ⟨q, 0, none⟩) ∧ ∃ t, w1.heap.size ≤ q ∧ PairIn w2 q t p D.safe.length (PS.open_ D).2.2.2))
    (hu : ((PS.open_ D).1 ≠ 0 ∧ qv = .pointer none) ∨ ((PS.open_ D).1 = 0 ∧ ∃ u, qv = .pointer (some ⟨u, 0, none⟩) ∧ ∃ s, w2.heap.size ≤ u ∧ w2.heap.size ≤ s ∧ RPairIn w3 u s pm D.safe.length (PS.open_ D).2.2.2)) :
    Pairs w0 w3 od om p pm D.safe.length (PS.open_ D).2.2.2 pv qv := by
  rcases ht with ⟨h1, h2⟩ | ⟨h1, q, h2, t, h3, h4⟩
  · rcases hu with ⟨k1, k2⟩ | ⟨k1, _⟩
    · exact .inl ⟨h2, k2⟩
    · exact absurd k1 h1
  · rcases hu with ⟨k1, _⟩ | ⟨k1, u, k2, s, k3, k4, k5⟩
    · exact absurd h1 k1
    · have htl := h4.tape.lt
      have hqt := h4.lt
      have hz := h12.size
      have hbz := hb.below.size
      have fr : ∀ x, w1.heap.size ≤ x → Free od om x := fun x hx => ⟨fun h => by have := hb.d.lt x h; omega, fun h => by have := hb.m.lt x h; omega⟩
      exact .inr ⟨q, t, u, s, h2, k2, h4.below h23, k5, fr q (by omega), fr t (by omega), fr u (by omega), fr s (by omega), by omega, by omega, by omega, by omega, by omega, by omega, by omega⟩
/-- Between two rounds of PairDoes. -/
structure PD (w wr : World) (p pm n : Nat) (od om : Nat → Prop) (D : DS) (P : PS) (pv qv : Value) (j : Nat) : Prop where
  both : Both w od p om pm D D wr
  pairs : Pairs w wr od om p pm n P pv qv
  len : D.safe.length = n
  waits : D.waits.length ≤ 200 + 3000 * j
section
variable {w wr wx : World} {p pm n : Nat} {od om od' om' : Nat → Prop} {D D' : DS} {P : PS} {pv qv : Value} {j j' : Nat}
theorem PD.stay (h : PD w wr p pm n od om D P pv qv j) (hb : Both w od' p om' pm D' D' wx) (hs : Stay od om od' om' wr wx) (hl : D'.safe.length = D.safe.length) (hw : D'.waits.length ≤ 200 + 3000 * j') : PD w wx p pm n od' om' D' P pv qv j' :=
  ⟨hb, h.pairs.stay hs, hl.trans h.len, hw⟩
theorem PD.on (h : PD w wr p pm n od om D P pv qv j) (hb : Below wr.heap.size wr wx) : PD w wx p pm n od om D P pv qv j := h.stay (h.both.on hb) (Stay.below hb) rfl h.waits
theorem PD.nj (h : PD w wr p pm n od om D P pv qv j) (hj : j ≤ j') : PD w wr p pm n od om D P pv qv j' := ⟨h.both, h.pairs, h.len, by have := h.waits; omega⟩
theorem PD.same (h : PD w wr p pm n od om D P pv qv j) : Calls Try.prog 55 #[.pointer (some ⟨p, 0, none⟩), .pointer (some ⟨pm, 0, none⟩)] wr fun e w' => e = .returned (.bool true) ∧ PD w w' p pm n od om D P pv qv j ∧ Below wr.heap.size wr w' :=
  (psame_any wr w p pm od om D h.both).mono fun e w' ⟨h1, h2⟩ => ⟨h1, h.on h2, h2⟩
theorem PD.arm (h : PD w wr p pm n od om D P pv qv j) (a k : Int) (ha : -9223372036854775808 ≤ a ∧ a ≤ 9223372036854775807) (hk : -9223372036854775808 ≤ k ∧ k ≤ 9223372036854775807) :
    Calls Try.prog 44 #[.pointer (some ⟨p, 0, none⟩), I a, I k] wr fun e w' => e = .returned (.tuple #[]) ∧ (∀ b o, Held od om wr b o → w'.heap[b]? = some o) ∧ Calls Try.prog 45 #[.pointer (some ⟨pm, 0, none⟩), I a, I k] w' fun e w'' => e = .returned (.tuple #[]) ∧ ∃ od' om', PD w w'' p pm n od' om' (D.Arm a k) P pv qv j :=
  (both_arm h.both a k ha hk).mono fun e w' ⟨h1, od', h2, h3⟩ => ⟨h1, fun b o hb => (h3 b o hb).1, (both_rarm h2 a k ha hk).mono fun e w'' ⟨k1, om', k2, k3⟩ => ⟨k1, od', om', h.stay k2 (Stay.trans h3 k3) rfl h.waits⟩⟩
theorem PD.off (h : PD w wr p pm n od om D P pv qv j) (k : Int) (hk : -9223372036854775808 ≤ k ∧ k ≤ 9223372036854775807) :
    Calls Try.prog 46 #[.pointer (some ⟨p, 0, none⟩), I k] wr fun e w' => e = .returned (.tuple #[]) ∧ (∀ b o, Held od om wr b o → w'.heap[b]? = some o) ∧ Calls Try.prog 47 #[.pointer (some ⟨pm, 0, none⟩), I k] w' fun e w'' => e = .returned (.tuple #[]) ∧ ∃ od' om', PD w w'' p pm n od' om' (D.Off k) P pv qv j :=
  (both_off h.both k hk).mono fun e w' ⟨h1, od', h2, h3⟩ => ⟨h1, fun b o hb => (h3 b o hb).1, (both_roff h2 k hk).mono fun e w'' ⟨k1, om', k2, k3⟩ => ⟨k1, od', om', h.stay k2 (Stay.trans h3 k3) (DS.Off_len D k) (Nat.le_trans (DS.Off_waits' D k) h.waits)⟩⟩
theorem PD.on' (h : PD w wr p pm n od om D P pv qv j) :
    Calls Try.prog 48 #[.pointer (some ⟨p, 0, none⟩)] wr fun e w' => e = .returned (.tuple #[]) ∧ (∃ x, w'.cell? ⟨pm, 3, none⟩ = some (.bool x)) ∧ w'.frozen? ⟨pm, 3, none⟩ = false ∧ ∃ od' om', PD w (w'.setCell ⟨pm, 3, none⟩ (.bool true)) p pm n od' om' D.On P pv qv j ∧ Stay od om od' om' wr (w'.setCell ⟨pm, 3, none⟩ (.bool true)) :=
  (both_on h.both).mono fun e w' ⟨h1, od', h2, h3⟩ => by
    obtain ⟨as0, cs0, d0, d3, d4, dfr⟩ := h2.m.cells
    obtain ⟨om', k2, k3⟩ := h2.mstep h2.m.on
    exact ⟨h1, ⟨_, d3⟩, dfr 3, od', om', h.stay k2 (Stay.trans h3 k3) rfl h.waits, Stay.trans h3 k3⟩
/-- Opened anew. -/
theorem PD.opened {w1 w2 w3 : World} {pv' qv' : Value} (h : PD w w1 p pm n od om D P pv qv j) (h12 : Below w1.heap.size w1 w2) (h23 : Below w2.heap.size w2 w3)
    (ht : ((PS.open_ D).1 ≠ 0 ∧ pv' = .pointer none) ∨ ((PS.open_ D).1 = 0 ∧ ∃ q, pv' = .pointer (some ⟨q, 0, none⟩) ∧ ∃ t, w1.heap.size ≤ q ∧ PairIn w2 q t p D.safe.length (PS.open_ D).2.2.2))
    (hu : ((PS.open_ D).1 ≠ 0 ∧ qv' = .pointer none) ∨ ((PS.open_ D).1 = 0 ∧ ∃ u, qv' = .pointer (some ⟨u, 0, none⟩) ∧ ∃ s, w2.heap.size ≤ u ∧ w2.heap.size ≤ s ∧ RPairIn w3 u s pm D.safe.length (PS.open_ D).2.2.2)) :
    PD w w3 p pm n od om D (PS.open_ D).2.2.2 pv' qv' j := by
  have hb : Below w1.heap.size w1 w3 := h12.trans (h23.mono h12.size)
  exact ⟨h.both.on hb, by rw [← h.len]; exact Pairs.opened h.both h12 h23 ht hu, h.len, h.waits⟩
end
theorem PS.save_wt (D : DS) (P : PS) (b : List UInt8) (hn : D.safe.length ≤ 4096) : (PS.save D P b).2.1.waits.length ≤ D.waits.length + 2500 := by
  unfold PS.save
  by_cases h1 : PS.hp D.safe.length ≤ PS.takes b.length
  · rw [if_pos h1]; simp
  · rw [if_neg h1]
    by_cases h2 : P.sick ≠ 0
    · rw [if_pos h2]; simp
    · rw [if_neg h2]
      have hk : PS.takes b.length ≤ 2048 := by unfold PS.hp at h1; omega
      have hl : (PS.lay D (1 + (1 - P.half) * PS.hp D.safe.length) (1 - P.half) b).2.waits.length ≤ D.waits.length + 2500 := by
        generalize 1 + (1 - P.half) * PS.hp D.safe.length = a
        generalize 1 - P.half = h
        rw [PS.lay_eq]
        have hw := TS.wr_waits (PS.ps b) D a
        rw [PS.ps_len] at hw
        generalize TS.wr D a (PS.ps b) = x at *
        split
        · omega
        · unfold PS.lay2
          simp only
          have f1 := DS.Flush_waits x.2
          have f2 := DS.write_waits' x.2.Flush.2 0 (PS.rootPage h)
          have f3 := DS.Flush_waits (x.2.Flush.2.write 0 (PS.rootPage h)).2
          split
          · omega
          · split <;> omega
      simp only
      split
      · exact hl
      · split <;> exact hl
section
variable {w wr : World} {p pm n q t u s : Nat} {od om : Nat → Prop} {D : DS} {P : PS} {j : Nat}
/-- What else is there stays while the pairs work. -/
def Quiet4 (od om : Nat → Prop) (w w' : World) : Prop := ∀ b cs ty, ty ≠ 114 → ty ≠ 132 → ty ≠ 67 → ty ≠ 64 → Held od om w b (.cells cs ty (0, 0)) → w'.heap[b]? = some (.cells cs ty (0, 0))
theorem Held.ne {b x : Nat} {cs cs' : Array Value} {ty ty' : TypeId} {f : Nat × Nat} (h : Held od om w b (.cells cs ty (0, 0))) (hx : w.heap[x]? = some (.cells cs' ty' f)) (hne : ty ≠ ty') : b ≠ x := fun e => by
  subst e
  have h1 := h.1
  rw [hx] at h1
  simp only [Option.some.injEq, Obj.cells.injEq] at h1
  exact hne h1.2.1.symm
set_option maxRecDepth 100000 in
theorem PD.append (h : PD w wr p pm n od om D P (.pointer (some ⟨q, 0, none⟩)) (.pointer (some ⟨u, 0, none⟩)) j) {v : Value} {r : List UInt8} (hv : Sees wr v r) (hvw : Sees w v r) (hj : j ≤ 100) :
    Calls Try.prog 40 #[.pointer (some ⟨q, 0, none⟩), v] wr fun e w' => e = .returned (I (PS.append D P r).1) ∧ Quiet4 od om wr w' ∧ wr.heap.size ≤ w'.heap.size ∧
      Calls Try.prog 41 #[.pointer (some ⟨u, 0, none⟩), v] w' fun e w'' => e = .returned (I (PS.append D P r).1) ∧ Quiet4 od om wr w'' ∧ w'.heap.size ≤ w''.heap.size ∧ ∃ od' om' D' P', PD w w'' p pm n od' om' D' P' (.pointer (some ⟨q, 0, none⟩)) (.pointer (some ⟨u, 0, none⟩)) (j + 1) := by
  rcases h.pairs with ⟨k, -⟩ | ⟨q', t, u', s, k1, k2, hp⟩
  · cases k
  simp only [Value.pointer.injEq, Option.some.injEq, Addr.mk.injEq, and_true] at k1 k2
  subst k1 k2
  have hwt := h.waits
  have ha := hp.a
  rw [← h.len] at ha
  refine (pair_append wr q t p od P D v r ha h.both.d hp.fq.1 hp.ft.1 hv (by omega)).mono fun e w' hx => ?_
  obtain ⟨a1, a2, od', a3, a4, a5⟩ := hx
  have hqt := hp.a.lt
  obtain ⟨b1, b2, b3⟩ := h.both.dstep1 hp.ft.2 (by have := hp.zq; omega) a3 a4 a5
  have hu1 := b2 u _ (fun e => hp.d3 e.symm) ⟨hp.b.hq, hp.fu⟩
  have hs1 := b2 s _ (fun e => hp.d4 e.symm) ⟨hp.b.tape.ht, hp.fs⟩
  have hq1 := b2 q _ (by omega) ⟨hp.a.hq, hp.fq⟩
  have htf : Free od' om t := ⟨fun e => (a4 t e).elim hp.ft.1 (fun h' => by have := hp.a.tape.lt; omega), hp.ft.2⟩
  have hr : RPairIn w' u s pm D.safe.length P := by rw [h.len]; exact hp.b.keep (hu1.1.trans hp.b.hq.symm) (hs1.1.trans hp.b.tape.ht.symm)
  refine ⟨a1, fun b cs ty h1 h2 h3 h4 hb => (b2 b _ (hb.ne hp.a.tape.ht h2) hb).1, b3.size, (rappend5_any w' u s pm om P D v r hr b1.m hu1.2.2 hs1.2.2 (hvw.below (h.both.below.trans b3)) (by omega)).mono fun e w'' hy => ?_⟩
  obtain ⟨c1, c2, om', c3, c4, c5⟩ := hy
  obtain ⟨f1, f2, f3⟩ := b1.mstep1 hs1.2.1 hp.zs c3 c4 c5
  have hq2 := f2 q _ hp.d2 hq1
  have ht2 := f2 t _ hp.d4 ⟨a2.tape.ht, htf⟩
  have hu2 := f2 u _ hp.b.ne hu1
  have hsf : Free od' om' s := ⟨hs1.2.1, fun e => (c4 s e).elim hs1.2.2 (fun h' => by have := hs1.lt; omega)⟩
  have hlen := PS.append_len D P r
  have hw2 := PS.append_waits D P r
  have hqb : w''.heap[q]? = w'.heap[q]? := by rw [(f2 q (.cells #[.pointer (some ⟨p, 0, none⟩), .pointer (some ⟨t, 0, none⟩), I (PS.append D P r).2.2.half, I (PS.append D P r).2.2.sick] 114 (0, 0)) hp.d2 ⟨a2.hq, hq1.2⟩).1, a2.hq]
  refine ⟨c1, fun b cs ty h1 h2 h3 h4 hb => (f2 b _ (hb.ne hp.b.tape.ht h4) (b2 b _ (hb.ne hp.a.tape.ht h2) hb)).1, f3.size, od', om', _, (PS.append D P r).2.2, f1, .inr ⟨q, t, u, s, rfl, rfl, ?_, ?_, hq2.2, ht2.2, hu2.2, hsf, hp.d1, hp.d2, hp.d3, hp.d4, hp.zq, hp.zu, hp.zs⟩, hlen.trans h.len, by omega⟩
  · rw [← h.len]; exact a2.keep hqb (ht2.1.trans a2.tape.ht.symm)
  · rw [← h.len]; exact c2
set_option maxRecDepth 100000 in
theorem PD.save (h : PD w wr p pm n od om D P (.pointer (some ⟨q, 0, none⟩)) (.pointer (some ⟨u, 0, none⟩)) j) {v : Value} {b : List UInt8} (hv : Sees wr v b) (hvw : Sees w v b) (hb : b.length ≤ 1073741824) (hj : j ≤ 100) :
    Calls Try.prog 42 #[.pointer (some ⟨q, 0, none⟩), v] wr fun e w' => e = .returned (I (PS.save D P b).1) ∧ Quiet4 od om wr w' ∧ wr.heap.size ≤ w'.heap.size ∧
      Calls Try.prog 43 #[.pointer (some ⟨u, 0, none⟩), v] w' fun e w'' => e = .returned (I (PS.save D P b).1) ∧ Quiet4 od om wr w'' ∧ w'.heap.size ≤ w''.heap.size ∧ ∃ od' om' D' P', PD w w'' p pm n od' om' D' P' (.pointer (some ⟨q, 0, none⟩)) (.pointer (some ⟨u, 0, none⟩)) (j + 1) := by
  rcases h.pairs with ⟨k, -⟩ | ⟨q', t, u', s, k1, k2, hp⟩
  · cases k
  simp only [Value.pointer.injEq, Option.some.injEq, Addr.mk.injEq, and_true] at k1 k2
  subst k1 k2
  have hwt := h.waits
  have ha := hp.a
  rw [← h.len] at ha
  have hn := h.both.d.ok.n2
  refine (psave_any wr q t p od P D v b ha h.both.d hv hb hp.fq.1 hp.ft.1 (by omega)).mono fun e w' hx => ?_
  obtain ⟨t', a1, a2, at', od', a3, a4, a6, a5⟩ := hx
  have hqt := hp.a.lt
  obtain ⟨b1, b2, b3⟩ := h.both.dstep1 hp.fq.2 hp.zq a3 a4 a5
  have hu1 := b2 u _ (fun e => hp.d1 e.symm) ⟨hp.b.hq, hp.fu⟩
  have hs1 := b2 s _ (fun e => hp.d2 e.symm) ⟨hp.b.tape.ht, hp.fs⟩
  have hqf : Free od' om q := ⟨fun e => (a4 q e).elim hp.fq.1 (fun h' => by have := ha.ql; omega), hp.fq.2⟩
  have htf : Free od' om t' := ⟨a6, fun e => by
    rcases at' with e2 | e2
    · rw [e2] at e; exact hp.ft.2 e
    · have := h.both.m.lt t' e; omega⟩
  have hul : u < wr.heap.size := (Array.getElem?_eq_some_iff.1 hp.b.hq).1
  have hsl : s < wr.heap.size := hp.b.tape.lt
  have e3 : t' ≠ u := by rcases at' with e | e; exact e ▸ hp.d3; omega
  have e4 : t' ≠ s := by rcases at' with e | e; exact e ▸ hp.d4; omega
  have hr : RPairIn w' u s pm D.safe.length P := by rw [h.len]; exact hp.b.keep (hu1.1.trans hp.b.hq.symm) (hs1.1.trans hp.b.tape.ht.symm)
  refine ⟨a1, fun b cs ty h1 h2 h3 h4 hb => (b2 b _ (hb.ne hp.a.hq h1) hb).1, b3.size, (rsave5_any w' u s pm om P D v b hr b1.m hu1.2.2 hs1.2.2 (hvw.below (h.both.below.trans b3)) hb (by omega)).mono fun e w'' hy => ?_⟩
  obtain ⟨s', c1, c2, cs', om', c3, c4, c6, c5⟩ := hy
  obtain ⟨f1, f2, f3⟩ := b1.mstep1 hu1.2.1 hp.zu c3 c4 c5
  have hq2 := f2 q _ hp.d1 ⟨a2.hq, hqf⟩
  have ht2 := f2 t' _ e3 ⟨a2.tape.ht, htf⟩
  have htl := a2.tape.lt
  have hql' : q < w'.heap.size := (Array.getElem?_eq_some_iff.1 a2.hq).1
  have huf : Free od' om' u := ⟨hu1.2.1, fun e => (c4 u e).elim hu1.2.2 (fun h' => by have := hu1.lt; omega)⟩
  have hsf : Free od' om' s' := ⟨fun e => by
    rcases cs' with e2 | e2
    · rw [e2] at e; exact hs1.2.1 e
    · have := b1.d.lt s' e; omega, c6⟩
  have d2 : q ≠ s' := by rcases cs' with e | e; exact e ▸ hp.d2; omega
  have d4 : t' ≠ s' := by rcases cs' with e | e; exact e ▸ e4; omega
  have hlen := PS.save_len D P b
  have hw2 := PS.save_wt D P b hn
  have hbz := h.both.below.size
  have hb3 := b3.size
  have zs' : w.heap.size ≤ s' := by rcases cs' with e | e; exact e ▸ hp.zs; omega
  refine ⟨c1, fun b cs ty h1 h2 h3 h4 hb => (f2 b _ (hb.ne hp.b.hq h3) (b2 b _ (hb.ne hp.a.hq h1) hb)).1, f3.size, od', om', _, (PS.save D P b).2.2, f1, .inr ⟨q, t', u, s', rfl, rfl, ?_, ?_, hq2.2, ht2.2, huf, hsf, hp.d1, d2, e3, d4, hp.zq, hp.zu, zs'⟩, hlen.trans h.len, by omega⟩
  · rw [← h.len]; exact a2.keep (hq2.1.trans a2.hq.symm) (ht2.1.trans a2.tape.ht.symm)
  · rw [← h.len]; exact c2
end
end Go.Proofs.Ytoaeapnkefjpaaa

namespace Go.Proofs.Ytoaeapnkefjpaaa
open Go.RowKit
set_option linter.unusedVariables false
set_option linter.unusedSimpArgs false
def zeros757 : List UInt8 := List.replicate 757 0
theorem zeros757_len : zeros757.length = 757 := List.length_replicate
set_option maxRecDepth 100000 in
theorem run_zeros757 (w : World) : ∀ ty : TypeId, ty = 23 → (Instr.makeSlice 23 (.int .i64 757) (.int .i64 757)).run Try.prog w = .ok (.slice (some ⟨w.heap.size, 0, none⟩) 757 757) (w.alloc (.cells (zeros757.map B).toArray 5)) := by
  intro ty hty
  obtain ⟨i5, hi, hz, hs, hb⟩ := info_parts info5'
  have hmk := run_makeSlice (P := Try.prog) w 23 5 i5 _ Try.underlying23 hi hz .i64 .i64 757 757 (by omega) (by omega) (by rw [hs]; decide) (by rw [hb]; decide) (by omega)
  rw [hs] at hmk
  have hcells : madeCells (Value.int .u8 0).cells ((757 : Int).toNat * 1) = (zeros757.map B).toArray := by
    unfold zeros757
    rw [List.map_replicate]
    have h := toList_madeCells_one (Value.int .u8 0) 757
    exact Array.toList_inj.1 h
  rw [hcells] at hmk
  exact hmk
theorem sees_zeros757 (w : World) : Sees (w.alloc (.cells (zeros757.map B).toArray 5)) (.slice (some ⟨w.heap.size, 0, none⟩) 757 757) zeros757 := by
  have := Sees.lit w zeros757 (0, 0) (by rw [zeros757_len]; unfold maxLen; omega)
  rw [zeros757_len] at this
  exact this
theorem Ext.alloc (w : World) (o : Obj) : Below w.heap.size w (w.alloc o) := (Below.refl _ _).alloc (Nat.le_refl _) _
theorem Wk5.save2 : PS.save Wk5.D1 Wk5.P1 zeros757 = (3, Wk5.D1, Wk5.P1) := Wk5.has1.long (by rw [Wk5.len1', zeros757_len]; decide)
set_option maxRecDepth 100000 in
set_option maxHeartbeats 1600000 in
theorem wakes5_any (w : World) : Calls Try.prog 34 #[] w fun e w' => e = .returned (.bool true) ∧ Below w.heap.size w w' := by
  have k23 := fun (w : World) (C : Array Value) (n c : Nat) => Lib.run_convert_bytes_const (P := Try.prog) w 23 5 C n c Try.underlying23 Try.underlying5
  have hmk := fun w => run_zeros757 w 23 rfl
  go_enter Try.func34, Try.ntmps34
  go_wp2_with (go_at_call 36; refine (st_new _ 9 (by omega)).mono ?_; rintro e w1 ⟨p, own, rfl, h⟩; have H := hid (show St w own p Wk5.D0 w1 from h); clear h)
  refine (pst_open_has H.out Wk5.has0).mono ?_
  rintro e w2 ⟨q, t, vb, vl, rfl, hp, hqf, hvb, hvl, hb⟩
  obtain ⟨ab, cb, rfl, -⟩ := hvb.sees.form0
  obtain ⟨al, cl, rfl⟩ := hvl.form
  have HP := hid hp
  clear hp hqf hvb hvl hb H
  rw [show ([] : List UInt8).length = 0 from rfl, show ([] : List (List UInt8)).length = 0 from rfl]
  have hS := Sees.lit w2 Wk5.hi2 (2, 3) (by decide)
  have hcells : (Wk5.hi2.map B).toArray = #[Value.int .u8 104, Value.int .u8 105] := rfl
  rw [hcells] at hS
  have hb : Below w2.heap.size w2 (w2.alloc (.cells #[.int .u8 104, .int .u8 105] 5 (2, 3))) := (Below.refl _ _).alloc (Nat.le_refl _) _
  have hap := pst_save (HP.out.on hb) (v := .slice (some ⟨w2.heap.size, 0, none⟩) 2 2) (b := Wk5.hi2) hS (by decide) (by decide)
  have hap2 : Calls Try.prog 42 #[.pointer (some ⟨q, 0, none⟩), .slice (some ⟨w2.heap.size, 0, none⟩) 2 2] (w2.alloc (.cells #[.int .u8 104, .int .u8 105] 5 (2, 3))) fun e w' => e = .returned (I 0) ∧ ∃ t' own', PSt w own' p q t' Wk5.P1 Wk5.D1 w' := hap.mono fun e w' hx => by
    obtain ⟨h1, t', own', h2, -⟩ := hx
    exact ⟨by rw [h1]; show Ending.returned (I Wk5.X1.1) = _; rw [Wk5.x1], t', own', h2⟩
  have HAP := hid hap2
  clear hS hcells hb hap hap2
  go_wp2_with (first | (go_at_call_of 42 (Value.int .i64 0); fail) | (go_at_call 42; refine HAP.out.mono ?_; rintro e w4 ⟨rfl, t', own', hp⟩; have HP2 := hid hp; clear hp; have HOP := hid (ops_any w4 p own' Wk5.D1 HP2.out.drum.at'); rw [Wk5.ops1] at HOP; clear HAP) | (go_at_call 59; refine HOP.out.mono ?_; rintro e w5 ⟨rfl, rfl⟩; clear HOP))
  have hs2 := pst_save (HP2.out.on (Ext.alloc w4 (.cells (zeros757.map B).toArray 5))) (sees_zeros757 w4) (by rw [zeros757_len]; decide) (by rw [Wk5.waits1]; decide)
  rw [Wk5.save2] at hs2
  have HS2 := hid hs2
  clear hs2
  refine HS2.out.mono ?_
  rintro e w5 ⟨rfl, t2, own2, hp, -⟩
  have HP3 := hid hp
  clear hp HS2 HP2
  go_wp2_with fail
  refine (pst_open_has HP3.out.drum Wk5.has1).mono ?_
  rintro e w6 ⟨q6, t6, vb6, vl6, rfl, hp, hqf, hvb, hvl, hb⟩
  obtain ⟨ab6, cb6, rfl, -⟩ := hvb.sees.form0
  obtain ⟨al6, cl6, rfl⟩ := hvl.form
  have HP6 := hid hp
  have HVB := hid hvb.sees
  clear hp hqf hvb hvl hb HP3
  rw [show (Wk5.hi2).length = 2 from rfl, show ([] : List (List UInt8)).length = 0 from rfl] at *
  go_wp2_with fail
  have hrd := st_read HP6.out.drum 5 (by omega)
  rw [Wk5.rd1] at hrd
  refine hrd.mono ?_
  rintro e w7 ⟨v7, rfl, hst, ho, hb⟩
  have ho' : w7.ownsRow w6.heap.size 5 1 v7 256 (Wk5.G1.map B) := own_len ho Wk5.len1 rfl
  obtain ⟨g6, cap6, rfl, g1, g2, g3, g4⟩ := own_slice ho' (by decide)
  have HS6 := hid (own_sees' ho' Wk5.len1)
  have HB6 := hid (hst.below)
  have HVB7 := hid (HVB.out.below hb)
  clear hrd hst ho hb ho' HP6
  rcases HVB7.out.open with ⟨h0, -⟩ | ⟨gb, ob, cb7, -, hvb7, -, -, hcb⟩
  · cases h0
  have hgb : gb < w7.heap.size := block_lt_of_cell (hcb 0 104 rfl)
  simp only [Value.slice.injEq] at hvb7
  obtain ⟨rfl, -, rfl⟩ := hvb7
  clear hcb
  go_wp2_with fail
  obtain ⟨n0, hn0⟩ : ∃ n, n = w7.heap.size := ⟨_, rfl⟩
  have hgn : g6 < n0 := by omega
  have k1 : ∀ w', AllBut n0 w7.drew w' → (convert 23 9 (.slice (some ⟨g6, 0, none⟩) 14 cap6)).run Try.prog w' = .ok (.string (str (Wk5.G1.take 14))) w' := fun w' hh => run_str Try.underlying23 Try.underlying5 Try.underlying9 (hh.sees (by
    have h0 := HS6.out
    have := Sees.take (g := g6) (off := 0) (n := 256) (cap := cap6) (L := Wk5.G1) h0 14 (by rw [Wk5.len1]; omega)
    exact this.drew) (fun k hk => by have h2 : g6 = k := Option.some.inj hk; have h3 : w7.drew.heap.size = w7.heap.size := rfl; exact ⟨by omega, by omega⟩))
  have k3 : ∀ w', AllBut n0 w7.drew w' → (convert 23 9 (.slice (some ⟨gb, ob, none⟩) 2 cb6)).run Try.prog w' = .ok (.string ⟨#[104, 105]⟩) w' := fun w' hh => run_str (l := Wk5.hi2) Try.underlying23 Try.underlying5 Try.underlying9 (hh.sees HVB7.out.drew (fun k hk => by have h2 : gb = k := Option.some.inj hk; have h3 : w7.drew.heap.size = w7.heap.size := rfl; exact ⟨by omega, by omega⟩))
  have HN0 := hid hn0
  have hcap : (14 : Int) ≤ (cap6 : Int) := by omega
  clear hn0 g1 g2 g3 g4 HVB7 HVB
  refine wp_region_order (AllBut n0) [] [(0,0),(1,0),(2,0),(3,0),(4,0),(5,0),(6,0),(7,0),(8,0),(9,0),(10,0),(11,0),(12,0),(13,0),(14,0),(15,0),(16,0),(17,0),(18,0),(19,0),(20,1),(21,1),(22,1),(23,0),(24,0),(25,0),(26,0)] _ (by kernel_rfl) rfl AllBut.refl AllBut.trans (by kernel_rfl) (by simp only [pick, List.getElem?_toArray, List.getElem?_cons_zero, List.getElem?_cons_succ]; rfl) (fun c a d v w h => by cases d <;> exact h) ?_
  refine wpK_q (v := ?_) (a' := ?_) (by rfl) (fun w' hR => ?_) ?_ ?_
  rotate_left 2
  · go_simp; with_reducible rfl
  · simp only [Act.put, List.setIfInBounds_toArray, List.set_cons_zero, List.set_cons_succ]; rfl
  refine wpK_q (v := ?_) (a' := ?_) (by rfl) (fun w' hR => ?_) ?_ ?_
  rotate_left 2
  · go_simp; with_reducible rfl
  · simp only [Act.put, List.setIfInBounds_toArray, List.set_cons_zero, List.set_cons_succ]; rfl
  refine wpK_q (v := ?_) (a' := ?_) (by rfl) (fun w' hR => ?_) ?_ ?_
  rotate_left 2
  · go_simp; with_reducible rfl
  · simp only [Act.put, List.setIfInBounds_toArray, List.set_cons_zero, List.set_cons_succ]; rfl
  refine wpK_q (v := ?_) (a' := ?_) (by rfl) (fun w' hR => ?_) ?_ ?_
  rotate_left 2
  · go_simp; with_reducible rfl
  · simp only [Act.put, List.setIfInBounds_toArray, List.set_cons_zero, List.set_cons_succ]; rfl
  refine wpK_q (v := ?_) (a' := ?_) (by rfl) (fun w' hR => ?_) ?_ ?_
  rotate_left 2
  · go_simp; with_reducible rfl
  · simp only [Act.put, List.setIfInBounds_toArray, List.set_cons_zero, List.set_cons_succ]; rfl
  refine wpK_q (v := ?_) (a' := ?_) (by rfl) (fun w' hR => ?_) ?_ ?_
  rotate_left 2
  · go_simp; with_reducible rfl
  · simp only [Act.put, List.setIfInBounds_toArray, List.set_cons_zero, List.set_cons_succ]; rfl
  refine wpK_q (v := ?_) (a' := ?_) (by rfl) (fun w' hR => ?_) ?_ ?_
  rotate_left 2
  · go_simp; with_reducible rfl
  · simp only [Act.put, List.setIfInBounds_toArray, List.set_cons_zero, List.set_cons_succ]; rfl
  refine wpK_q (v := ?_) (a' := ?_) (by rfl) (fun w' hR => ?_) ?_ ?_
  rotate_left 2
  · go_simp; with_reducible rfl
  · simp only [Act.put, List.setIfInBounds_toArray, List.set_cons_zero, List.set_cons_succ]; rfl
  refine wpK_q (v := ?_) (a' := ?_) (by rfl) (fun w' hR => ?_) ?_ ?_
  rotate_left 2
  · go_simp; with_reducible rfl
  · simp only [Act.put, List.setIfInBounds_toArray, List.set_cons_zero, List.set_cons_succ]; rfl
  refine wpK_q (v := ?_) (a' := ?_) (by rfl) (fun w' hR => ?_) ?_ ?_
  rotate_left 2
  · go_simp; with_reducible rfl
  · simp only [Act.put, List.setIfInBounds_toArray, List.set_cons_zero, List.set_cons_succ]; rfl
  refine wpK_q (v := ?_) (a' := ?_) (by rfl) (fun w' hR => ?_) ?_ ?_
  rotate_left 2
  · go_simp; with_reducible rfl
  · simp only [Act.put, List.setIfInBounds_toArray, List.set_cons_zero, List.set_cons_succ]; rfl
  refine wpK_q (v := ?_) (a' := ?_) (by rfl) (fun w' hR => ?_) ?_ ?_
  rotate_left 2
  · go_simp; with_reducible rfl
  · simp only [Act.put, List.setIfInBounds_toArray, List.set_cons_zero, List.set_cons_succ]; rfl
  refine wpK_q (v := ?_) (a' := ?_) (by rfl) (fun w' hR => ?_) ?_ ?_
  rotate_left 2
  · go_simp; with_reducible rfl
  · simp only [Act.put, List.setIfInBounds_toArray, List.set_cons_zero, List.set_cons_succ]; rfl
  refine wpK_q (v := ?_) (a' := ?_) (by rfl) (fun w' hR => ?_) ?_ ?_
  rotate_left 2
  · go_simp; with_reducible rfl
  · simp only [Act.put, List.setIfInBounds_toArray, List.set_cons_zero, List.set_cons_succ]; rfl
  refine wpK_q (v := ?_) (a' := ?_) (by rfl) (fun w' hR => ?_) ?_ ?_
  rotate_left 2
  · go_simp; with_reducible rfl
  · simp only [Act.put, List.setIfInBounds_toArray, List.set_cons_zero, List.set_cons_succ]; rfl
  refine wpK_q (v := ?_) (a' := ?_) (by rfl) (fun w' hR => ?_) ?_ ?_
  rotate_left 2
  · go_simp; with_reducible rfl
  · simp only [Act.put, List.setIfInBounds_toArray, List.set_cons_zero, List.set_cons_succ]; rfl
  refine wpK_q (v := ?_) (a' := ?_) (by rfl) (fun w' hR => ?_) ?_ ?_
  rotate_left 2
  · go_simp; with_reducible rfl
  · simp only [Act.put, List.setIfInBounds_toArray, List.set_cons_zero, List.set_cons_succ]; rfl
  refine wpK_q (v := ?_) (a' := ?_) (by rfl) (fun w' hR => ?_) ?_ ?_
  rotate_left 2
  · go_simp; with_reducible rfl
  · simp only [Act.put, List.setIfInBounds_toArray, List.set_cons_zero, List.set_cons_succ]; rfl
  refine wpK_q (v := ?_) (a' := ?_) (by rfl) (fun w' hR => ?_) ?_ ?_
  rotate_left 2
  · go_simp; with_reducible rfl
  · simp only [Act.put, List.setIfInBounds_toArray, List.set_cons_zero, List.set_cons_succ]; rfl
  refine wpK_q (v := ?_) (a' := ?_) (by rfl) (fun w' hR => ?_) ?_ ?_
  rotate_left 2
  · go_simp; with_reducible rfl
  · simp only [Act.put, List.setIfInBounds_toArray, List.set_cons_zero, List.set_cons_succ]; rfl
  refine wpK_v (v := .slice (some ⟨w7.heap.size, 0, none⟩) 2 2) (w' := w7.drew.alloc (.cells #[.int .u8 104, .int .u8 105] 5)) (by rfl) (by go_simp) (fun _ => ⟨Mod.alloc _⟩) (by simp only [Act.put, List.setIfInBounds_toArray, List.set_cons_zero, List.set_cons_succ]; rfl) ?_
  refine wpK_v (v := .slice (some ⟨w7.heap.size, 0, none⟩) 2 2) (w' := w7.drew.alloc (.cells #[.int .u8 104, .int .u8 105] 5 (2, 3))) (by rfl) (by have hh := val_of (k23 w7.drew #[.int .u8 104, .int .u8 105] 2 2); exact hh) (fun _ => ⟨?_⟩) (by simp only [Act.put, List.setIfInBounds_toArray, List.set_cons_zero, List.set_cons_succ]; rfl) ?_
  · refine ⟨rfl, rfl, rfl, by simp, fun k hk ho => ?_⟩
    have h1 : w7.drew.heap.size = n0 := HN0.out.symm
    have h2 : (w7.drew.alloc (.cells #[.int .u8 104, .int .u8 105] 5)).heap.size = n0 + 1 := by simp [HN0.out]
    rw [Below.heap_alloc _ _ _ (by omega), Below.heap_alloc _ _ _ (by omega)]
  have hS := Sees.lit w7.drew Wk5.hi2 (2, 3) (by decide)
  have hb7 : Below w7.heap.size w7 (w7.drew.alloc (.cells #[.int .u8 104, .int .u8 105] 5 (2, 3))) := Ext.trans _ _ _ (Ext.drew w7) ((Below.refl _ _).alloc (Nat.le_refl _) _)
  have HS7 : Hid (Sees (w7.drew.alloc (.cells #[.int .u8 104, .int .u8 105] 5 (2, 3))) (.slice (some ⟨w7.heap.size, 0, none⟩) 2 2) Wk5.hi2) := hid hS
  have HB7 := hid hb7
  have hz7 : (w7.drew.alloc (.cells #[.int .u8 104, .int .u8 105] 5 (2, 3))).heap.size = n0 + 1 := by simp [HN0.out]
  generalize w7.drew.alloc (.cells #[.int .u8 104, .int .u8 105] 5 (2, 3)) = w8 at *
  clear hS hb7
  refine wpK_call Try.func76 (by kernel_rfl) rfl rfl (by rfl) #[.slice (some ⟨w7.heap.size, 0, none⟩) 2 2] (by simp only [List.map_toArray, List.map_cons, List.map_nil]; rfl) ?_
  refine (rframe5_any w8 _ Wk5.hi2 HS7.out (by decide)).mono ?_
  rintro e w9 ⟨v8, rfl, ho8, hb8⟩
  refine ⟨_, rfl, fun _ => ⟨Mod.of_below _ hb8⟩, ?_⟩
  have hs8 := own_sees ho8
  have hl8 := fun k hk => own_lt ho8 k hk
  rw [← Wk5.frame1] at hs8
  have k2 : ∀ w', AllBut n0 w9 w' → (convert 23 9 v8).run Try.prog w' = .ok (.string (str (Wk5.G1.take 14))) w' := fun w' hh => run_str Try.underlying23 Try.underlying5 Try.underlying9 (hh.sees hs8 (fun k hk => by have := hl8 k hk; exact ⟨this.2, by omega⟩))
  have HB8 := hid hb8
  clear ho8 hb8 hs8 hl8 k1 k3 hz7
  refine wpK_q (v := ?_) (a' := ?_) (by rfl) (fun w' hR => ?_) ?_ ?_
  rotate_left 2
  · go_simp; with_reducible rfl
  · simp only [Act.put, List.setIfInBounds_toArray, List.set_cons_zero, List.set_cons_succ]; rfl
  refine wpK_q (v := ?_) (a' := ?_) (by rfl) (fun w' hR => ?_) ?_ ?_
  rotate_left 2
  · go_simp; with_reducible rfl
  · simp only [Act.put, List.setIfInBounds_toArray, List.set_cons_zero, List.set_cons_succ]; rfl
  refine wpK_q (v := ?_) (a' := ?_) (by rfl) (fun w' hR => ?_) ?_ ?_
  rotate_left 2
  · go_simp; with_reducible rfl
  · simp only [Act.put, List.setIfInBounds_toArray, List.set_cons_zero, List.set_cons_succ]; rfl
  refine wpK_q (v := ?_) (a' := ?_) (by rfl) (fun w' hR => ?_) ?_ ?_
  rotate_left 2
  · go_simp; with_reducible rfl
  · simp only [Act.put, List.setIfInBounds_toArray, List.set_cons_zero, List.set_cons_succ]; rfl
  refine wpK_done ?_
  clear k2
  go_wp2
  go_ret
  exact ⟨rfl, HB6.out.trans ((Ext.trans _ _ _ HB7.out HB8.out).mono HB6.out.size)⟩
end Go.Proofs.Ytoaeapnkefjpaaa
