/-
  THE TAPE'S LAWS: what they all use: lists of records shown, Open in one, alike. Conditions: those that each contract names.
-/
import Derived.Test.YtoaeapnkefjpaaaTapeP15
namespace Go.Proofs.Ytoaeapnkefjpaaa
open Go.RowKit
set_option linter.unusedVariables false
set_option linter.unusedSimpArgs false

/-- A list of records, as it is seen. -/
def Shows (w : World) (v : Value) (L : List (List UInt8)) : Prop :=
  ∃ ao cap, v = .slice ao L.length cap ∧ L.length ≤ cap ∧ cap ≤ maxLen ∧ (0 < L.length → ∃ g off, ao = some ⟨g, off, none⟩ ∧ ∀ i r, L[i]? = some r → ∃ u, w.cell? ⟨g, off + i, none⟩ = some u ∧ Sees w u r)
theorem cell_lt {w : World} {a : Addr} {v : Value} (h : w.cell? a = some v) : a.block < w.heap.size := block_lt_of_cell h
theorem Shows.below {w w' : World} {v : Value} {L : List (List UInt8)} (h : Shows w v L) (hb : Below w.heap.size w w') : Shows w' v L := by
  obtain ⟨ao, cap, rfl, h1, h2, h3⟩ := h
  refine ⟨ao, cap, rfl, h1, h2, fun hp => ?_⟩
  obtain ⟨g, off, rfl, h4⟩ := h3 hp
  refine ⟨g, off, rfl, fun i r hr => ?_⟩
  obtain ⟨u, hu, hs⟩ := h4 i r hr
  exact ⟨u, (World.cell?_of_block (w := w) (a := ⟨g, off + i, none⟩) (hb.block g (cell_lt hu))).trans hu, hs.below hb⟩
theorem Shows.len {w : World} {v : Value} {L : List (List UInt8)} (h : Shows w v L) : ∃ ao cap, v = .slice ao L.length cap ∧ L.length ≤ maxLen := by
  obtain ⟨ao, cap, rfl, h1, h2, h3⟩ := h
  exact ⟨ao, cap, rfl, Nat.le_trans h1 h2⟩
theorem Shows.at {w : World} {ao : Option Addr} {n cap : Nat} {L : List (List UInt8)} (h : Shows w (.slice ao n cap) L) {i : Nat} {r : List UInt8} (hi : L[i]? = some r) : ∃ g off u, ao = some ⟨g, off, none⟩ ∧ w.cell? ⟨g, off + i, none⟩ = some u ∧ Sees w u r := by
  obtain ⟨ao', cap', hv, h1, h2, h3⟩ := h
  simp only [Value.slice.injEq] at hv
  obtain ⟨rfl, rfl, rfl⟩ := hv
  obtain ⟨g, off, rfl, h4⟩ := h3 (by have := (List.getElem?_eq_some_iff.1 hi).1; omega)
  obtain ⟨u, hu, hs⟩ := h4 i r hi
  exact ⟨g, off, u, rfl, hu, hs⟩
theorem Recs.shows {w : World} {base : Nat} {v : Value} {L : List (List UInt8)} (h : Recs w base v L) : Shows w v L := by
  obtain ⟨vs, pb, h⟩ := h
  by_cases h0 : 0 < L.length
  · obtain ⟨g, cap, rfl, h1, h2, h3, h4⟩ := own_slice h.row h0
    refine ⟨_, cap, rfl, h1, h2, fun _ => ⟨g, 0, rfl, fun i r hr => ?_⟩⟩
    have hi := (List.getElem?_eq_some_iff.1 hr).1
    obtain ⟨u, hu⟩ : ∃ u, vs[i]? = some u := ⟨_, List.getElem?_eq_getElem (by rw [h.len]; exact hi)⟩
    refine ⟨u, ?_, own_sees (h.each i _ r hu hr).1⟩
    rw [Nat.zero_add]
    exact own_cell h.row hu
  · have : L = [] := List.length_eq_zero_iff.1 (by omega)
    subst this
    rcases h.row.2 with ⟨rfl, -⟩ | ⟨g, cap, cur, rfl, hb, hg, hnc, hcm, r⟩
    · exact ⟨none, 0, rfl, Nat.le_refl _, by decide, fun h => by simp at h⟩
    · exact ⟨_, cap, rfl, hnc, hcm, fun h => by simp at h⟩
theorem str_eq (X Y : List UInt8) : ((str X).toList == (str Y).toList) = decide (X = Y) := by
  rw [str_toList, str_toList]
  by_cases h : X = Y
  · subst h; simp
  · rw [decide_eq_false h, beq_eq_false_iff_ne]; exact h
set_option maxRecDepth 100000 in
set_option maxHeartbeats 800000 in
theorem alike_any (w : World) (v1 v2 : Value) (L1 L2 : List (List UInt8)) (h1 : Shows w v1 L1) (h2 : Shows w v2 L2) : Calls Try.prog 67 #[v1, v2] w fun e w' => e = .returned (.bool (decide (L1 = L2))) ∧ ∃ m, w' = w.drewN m := by
  obtain ⟨a1, c1, rfl, l1⟩ := h1.len
  obtain ⟨a2, c2, rfl, l2⟩ := h2.len
  unfold maxLen at l1 l2
  have H1 := hid h1
  have H2 := hid h2
  obtain ⟨b, hb⟩ : ∃ b, b = decide (L1 = L2) := ⟨_, rfl⟩
  rw [← hb]
  have HB := hid hb
  clear h1 h2 hb
  by_cases hl : L1.length = L2.length
  rotate_left
  · have hl' : ((L1.length : Int) != (L2.length : Int)) = true := by simp; omega
    have hb : b = false := by rw [HB.out, decide_eq_false_iff_not]; intro e; exact hl (by rw [e])
    clear HB hl
    go_enter Try.func67, Try.ntmps67
    go_wp2
    go_ret
    exact ⟨by rw [hb]; rfl, 0, rfl⟩
  obtain ⟨n, hn⟩ : ∃ n, n = L1.length := ⟨_, rfl⟩
  have hn2 : n = L2.length := hn.trans hl
  rw [← hn, ← hn2]
  rw [← hn] at l1 H1
  rw [← hn2] at H2
  have HN := hid hn
  have HN2 := hid hn2
  clear hn hn2 hl l2
  go_enter Try.func67, Try.ntmps67
  go_wp2
  go_loopw [13] (fun i wr => ∃ (j m : Nat), j ≤ n ∧ i = I j ∧ Hid (L1.take j = L2.take j) ∧ Hid (wr = w.drewN m)) (fun i _ => n - (intOf i).toNat)
  case atStart => exact ⟨0, 0, by omega, rfl, hid rfl, hid rfl⟩
  case round =>
    obtain ⟨j, m, hj, rfl, HT, HW⟩ := hrel
    by_cases hlt : j < n
    · obtain ⟨r1, hr1⟩ : ∃ r1, L1[j]? = some r1 := ⟨_, List.getElem?_eq_getElem (by have := HN.out; omega)⟩
      obtain ⟨r2, hr2⟩ : ∃ r2, L2[j]? = some r2 := ⟨_, List.getElem?_eq_getElem (by have := HN2.out; omega)⟩
      obtain ⟨g1, o1, u1, rfl, hc1, hs1⟩ := H1.out.at hr1
      obtain ⟨g2, o2, u2, rfl, hc2, hs2⟩ := H2.out.at hr2
      have bw : Below w.heap.size w wr := by rw [HW.out]; exact below_drewN w m
      have k1 : ∀ w', Ext wr.drew w' → w'.cell? ⟨g1, o1 + j, none⟩ = some u1 := fun w' hh => (Ext.trans _ _ _ bw (Ext.trans _ _ _ (Ext.drew wr) hh)).cell hc1
      have k2 : ∀ w', Ext wr.drew w' → w'.cell? ⟨g2, o2 + j, none⟩ = some u2 := fun w' hh => (Ext.trans _ _ _ bw (Ext.trans _ _ _ (Ext.drew wr) hh)).cell hc2
      have k3 : ∀ w', Ext wr.drew w' → (convert 23 9 u1).run Try.prog w' = .ok (.string (str r1)) w' := fun w' hh => run_str Try.underlying23 Try.underlying5 Try.underlying9 (hs1.below (Ext.trans _ _ _ bw (Ext.trans _ _ _ (Ext.drew wr) hh)))
      have k4 : ∀ w', Ext wr.drew w' → (convert 23 9 u2).run Try.prog w' = .ok (.string (str r2)) w' := fun w' hh => run_str Try.underlying23 Try.underlying5 Try.underlying9 (hs2.below (Ext.trans _ _ _ bw (Ext.trans _ _ _ (Ext.drew wr) hh)))
      have HR1 := hid hr1
      have HR2 := hid hr2
      have hse := str_eq r1 r2
      clear hc1 hc2 hs1 hs2 bw hr1 hr2
      by_cases he : r1 = r2
      · have hb : decide (r1 = r2) = true := decide_eq_true he
        have HE := hid he
        clear he
        go_wp2
        refine wp_region_order Ext [] [(0,0),(1,0),(2,0),(3,0),(4,0),(5,0),(6,0),(7,0),(8,0),(9,0),(10,0)] _ (by kernel_rfl) rfl Ext.refl Ext.trans (by kernel_rfl) (by simp only [pick, List.getElem?_toArray, List.getElem?_cons_zero, List.getElem?_cons_succ]; rfl) (fun c a d v w h => by cases d <;> exact h) ?_
        refine wpK_q (v := ?_) (a' := ?_) (by rfl) (fun w' hR => ?_) ?_ ?_
        rotate_left 2
        · go_simp; with_reducible rfl
        · simp only [Act.put, List.setIfInBounds_toArray, List.set_cons_zero, List.set_cons_succ]; rfl
        refine wpK_q (v := ?_) (a' := ?_) (by rfl) (fun w' hR => ?_) ?_ ?_
        rotate_left 2
        · go_simp; with_reducible rfl
        · simp only [Act.put, List.setIfInBounds_toArray, List.set_cons_zero, List.set_cons_succ]; rfl
        refine wpK_q (v := ?_) (a' := ?_) (by rfl) (fun w' hR => ?_) ?_ ?_
        rotate_left 2
        · go_simp; with_reducible rfl
        · simp only [Act.put, List.setIfInBounds_toArray, List.set_cons_zero, List.set_cons_succ]; rfl
        refine wpK_q (v := ?_) (a' := ?_) (by rfl) (fun w' hR => ?_) ?_ ?_
        rotate_left 2
        · go_simp; with_reducible rfl
        · simp only [Act.put, List.setIfInBounds_toArray, List.set_cons_zero, List.set_cons_succ]; rfl
        refine wpK_q (v := ?_) (a' := ?_) (by rfl) (fun w' hR => ?_) ?_ ?_
        rotate_left 2
        · go_simp; with_reducible rfl
        · simp only [Act.put, List.setIfInBounds_toArray, List.set_cons_zero, List.set_cons_succ]; rfl
        refine wpK_q (v := ?_) (a' := ?_) (by rfl) (fun w' hR => ?_) ?_ ?_
        rotate_left 2
        · go_simp; with_reducible rfl
        · simp only [Act.put, List.setIfInBounds_toArray, List.set_cons_zero, List.set_cons_succ]; rfl
        refine wpK_q (v := ?_) (a' := ?_) (by rfl) (fun w' hR => ?_) ?_ ?_
        rotate_left 2
        · go_simp; with_reducible rfl
        · simp only [Act.put, List.setIfInBounds_toArray, List.set_cons_zero, List.set_cons_succ]; rfl
        refine wpK_q (v := ?_) (a' := ?_) (by rfl) (fun w' hR => ?_) ?_ ?_
        rotate_left 2
        · go_simp; with_reducible rfl
        · simp only [Act.put, List.setIfInBounds_toArray, List.set_cons_zero, List.set_cons_succ]; rfl
        refine wpK_q (v := ?_) (a' := ?_) (by rfl) (fun w' hR => ?_) ?_ ?_
        rotate_left 2
        · go_simp; with_reducible rfl
        · simp only [Act.put, List.setIfInBounds_toArray, List.set_cons_zero, List.set_cons_succ]; rfl
        refine wpK_q (v := ?_) (a' := ?_) (by rfl) (fun w' hR => ?_) ?_ ?_
        rotate_left 2
        · go_simp; with_reducible rfl
        · simp only [Act.put, List.setIfInBounds_toArray, List.set_cons_zero, List.set_cons_succ]; rfl
        refine wpK_q (v := ?_) (a' := ?_) (by rfl) (fun w' hR => ?_) ?_ ?_
        rotate_left 2
        · go_simp; with_reducible rfl
        · simp only [Act.put, List.setIfInBounds_toArray, List.set_cons_zero, List.set_cons_succ]; rfl
        refine wpK_done ?_
        clear k1 k2 k3 k4
        go_wp2
        go_roundw
        case rel =>
          refine ⟨j + 1, m + 1, by omega, by go_num, hid ?_, hid ?_⟩
          · rw [take_snoc HR1.out, take_snoc HR2.out, HT.out, HE.out]
          · rw [HW.out]; rfl
        case measure => simp [intOf]; omega
      · have hb : decide (r1 = r2) = false := decide_eq_false he
        have hbf : b = false := by
          rw [HB.out, decide_eq_false_iff_not]
          intro e
          have h1 := HR1.out
          rw [e, HR2.out] at h1
          exact he (Option.some.inj h1).symm
        have HBF := hid hbf
        clear he hbf HB
        go_wp2
        refine wp_region_order Ext [] [(0,0),(1,0),(2,0),(3,0),(4,0),(5,0),(6,0),(7,0),(8,0),(9,0),(10,0)] _ (by kernel_rfl) rfl Ext.refl Ext.trans (by kernel_rfl) (by simp only [pick, List.getElem?_toArray, List.getElem?_cons_zero, List.getElem?_cons_succ]; rfl) (fun c a d v w h => by cases d <;> exact h) ?_
        refine wpK_q (v := ?_) (a' := ?_) (by rfl) (fun w' hR => ?_) ?_ ?_
        rotate_left 2
        · go_simp; with_reducible rfl
        · simp only [Act.put, List.setIfInBounds_toArray, List.set_cons_zero, List.set_cons_succ]; rfl
        refine wpK_q (v := ?_) (a' := ?_) (by rfl) (fun w' hR => ?_) ?_ ?_
        rotate_left 2
        · go_simp; with_reducible rfl
        · simp only [Act.put, List.setIfInBounds_toArray, List.set_cons_zero, List.set_cons_succ]; rfl
        refine wpK_q (v := ?_) (a' := ?_) (by rfl) (fun w' hR => ?_) ?_ ?_
        rotate_left 2
        · go_simp; with_reducible rfl
        · simp only [Act.put, List.setIfInBounds_toArray, List.set_cons_zero, List.set_cons_succ]; rfl
        refine wpK_q (v := ?_) (a' := ?_) (by rfl) (fun w' hR => ?_) ?_ ?_
        rotate_left 2
        · go_simp; with_reducible rfl
        · simp only [Act.put, List.setIfInBounds_toArray, List.set_cons_zero, List.set_cons_succ]; rfl
        refine wpK_q (v := ?_) (a' := ?_) (by rfl) (fun w' hR => ?_) ?_ ?_
        rotate_left 2
        · go_simp; with_reducible rfl
        · simp only [Act.put, List.setIfInBounds_toArray, List.set_cons_zero, List.set_cons_succ]; rfl
        refine wpK_q (v := ?_) (a' := ?_) (by rfl) (fun w' hR => ?_) ?_ ?_
        rotate_left 2
        · go_simp; with_reducible rfl
        · simp only [Act.put, List.setIfInBounds_toArray, List.set_cons_zero, List.set_cons_succ]; rfl
        refine wpK_q (v := ?_) (a' := ?_) (by rfl) (fun w' hR => ?_) ?_ ?_
        rotate_left 2
        · go_simp; with_reducible rfl
        · simp only [Act.put, List.setIfInBounds_toArray, List.set_cons_zero, List.set_cons_succ]; rfl
        refine wpK_q (v := ?_) (a' := ?_) (by rfl) (fun w' hR => ?_) ?_ ?_
        rotate_left 2
        · go_simp; with_reducible rfl
        · simp only [Act.put, List.setIfInBounds_toArray, List.set_cons_zero, List.set_cons_succ]; rfl
        refine wpK_q (v := ?_) (a' := ?_) (by rfl) (fun w' hR => ?_) ?_ ?_
        rotate_left 2
        · go_simp; with_reducible rfl
        · simp only [Act.put, List.setIfInBounds_toArray, List.set_cons_zero, List.set_cons_succ]; rfl
        refine wpK_q (v := ?_) (a' := ?_) (by rfl) (fun w' hR => ?_) ?_ ?_
        rotate_left 2
        · go_simp; with_reducible rfl
        · simp only [Act.put, List.setIfInBounds_toArray, List.set_cons_zero, List.set_cons_succ]; rfl
        refine wpK_q (v := ?_) (a' := ?_) (by rfl) (fun w' hR => ?_) ?_ ?_
        rotate_left 2
        · go_simp; with_reducible rfl
        · simp only [Act.put, List.setIfInBounds_toArray, List.set_cons_zero, List.set_cons_succ]; rfl
        refine wpK_done ?_
        clear k1 k2 k3 k4
        go_wp2
        go_ret
        refine ⟨by rw [HBF.out]; rfl, m + 1, ?_⟩
        rw [HW.out]; rfl
    · obtain rfl : j = n := by omega
      have hbt : b = true := by
        rw [HB.out, decide_eq_true_eq]
        have := HT.out
        rwa [List.take_of_length_le (by have := HN.out; omega), List.take_of_length_le (by have := HN2.out; omega)] at this
      have HBT := hid hbt
      clear hbt HB
      go_wp2
      go_ret
      exact ⟨by rw [HBT.out]; rfl, m, HW.out⟩
/-- Open, with whatever bounds. -/
theorem open_any (w : World) (p : Nat) (own : Nat → Prop) (D : DS) (lo hi : Int) (hd : DrumAt w p own D) (hl : -9223372036854775808 ≤ lo ∧ lo ≤ 9223372036854775807) (hh : -9223372036854775808 ≤ hi ∧ hi ≤ 9223372036854775807) :
    Calls Try.prog 65 #[.pointer (some ⟨p, 0, none⟩), I lo, I hi] w (Opened w p D.safe.length lo.toNat hi.toNat (TS.opn D lo hi)) := by
  unfold TS.opn
  by_cases hb : lo < 0 ∨ (D.safe.length : Int) < hi ∨ hi ≤ lo
  · rw [if_pos hb]
    exact (open_bad w p own D lo hi hd hl hh hb).mono fun e w' h => .inl ⟨by simp, h.1, h.2⟩
  · rw [if_neg hb]
    have e1 : ((lo.toNat : Nat) : Int) = lo := by omega
    have e2 : ((hi.toNat : Nat) : Int) = hi := by omega
    cases ho : D.off with
    | true =>
      rw [if_pos rfl]
      have := open_down w p own D lo.toNat hi.toNat hd (by omega) (by omega) ho
      rw [e1, e2] at this
      exact this.mono fun e w' h => .inl ⟨by simp, h.1, h.2⟩
    | false =>
      rw [if_neg (by simp)]
      have := open_on w p own D lo.toNat hi.toNat hd (by omega) (by omega) ho
      rw [e1, e2] at this
      exact this
end Go.Proofs.Ytoaeapnkefjpaaa
