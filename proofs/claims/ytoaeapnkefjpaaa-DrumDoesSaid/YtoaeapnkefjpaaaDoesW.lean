/-
  DrumDoes of layer 3: the walk.
-/
import Derived.Test.YtoaeapnkefjpaaaDoesM
namespace Go.Proofs.Ytoaeapnkefjpaaa.drumDoes
open Go.RowKit
set_option linter.unusedVariables false
set_option linter.unusedSimpArgs false

/-- What the walk is told of the script. -/
def IsScript (w : World) (a1 : Option Addr) (len : Nat) : Prop :=
  0 < len → ∃ g off, a1 = some ⟨g, off, none⟩ ∧ ∀ i, i < len → ∃ (k a n : Int) (c : UInt8) (s : Bool), w.cell? ⟨g, off + i * 5, none⟩ = some (I k) ∧ w.cell? ⟨g, off + i * 5 + 1, none⟩ = some (I a) ∧ w.cell? ⟨g, off + i * 5 + 2, none⟩ = some (I n) ∧ w.cell? ⟨g, off + i * 5 + 3, none⟩ = some (B c) ∧ w.cell? ⟨g, off + i * 5 + 4, none⟩ = some (.bool s) ∧
    (-9223372036854775808 ≤ a ∧ a ≤ 9223372036854775807) ∧ (-9223372036854775808 ≤ n ∧ n ≤ 9223372036854775807)
set_option maxRecDepth 100000 in
set_option maxHeartbeats 3200000 in
theorem walk (n : Int) (a1 : Option Addr) (len cap : Nat) (w : World) (hn : -9223372036854775808 ≤ n ∧ n ≤ 9223372036854775807) (hl : len ≤ 9223372036854775807) (hb : IsScript w a1 len) :
    Calls Try.prog 14 #[I n, .slice a1 len cap] w fun e w' => e = .returned (.bool true) ∧ Below w.heap.size w w' := by
  have HS := hid hb
  clear hb
  by_cases h200 : 200 < len
  · go_enter Try.func14, Try.ntmps14
    go_wp2_with (go_at_call 56; refine (wakes3_any _).mono ?_; rintro e w1 ⟨rfl, hb⟩; have HB := hid hb; clear hb)
    go_ret
    exact ⟨rfl, HB.out⟩
  go_enter Try.func14, Try.ntmps14
  obtain ⟨D0, hD0⟩ : ∃ D0, D0 = DS.new (DS.clamp n) := ⟨_, rfl⟩
  have HD0 := hid hD0
  go_wp2_with (first | (go_at_call 56; refine (wakes3_any _).mono ?_; rintro e w1 ⟨rfl, hb⟩; have HB := hid hb; clear hb) | (go_at_call 36; refine (st_new _ n hn).mono ?_; rw [← HD0.out]; rintro e w2 ⟨p, own, rfl, h⟩; have H := hid (h.back HB.out); clear h) | (go_at_call 37; refine (rnew_any _ n hn).mono ?_; rw [← HD0.out]; rintro e w3 ⟨pm, om, rfl, h1, h2, h3⟩; have HH := hid (both_new H.out h1 h2 h3); clear h1 h2 h3))
  clear HB H hD0
  obtain ⟨as0, cs, cc0, cc3, cc4, cfr⟩ := HH.out.m.cells
  go_quiet ((go_at_call 60; exact quiet_mine (pages_any _ _ _ _ (HH.out.drewN _).d)))
  have hw0 : D0.waits.length ≤ 0 := by rw [HD0.out]; exact Nat.le_refl _
  have H := hid (HH.out.drewN nq)
  generalize w3.drewN nq = w4 at *
  have HW0 := hid hw0
  clear cc0 cc3 cc4 cfr HH HD0 hw0
  go_wp2
  go_loopw [40] (fun i wr => ∃ (j : Nat) (od om : Nat → Prop) (D : DS), j ≤ len ∧ i = I j ∧ Hid (Both w od p om pm D D wr) ∧ Hid (D.waits.length ≤ j)) (fun i _ => len - (intOf i).toNat)
  case atStart => exact ⟨0, _, _, D0, Nat.zero_le _, rfl, H, HW0⟩
  case round =>
    clear H HW0
    obtain ⟨j, od, om, D, hj, rfl, H, HW⟩ := hrel
    by_cases hlt : j < len
    · obtain ⟨g, off, rfl, hcells⟩ := HS.out (by omega)
      obtain ⟨k, a, m, c, s, h0, h1, h2, h3, h4, ha, hm⟩ := hcells j hlt
      have e0 := (H.out.below.cell (block_lt_of_cell h0)).trans h0
      have e1 := (H.out.below.cell (block_lt_of_cell h1)).trans h1
      have e2 := (H.out.below.cell (block_lt_of_cell h2)).trans h2
      have e3 := (H.out.below.cell (block_lt_of_cell h3)).trans h3
      have e4 := (H.out.below.cell (block_lt_of_cell h4)).trans h4
      clear hcells h0 h1 h2 h3 h4
      have hba : Below wr.heap.size wr (wr.alloc (.cells #[I k, I a, I m, B c, .bool s] 83)) := (Below.refl _ _).alloc (Nat.le_refl _) _
      have HA := hid (H.out.on hba)
      have hnew := HA.out.new
      have HC : Hid (Held od om (wr.alloc (.cells #[I k, I a, I m, B c, .bool s] 83)) wr.heap.size (.cells #[I k, I a, I m, B c, .bool s] 83 (0, 0))) := hid ⟨heap_alloc_new _ _, fun hk => by have := H.out.d.lt _ hk; omega, fun hk => by have := H.out.m.lt _ hk; omega⟩
      clear hba hnew
      have hkk : k = 0 ∨ k = 1 ∨ k = 2 ∨ k = 3 ∨ k = 4 ∨ k = 5 ∨ ((k == 0) = false ∧ (k == 1) = false ∧ (k == 2) = false ∧ (k == 3) = false ∧ (k == 4) = false ∧ (k == 5) = false) := by
        simp only [beq_eq_false_iff_ne]; omega
      rcases hkk with rfl | rfl | rfl | rfl | rfl | rfl | ⟨q0, q1, q2, q3, q4, q5⟩
      focus
        obtain ⟨wa, hwa⟩ : ∃ wa, wa = wr.alloc (.cells #[I 0, I a, I m, B c, .bool s] 83) := ⟨_, rfl⟩
        obtain ⟨bc, hbc⟩ : ∃ bc, bc = wr.heap.size := ⟨_, rfl⟩
        go_wp2
        rw [← hwa, ← hbc] at HC
        rw [← hwa] at HA
        rw [← hwa, ← hbc]
        clear hwa hbc
        have kb : ∀ w', KeepAt bc wa.drew w' → w'.heap[bc]? = some (.cells #[I 0, I a, I m, B c, .bool s] 83 (0, 0)) := fun w' hh => hh.1.trans HC.out.1
        have kc1 : ∀ w', KeepAt bc wa.drew w' → w'.cell? ⟨bc, 1, none⟩ = some (I a) := fun w' hh => by rw [cell_of_row _ _ _ _ _ _ (kb w' hh)]; rfl
        have kc0 : ∀ w', KeepAt bc wa.drew w' → w'.cell? ⟨bc, 0, none⟩ = some (I 0) := fun w' hh => by rw [cell_of_row _ _ _ _ _ _ (kb w' hh)]; rfl
        have kc2 : ∀ w', KeepAt bc wa.drew w' → w'.cell? ⟨bc, 2, none⟩ = some (I m) := fun w' hh => by rw [cell_of_row _ _ _ _ _ _ (kb w' hh)]; rfl
        have kc3 : ∀ w', KeepAt bc wa.drew w' → w'.cell? ⟨bc, 3, none⟩ = some (B c) := fun w' hh => by rw [cell_of_row _ _ _ _ _ _ (kb w' hh)]; rfl
        have kc4 : ∀ w', KeepAt bc wa.drew w' → w'.cell? ⟨bc, 4, none⟩ = some (.bool s) := fun w' hh => by rw [cell_of_row _ _ _ _ _ _ (kb w' hh)]; rfl
        clear kb e0 e1 e2 e3 e4
        refine wp_region_order (KeepAt bc) [] [(0,0),(1,0),(2,0),(3,0),(6,0),(7,0),(8,0),(9,0),(4,1),(5,1),(10,1),(11,1),(12,0)] _ (by kernel_rfl) rfl KeepAt.refl KeepAt.trans (by kernel_rfl) (by simp only [pick, List.getElem?_toArray, List.getElem?_cons_zero, List.getElem?_cons_succ]; rfl) (fun c a d v w h => by cases d <;> exact h) ?_
        refine wpK_q (v := ?_) (a' := ?_) (by rfl) (fun w' hR => ?_) ?_ ?_
        rotate_left 2
        · go_simp; with_reducible rfl
        · simp only [Act.put, List.setIfInBounds_toArray, List.set_cons_zero, List.set_cons_succ]; rfl
        refine wpK_q (v := ?_) (a' := ?_) (by rfl) (fun w' hR => ?_) ?_ ?_
        rotate_left 2
        · go_simp; with_reducible rfl
        · simp only [Act.put, List.setIfInBounds_toArray, List.set_cons_zero, List.set_cons_succ]; rfl
        refine wpK_q (v := ?_) (a' := ?_) (by rfl) (fun w' hR => ?_) ?_ ?_
        rotate_left 2
        · go_simp; with_reducible rfl
        · simp only [Act.put, List.setIfInBounds_toArray, List.set_cons_zero, List.set_cons_succ]; rfl
        refine wpK_q (v := ?_) (a' := ?_) (by rfl) (fun w' hR => ?_) ?_ ?_
        rotate_left 2
        · go_simp; with_reducible rfl
        · simp only [Act.put, List.setIfInBounds_toArray, List.set_cons_zero, List.set_cons_succ]; rfl
        refine wpK_q (v := ?_) (a' := ?_) (by rfl) (fun w' hR => ?_) ?_ ?_
        rotate_left 2
        · go_simp; with_reducible rfl
        · simp only [Act.put, List.setIfInBounds_toArray, List.set_cons_zero, List.set_cons_succ]; rfl
        refine wpK_q (v := ?_) (a' := ?_) (by rfl) (fun w' hR => ?_) ?_ ?_
        rotate_left 2
        · go_simp; with_reducible rfl
        · simp only [Act.put, List.setIfInBounds_toArray, List.set_cons_zero, List.set_cons_succ]; rfl
        refine wpK_q (v := ?_) (a' := ?_) (by rfl) (fun w' hR => ?_) ?_ ?_
        rotate_left 2
        · go_simp; with_reducible rfl
        · simp only [Act.put, List.setIfInBounds_toArray, List.set_cons_zero, List.set_cons_succ]; rfl
        refine wpK_q (v := ?_) (a' := ?_) (by rfl) (fun w' hR => ?_) ?_ ?_
        rotate_left 2
        · go_simp; with_reducible rfl
        · simp only [Act.put, List.setIfInBounds_toArray, List.set_cons_zero, List.set_cons_succ]; rfl
        have H0 := hid (HA.out.on (Ext.drew wa))
        have HC0 : Hid (Held od om wa.drew bc (.cells #[I 0, I a, I m, B c, .bool s] 83 (0, 0))) := hid (HC.out.on (Ext.drew wa))
        refine wpK_call Try.func62 (by kernel_rfl) rfl rfl (by rfl) #[.agg #[I 0, I a, I m, B c, .bool s]] (by simp only [List.map_toArray, List.map_cons, List.map_nil]; rfl) ?_
        refine (page_any _ 0 a m c s).mono ?_
        rintro e w5 ⟨v5, rfl, ho5, hb5⟩
        refine ⟨v5, rfl, fun _ => ⟨hb5.block bc HC0.out.lt, hb5.size⟩, ?_⟩
        have H5 := hid (H0.out.on hb5)
        have HC5 := hid (HC0.out.on hb5)
        have S5 := hid (own_sees ho5)
        have N5 := hid (show ∀ k, v5.ownBlock = some k → ¬ od k from fun k hk hk2 => by have := (own_lt ho5 k hk).1; have := H0.out.d.lt k hk2; omega)
        have hN : D.waits.length ≤ 1000000000 := by have := HW.out; omega
        have HN := hid hN
        clear ho5 hb5 hN
        refine wpK_call Try.func50 (by kernel_rfl) rfl rfl (by rfl) #[.pointer (some ⟨p, 0, none⟩), I a, v5] (by simp only [List.map_toArray, List.map_cons, List.map_nil]; rfl) ?_
        refine (write_any _ _ _ _ a v5 (pageOf c s) H5.out.d S5.out ha N5.out HN.out).mono ?_
        rintro e w6 ⟨rfl, hd⟩
        obtain ⟨od', hb, hk⟩ := H5.out.dstep hd
        have HC6 := hid (hk _ _ HC5.out)
        refine ⟨_, rfl, fun _ => ⟨HC6.out.1.trans HC5.out.1.symm, hd.choose_spec.2.2.size⟩, ?_⟩
        have H6 := hid hb
        clear hd hb hk H5 S5 N5
        refine wpK_call Try.func62 (by kernel_rfl) rfl rfl (by rfl) #[.agg #[I 0, I a, I m, B c, .bool s]] (by simp only [List.map_toArray, List.map_cons, List.map_nil]; rfl) ?_
        refine (page_any _ 0 a m c s).mono ?_
        rintro e w7 ⟨v7, rfl, ho7, hb7⟩
        refine ⟨v7, rfl, fun _ => ⟨hb7.block bc HC6.out.lt, hb7.size⟩, ?_⟩
        have H7 := hid (H6.out.on hb7)
        have S7 := hid (own_sees ho7)
        have N7 := hid (show ∀ k, v7.ownBlock = some k → ¬ om k from fun k hk hk2 => by have := (own_lt ho7 k hk).1; have := H6.out.m.lt k hk2; omega)
        have HC7 := hid (HC6.out.on hb7)
        clear ho7 hb7 H6
        refine wpK_call Try.func51 (by kernel_rfl) rfl rfl (by rfl) #[.pointer (some ⟨pm, 0, none⟩), I a, v7] (by simp only [List.map_toArray, List.map_cons, List.map_nil]; rfl) ?_
        refine (rwrite_any _ _ _ _ a v7 (pageOf c s) H7.out.m S7.out ha N7.out HN.out).mono ?_
        rintro e w8 ⟨rfl, hd⟩
        obtain ⟨om', hb, hk⟩ := H7.out.mstep hd
        refine ⟨_, rfl, fun _ => ⟨(hk _ _ HC7.out).1.trans HC7.out.1.symm, hd.choose_spec.2.2.size⟩, ?_⟩
        have HE := hid hb
        have HWE := hid (show (D.write a (pageOf c s)).2.waits.length ≤ j + 1 from Nat.le_trans (DS.write_waits D a _) (by have := HW.out; omega))
        clear hd hb hk H7 S7 N7 HC7 HC6 HC5 HN H0 HC0
        refine wpK_q (v := ?_) (a' := ?_) (by rfl) (fun w' hR => ?_) ?_ ?_
        rotate_left 2
        · go_simp; with_reducible rfl
        · simp only [Act.put, List.setIfInBounds_toArray, List.set_cons_zero, List.set_cons_succ]; rfl
        refine wpK_done ?_
        clear kc0 kc1 kc2 kc3 kc4
        generalize D.write a (pageOf c s) = R at *
        obtain ⟨r, D'⟩ := R
        go_wp2
      rotate_left
      focus
        go_wp2_with (first | (go_at_call 52; refine (flush_any _ _ _ _ HA.out.d).mono ?_; rintro e w5 ⟨rfl, hd⟩; obtain ⟨od', hb, hk⟩ := HA.out.dstep hd.more; have HB := hid hb; clear hd hb hk) | (go_at_call 53; refine (rflush_any _ _ _ _ HB.out.m).mono ?_; rintro e w6 ⟨rfl, hd⟩; obtain ⟨om', hb, hk⟩ := HB.out.mstep hd; have HE := hid hb; have HWE := hid (Nat.le_trans (DS.Flush_waits D) (Nat.le_succ_of_le HW.out)); clear hd hb hk HB))
        generalize D.Flush.2 = D' at *
      rotate_left
      focus
        generalize hrd : D.read a = R at *
        have HRD := hid hrd
        obtain ⟨e1', l⟩ := R
        clear hrd
        go_wp2_with (first | (go_at_call 58; refine (read_any _ _ _ _ a HA.out.d ha).mono ?_; rw [HRD.out]; rintro e w5 ⟨v5, rfl, ho, hb⟩; obtain ⟨ao5, cap5, rfl⟩ := own_form ho; have S5 := hid (own_sees ho); have HB := hid (HA.out.on hb); have c5 := (hb.cell (block_lt_of_cell (HC.out.cell 1 (I a) rfl))).trans (HC.out.cell 1 (I a) rfl); clear ho hb) | (go_at_call 63; refine (rread_any _ _ _ _ a HB.out.m ha).mono ?_; rw [HRD.out]; rintro e w6 ⟨v6, rfl, ho, hb⟩; obtain ⟨ao6, cap6, rfl⟩ := own_form ho; have k5 := run_str Try.underlying23 Try.underlying5 Try.underlying9 (S5.out.below hb); have k6 := run_str Try.underlying23 Try.underlying5 Try.underlying9 (own_sees ho); have HE := hid (HB.out.on hb); have HWE := hid (Nat.le_succ_of_le HW.out); clear ho hb HB))
      rotate_left
      focus
        go_wp2_with (first | (go_at_call 46; refine (off_any _ _ _ _ m HA.out.d hm).mono ?_; rintro e w5 ⟨rfl, hd⟩; obtain ⟨od', hb, hk⟩ := HA.out.dstep hd.more; have HB := hid hb; have c5 := (hk _ _ HC.out).cell 2 (I m) rfl; clear hd hb hk) | (go_at_call 47; refine (roff_any _ _ _ _ m HB.out.m hm).mono ?_; rintro e w6 ⟨rfl, hd⟩; obtain ⟨om', hb, hk⟩ := HB.out.mstep hd; have HE := hid hb; have HWE := hid (Nat.le_trans (DS.Off_waits D m) (Nat.le_succ_of_le HW.out)); clear hd hb hk HB))
        generalize D.Off m = D' at *
      rotate_left
      focus
        go_wp2_with (first | (go_at_call 48; refine (on_any _ _ _ _ HA.out.d).mono ?_; rintro e w5 ⟨rfl, hd⟩; obtain ⟨od', hb, hk⟩ := HA.out.dstep hd.more; have HB := hid hb; obtain ⟨as5, cs5, c50, c53, c54, cf5⟩ := hb.m.cells; have HM5 := hid (hb.m.on); clear hd hb hk))
        obtain ⟨om', hb, hk⟩ := HB.out.mstep HM5.out
        have HE := hid hb
        have HWE : Hid (D.On.waits.length ≤ j + 1) := hid (Nat.le_succ_of_le HW.out)
        clear hb hk HB
        generalize D.On = D' at *
      rotate_left
      focus
        go_wp2_with (first | (go_at_call 44; refine (arm_any _ _ _ _ a m HA.out.d ha hm).mono ?_; rintro e w5 ⟨rfl, hd⟩; obtain ⟨od', hb, hk⟩ := HA.out.dstep hd.more; have HB := hid hb; have c5 := (hk _ _ HC.out).cell 2 (I m) rfl; have c6 := (hk _ _ HC.out).cell 1 (I a) rfl; clear hd hb hk) | (go_at_call 45; refine (rarm_any _ _ _ _ a m HB.out.m ha hm).mono ?_; rintro e w6 ⟨rfl, hd⟩; obtain ⟨om', hb, hk⟩ := HB.out.mstep hd.more; have HE := hid hb; have HWE : Hid ((D.Arm a m).waits.length ≤ j + 1) := hid (Nat.le_succ_of_le HW.out); clear hd hb hk HB))
        generalize D.Arm a m = D' at *
      rotate_left
      focus
        go_wp2
        have HE := HA
        have HWE := hid (Nat.le_succ_of_le HW.out)
      rotate_left
      all_goals
        obtain ⟨as1, cs1, cc0, cc3, cc4, cfr⟩ := HE.out.m.cells
        have hdn := fun n => down_any _ _ _ _ (HE.out.drewN n).d
        rcases Bool.eq_false_or_eq_true (DS.off _) with ho | ho
        all_goals
          rw [ho] at cc3 hdn
          have HDN := hid hdn
          clear ho hdn
          go_quiet ((first | (go_at_call 59; exact quiet_mine (ops_any _ _ _ _ (HE.out.drewN _).d)) | (go_at_call 61; exact quiet_mine (HDN.out _))))
          have HF := hid (HE.out.drewN nq)
          clear HE HDN cc0 cc3 cc4 cfr
          go_wp2
          go_roundw
          case rel => exact ⟨j + 1, _, _, _, by omega, by go_num, HF, HWE⟩
          case measure => simp [intOf]; omega
    · obtain rfl : j = len := by omega
      clear HS
      go_wp2_with (go_at_call 48; refine (on_any _ _ _ _ H.out.d).mono ?_; rintro e w5 ⟨rfl, hd⟩; obtain ⟨od', hb, hk⟩ := H.out.dstep hd.more; have HB := hid hb; obtain ⟨as5, cs5, c50, c53, c54, cf5⟩ := hb.m.cells; have HM5 := hid (hb.m.on); clear hd hb hk)
      obtain ⟨om', hb, hk⟩ := HB.out.mstep HM5.out
      have HE := hid hb
      clear hb hk HB HM5 c50 c53 c54 cf5 H HW
      have hON := hid (show D.On.off = false from rfl)
      generalize D.On = D' at *
      generalize w5.setCell ⟨pm, 3, none⟩ (.bool true) = w6 at *
      go_loopw [13] (fun i wq => ∃ (q : Nat), q ≤ 20 ∧ q ≤ D'.safe.length ∧ i = I q ∧ Hid (Both w od' p om' pm D' D' wq)) (fun i _ => 20 - (intOf i).toNat)
      case atStart => exact ⟨0, by omega, Nat.zero_le _, rfl, HE⟩
      case round =>
        clear HE
        obtain ⟨q, hq, hq2, rfl, HE⟩ := hrel
        obtain ⟨as1, cs1, cc0, cc3, cc4, cfr⟩ := HE.out.m.cells
        have hn1 := HE.out.d.ok.n2
        clear cc3 cc4 cfr
        by_cases hlt1 : q < D'.safe.length
        · by_cases hlt2 : q < 20
          · generalize hrd : D'.read q = R at *
            have HRD := hid hrd
            obtain ⟨e1', l⟩ := R
            clear hrd
            go_wp2_with (first | (go_at_call 58; refine (read_any _ _ _ _ q HE.out.d (by omega)).mono ?_; rw [HRD.out]; rintro e w7 ⟨v5, rfl, ho, hb⟩; obtain ⟨ao5, cap5, rfl⟩ := own_form ho; have S5 := hid (own_sees ho); have HB := hid (HE.out.on hb); clear ho hb) | (go_at_call 63; refine (rread_any _ _ _ _ q HB.out.m (by omega)).mono ?_; rw [HRD.out]; rintro e w8 ⟨v6, rfl, ho, hb⟩; obtain ⟨ao6, cap6, rfl⟩ := own_form ho; have k5 := run_str Try.underlying23 Try.underlying5 Try.underlying9 (S5.out.below hb); have k6 := run_str Try.underlying23 Try.underlying5 Try.underlying9 (own_sees ho); have HF := hid (HB.out.on hb); clear ho hb HB))
            go_roundw
            case rel => exact ⟨q + 1, by omega, by omega, by go_num, HF⟩
            case measure => simp [intOf]; omega
          · have hfin := hid HE.out.below
            clear HE
            obtain rfl : q = 20 := by omega
            go_wp2_with (first | (go_at_call 46; refine (off_nil _ _).mono ?_; rintro e w9 ⟨rfl, rfl⟩) | (go_at_call 48; refine (on_nil _).mono ?_; rintro e w9 ⟨rfl, rfl⟩) | (go_at_call 44; refine (arm_nil _ _ _).mono ?_; rintro e w9 ⟨rfl, rfl⟩) | (go_at_call 58; refine (read_nil _ _).mono ?_; rintro e w9 ⟨rfl, rfl⟩) | (go_at_call 57; refine (full_any _ 0).mono ?_; rintro e w9 ⟨v9, rfl, ho, hb⟩; obtain ⟨ao9, cap9, rfl⟩ := own_form ho; have HL := hid (hfin.out.trans (hb.mono hfin.out.size)); clear ho hb) | (go_at_call 50; refine (write_nil _ _ _ _ _).mono ?_; rintro e w9 ⟨rfl, rfl⟩) | (go_at_call 52; refine (flush_nil _).mono ?_; rintro e w9 ⟨rfl, rfl⟩) | (go_at_call 60; refine (pages_nil _).mono ?_; rintro e w9 ⟨rfl, rfl⟩) | (go_at_call 59; refine (ops_nil _).mono ?_; rintro e w9 ⟨rfl, rfl⟩) | (go_at_call 61; refine (down_nil _).mono ?_; rintro e w9 ⟨rfl, rfl⟩))
            go_ret
            exact ⟨rfl, HL.out⟩
        · have hfin := hid HE.out.below
          clear HE
          go_wp2_with (first | (go_at_call 46; refine (off_nil _ _).mono ?_; rintro e w9 ⟨rfl, rfl⟩) | (go_at_call 48; refine (on_nil _).mono ?_; rintro e w9 ⟨rfl, rfl⟩) | (go_at_call 44; refine (arm_nil _ _ _).mono ?_; rintro e w9 ⟨rfl, rfl⟩) | (go_at_call 58; refine (read_nil _ _).mono ?_; rintro e w9 ⟨rfl, rfl⟩) | (go_at_call 57; refine (full_any _ 0).mono ?_; rintro e w9 ⟨v9, rfl, ho, hb⟩; obtain ⟨ao9, cap9, rfl⟩ := own_form ho; have HL := hid (hfin.out.trans (hb.mono hfin.out.size)); clear ho hb) | (go_at_call 50; refine (write_nil _ _ _ _ _).mono ?_; rintro e w9 ⟨rfl, rfl⟩) | (go_at_call 52; refine (flush_nil _).mono ?_; rintro e w9 ⟨rfl, rfl⟩) | (go_at_call 60; refine (pages_nil _).mono ?_; rintro e w9 ⟨rfl, rfl⟩) | (go_at_call 59; refine (ops_nil _).mono ?_; rintro e w9 ⟨rfl, rfl⟩) | (go_at_call 61; refine (down_nil _).mono ?_; rintro e w9 ⟨rfl, rfl⟩))
          go_ret
          exact ⟨rfl, HL.out⟩
theorem walkAll (n : Int) (hn : -9223372036854775808 ≤ n ∧ n ≤ 9223372036854775807) (a1 : Option Addr) (len cap : Nat) (hl : len ≤ 9223372036854775807) {w : World} (hb : IsScript w a1 len) (w' : World) (e : w = w') :
    Calls Try.prog 14 #[I n, .slice a1 len cap] w' fun e w'' => e = .returned (.bool true) ∧ Below w'.heap.size w' w'' := by
  subst e
  exact walk n a1 len cap w hn hl hb
end Go.Proofs.Ytoaeapnkefjpaaa.drumDoes
