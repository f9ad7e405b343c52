/-
  DrumKeeps of layer 3: the walk.
-/
import Derived.Test.YtoaeapnkefjpaaaDrumG
namespace Go.Proofs.Ytoaeapnkefjpaaa.drumKeeps
open Go.RowKit
set_option linter.unusedVariables false
set_option linter.unusedSimpArgs false

theorem own256 {w : World} {base : Nat} {v : Value} {l : List UInt8} (h : w.ownsRow base 5 1 v l.length (l.map B)) (hl : l.length = 256) : ∃ g cap, v = .slice (some ⟨g, 0, none⟩) 256 cap ∧ 256 ≤ cap ∧ cap ≤ 9223372036854775807 ∧ base ≤ g ∧ g < w.heap.size := by
  rw [hl] at h
  obtain ⟨g, cap, rfl, h1, h2, h3, h4⟩ := own_slice h (by omega)
  exact ⟨g, cap, rfl, h1, by unfold maxLen at h2; omega, h3, h4⟩
def N0 : DS := DS.new (DS.clamp 8)
theorem n0_len : N0.safe.length = 8 := by kernel_rfl
theorem n0_off : N0.off = false := rfl
theorem n0_armed : N0.armed = 0 := rfl
theorem n0_waits : N0.waits = [] := rfl
theorem n0_ops : N0.ops = 0 := rfl
def N1 (m : Nat) (c : UInt8) : DS := { N0 with waits := N0.waits ++ [(m, fullPage c)], ops := DS.inc N0.ops }
theorem n1_write (m : Nat) (hm : m ≤ 7) (c : UInt8) : N0.write m (fullPage c) = (0, N1 m c) := DS.write_ok n0_off n0_armed (by rw [n0_len]; omega) (fullPage_len c)
theorem n1_read (m : Nat) (hm : m ≤ 7) (c : UInt8) : (N1 m c).read m = (0, fullPage c) := by
  rw [DS.read_ok (D := N1 m c) n0_off (by show m < N0.safe.length; rw [n0_len]; omega)]
  unfold N1
  rw [DS.look_snoc, if_pos rfl]
theorem n0_read (m : Nat) (hm : m ≤ 7) : N0.read m = (0, fullPage 0) := by
  rw [DS.read_ok n0_off (by rw [n0_len]; omega)]
  unfold N0
  rw [DS.look_new _ _ (by have : DS.clamp 8 = 8 := by kernel_rfl
                          omega)]
theorem own_base {w : World} {b b' : Nat} {e : TypeId} {size n : Nat} {v : Value} {xs : List Value} (h : w.ownsRow b e size v n xs) (hb : ∀ k, v.ownBlock = some k → b' ≤ k) : w.ownsRow b' e size v n xs := by
  refine ⟨h.1, ?_⟩
  rcases h.2 with h0 | ⟨g, cap, cur, rfl, _, r⟩
  · exact .inl h0
  · exact .inr ⟨g, cap, cur, rfl, hb g rfl, r⟩
/-- Another drum's calls leave this one. -/
theorem st_other {w0 w w' : World} {own own2 : Nat → Prop} {p : Nat} {D : DS} (h : St w0 own p D w) (hm : Mod own2 w w') (hf : ∀ k, own2 k → w0.heap.size ≤ k) (hd : ∀ k, own k → ¬ own2 k) : St w0 own p D w' :=
  ⟨h.at'.mod hm hd, h.fresh, h.below.trans (hm.below h.below.size (fun i hi ho => by have := hf i ho; omega))⟩
set_option maxRecDepth 100000 in
set_option maxHeartbeats 3200000 in
theorem walk (c : UInt8) (m : Nat) (hm : m ≤ 7) (w : World) :
    Calls Try.prog 11 #[.int .u8 c.toNat, I m] w fun e w' => e = .returned (.bool true) ∧ Below w.heap.size w w' := by
  go_enter Try.func11, Try.ntmps11
  go_wp2_with (first | (go_at_call 56; refine (wakes3_any _).mono ?_; rintro e w1 ⟨rfl, hb⟩; have HB := hid hb; clear hb) | (go_at_call 36; have HB' := HB; refine (st_new _ 8 (by omega)).mono ?_; rintro e w2 ⟨p1, own1, rfl, h⟩; have H1 := hid ((show St _ own1 p1 N0 w2 from h).back HB.out); clear h HB HB') | (go_at_call 36; refine (st_new _ 8 (by omega)).mono ?_; rintro e w3 ⟨p2, own2, rfl, h⟩; have H2 := hid ((show St _ own2 p2 N0 w3 from h).back H1.out.below); have HX := hid (show ∀ k, own2 k → ¬ own1 k from fun k h1 h2 => by have := h.fresh k h1; have := H1.out.at'.lt k h2; omega); replace H1 := hid (H1.out.on h.below); clear h) | (go_at_call 57; refine (full_any _ c).mono ?_; rintro e w4 ⟨v, rfl, ho, hb⟩; obtain ⟨g, cp, rfl, hc1, hc2, hg1, hg2⟩ := own256 ho (fullPage_len c); have HV := hid (H1.out.apart ho); have HVO := hid (own_len ho (fullPage_len c) rfl); have HG1 := hid (show ¬ own1 g from fun h => by have := H1.out.at'.lt g h; omega); have HG2 := hid (show ¬ own2 g from fun h => by have := H2.out.at'.lt g h; omega); have HG0 := hid (Nat.le_trans H1.out.below.size hg1); replace H1 := hid (H1.out.on hb); replace H2 := hid (H2.out.on hb); clear ho hb) | (go_at_call 50; refine (st_write H1.out m (by omega) HV.out (by rw [n0_waits]; exact Nat.zero_le _)).mono ?_; rw [n1_write m hm c]; rintro e w5 ⟨rfl, own1', h, hO, hM⟩; have HO := hid hO; have HM := hid hM; have H1' := hid h; clear h hO hM) | fail)
  have F1 := H1'
  have F2 := hid (st_other H2.out HM.out H1.out.fresh HX.out)
  have FO := hid (own_mod HVO.out (fun k hk => by cases hk; exact HM.out.block g hg2 HG1.out))
  have FX := hid (show ∀ k, own2 k → ¬ own1' k from fun k h1 h2 => by
    rcases HO.out k h2 with h | h
    · exact HX.out k h1 h
    · have := H2.out.at'.lt k h1; omega)
  have FG1 := hid (show ¬ own1' g from fun h => by
    rcases HO.out g h with h | h
    · exact HG1.out h
    · omega)
  clear H1 H1' H2 HM HVO HO HX HG1 HV
  go_loopw [34] (fun i wr => ∃ (j : Nat) (xs : List Value), j ≤ 256 ∧ i = I j ∧ Hid (wr.ownsRow w3.heap.size 5 1 (.slice (some ⟨g, 0, none⟩) 256 cp) 256 xs) ∧ Hid (St w own1' p1 (N1 m c) wr) ∧ Hid (St w own2 p2 N0 wr)) (fun i _ => 256 - (intOf i).toNat)
  case atStart => exact ⟨0, _, by omega, rfl, FO, F1, F2⟩
  case round =>
    clear F1 F2 FO
    obtain ⟨j, xs, hj, rfl, hO, h1, h2⟩ := hrel
    by_cases hlt : j < 256
    · obtain ⟨u, hu⟩ : ∃ u, xs[j]? = some u := ⟨_, List.getElem?_eq_getElem (by rw [hO.out.1]; omega)⟩
      have hcell := own_cell hO.out (i := j) hu
      have hfr := own_frozen hO.out j
      have hset := hid (fun v => own_set hO.out hlt v)
      clear hu
      go_wp2
      go_roundw
      case rel => exact ⟨j + 1, _, by omega, by go_num, hid (hset.out _), hid (st_other h1.out (Mod.set (own := fun k => k = g) rfl) (fun k hk => by rw [hk]; exact HG0.out) (fun k hk e => FG1.out (e ▸ hk))), hid (st_other h2.out (Mod.set (own := fun k => k = g) rfl) (fun k hk => by rw [hk]; exact HG0.out) (fun k hk e => HG2.out (e ▸ hk)))⟩
      case measure => simp [intOf]; omega
    clear hO
    go_wp2_with (go_at_call 58; refine (st_read h1.out m (by omega)).mono ?_; rw [n1_read m hm c]; rintro e w6 ⟨x, rfl, h, ho, hb⟩; obtain ⟨gx, cx, rfl, hx1, hx2, hx3, hx4⟩ := own256 ho (fullPage_len c); have HS := hid (own_sees ho); have HVO := hid (own_len ho (fullPage_len c) rfl); have H1 := hid h; have H2 := hid (h2.out.on hb); have HY1 := hid (show ¬ own1' gx from fun h => by have := h1.out.at'.lt gx h; omega); have HY2 := hid (show ¬ own2 gx from fun h => by have := h2.out.at'.lt gx h; omega); have HY0 := hid (Nat.le_trans h1.out.below.size hx3); clear h ho hb)
    have k1 : ∀ w', Ext w6.drew w' → (convert 23 9 (.slice (some ⟨gx, 0, none⟩) 256 cx)).run Try.prog w' = .ok (.string (str (fullPage c))) w' := fun w' h => run_str Try.underlying23 Try.underlying5 Try.underlying9 (HS.out.drew.below h)
    clear h1 h2
    refine wp_region_order Ext [] [(0,0),(1,0),(2,0),(3,0),(4,0),(5,0),(6,1),(7,0),(8,0),(9,0)] _ (by kernel_rfl) rfl Ext.refl Ext.trans (by kernel_rfl) (by simp only [pick, List.getElem?_toArray, List.getElem?_cons_zero, List.getElem?_cons_succ]; rfl) (fun c a d v w h => by cases d <;> exact h) ?_
    refine wpK_q (v := ?_) (a' := ?_) (by rfl) (fun w' hR => ?_) ?_ ?_
    rotate_left 2
    · go_simp; with_reducible rfl
    · simp only [Act.put, List.setIfInBounds_toArray, List.set_cons_zero, List.set_cons_succ]; rfl
    refine wpK_q (v := ?_) (a' := ?_) (by rfl) (fun w' hR => ?_) ?_ ?_
    rotate_left 2
    · go_simp; with_reducible rfl
    · simp only [Act.put, List.setIfInBounds_toArray, List.set_cons_zero, List.set_cons_succ]; rfl
    refine wpK_q (v := ?_) (a' := ?_) (by rfl) (fun w' hR => ?_) ?_ ?_
    rotate_left 2
    · go_simp; with_reducible rfl
    · simp only [Act.put, List.setIfInBounds_toArray, List.set_cons_zero, List.set_cons_succ]; rfl
    refine wpK_q (v := ?_) (a' := ?_) (by rfl) (fun w' hR => ?_) ?_ ?_
    rotate_left 2
    · go_simp; with_reducible rfl
    · simp only [Act.put, List.setIfInBounds_toArray, List.set_cons_zero, List.set_cons_succ]; rfl
    refine wpK_q (v := ?_) (a' := ?_) (by rfl) (fun w' hR => ?_) ?_ ?_
    rotate_left 2
    · go_simp; with_reducible rfl
    · simp only [Act.put, List.setIfInBounds_toArray, List.set_cons_zero, List.set_cons_succ]; rfl
    refine wpK_q (v := ?_) (a' := ?_) (by rfl) (fun w' hR => ?_) ?_ ?_
    rotate_left 2
    · go_simp; with_reducible rfl
    · simp only [Act.put, List.setIfInBounds_toArray, List.set_cons_zero, List.set_cons_succ]; rfl
    refine wpK_call Try.func57 (by kernel_rfl) rfl rfl (by rfl) #[.int .u8 c.toNat] (by simp only [List.map_toArray, List.map_cons, List.map_nil]; rfl) ?_
    refine (full_any _ c).mono ?_
    rintro e w7 ⟨v7, rfl, ho, hb⟩
    obtain ⟨g7, c7, rfl, -, -, -, -⟩ := own256 ho (fullPage_len c)
    have hE : Ext w6.drew w7 := hb
    refine ⟨_, rfl, fun _ => hE, ?_⟩
    have S7 := hid (own_sees ho)
    have k2 : ∀ w', Ext w7 w' → (convert 23 9 (.slice (some ⟨g7, 0, none⟩) 256 c7)).run Try.prog w' = .ok (.string (str (fullPage c))) w' := fun w' h => run_str Try.underlying23 Try.underlying5 Try.underlying9 (S7.out.below h)
    refine wpK_q (v := ?_) (a' := ?_) (by rfl) (fun w' hR => ?_) ?_ ?_
    rotate_left 2
    · go_simp; with_reducible rfl
    · simp only [Act.put, List.setIfInBounds_toArray, List.set_cons_zero, List.set_cons_succ]; rfl
    refine wpK_q (v := ?_) (a' := ?_) (by rfl) (fun w' hR => ?_) ?_ ?_
    rotate_left 2
    · go_simp; with_reducible rfl
    · simp only [Act.put, List.setIfInBounds_toArray, List.set_cons_zero, List.set_cons_succ]; rfl
    refine wpK_q (v := ?_) (a' := ?_) (by rfl) (fun w' hR => ?_) ?_ ?_
    rotate_left 2
    · go_simp; with_reducible rfl
    · simp only [Act.put, List.setIfInBounds_toArray, List.set_cons_zero, List.set_cons_succ]; rfl
    refine wpK_done ?_
    have hb6 : Below w6.heap.size w6 w7 := Ext.trans _ _ _ (Ext.drew w6) hb
    replace H1 := hid (H1.out.on hb6)
    replace H2 := hid (H2.out.on hb6)
    have FO := hid (own_below HVO.out hb6)
    clear k1 k2 S7 ho hb hE hb6 HVO HS
    go_wp2
    go_loopw [61] (fun i wr => ∃ (j : Nat) (xs : List Value), j ≤ 256 ∧ i = I j ∧ Hid (wr.ownsRow w.heap.size 5 1 (.slice (some ⟨gx, 0, none⟩) 256 cx) 256 xs) ∧ Hid (St w own1' p1 (N1 m c) wr) ∧ Hid (St w own2 p2 N0 wr)) (fun i _ => 256 - (intOf i).toNat)
    case atStart => exact ⟨0, _, by omega, rfl, hid (own_base FO.out (fun k hk => by cases hk; exact HY0.out)), H1, H2⟩
    case round =>
      clear H1 H2 FO
      obtain ⟨j2, xs2, hj2, rfl, hO2, h1, h2⟩ := hrel
      by_cases hlt2 : j2 < 256
      · obtain ⟨u, hu⟩ : ∃ u, xs2[j2]? = some u := ⟨_, List.getElem?_eq_getElem (by rw [hO2.out.1]; omega)⟩
        have hcell := own_cell hO2.out (i := j2) hu
        have hfr := own_frozen hO2.out j2
        have hset := hid (fun v => own_set hO2.out hlt2 v)
        clear hu
        go_wp2
        go_roundw
        case rel => exact ⟨j2 + 1, _, by omega, by go_num, hid (hset.out _), hid (st_other h1.out (Mod.set (own := fun k => k = gx) rfl) (fun k hk => by rw [hk]; exact HY0.out) (fun k hk e => HY1.out (e ▸ hk))), hid (st_other h2.out (Mod.set (own := fun k => k = gx) rfl) (fun k hk => by rw [hk]; exact HY0.out) (fun k hk e => HY2.out (e ▸ hk)))⟩
        case measure => simp [intOf]; omega
      clear hO2
      have HR := hid h1.out
      go_wp2_with (first | (go_at_call 58; have HR' := HR; refine (st_read h1.out m (by omega)).mono ?_; rw [n1_read m hm c]; rintro e w8 ⟨y, rfl, h, ho, hb⟩; obtain ⟨gy, cy, rfl, -, -, -, -⟩ := own256 ho (fullPage_len c); have HSY := hid (own_sees ho); have H1 := hid h; have H2 := hid (h2.out.on hb); clear h ho hb HR HR') | (go_at_call 58; refine (st_read H2.out m (by omega)).mono ?_; rw [n0_read m hm]; rintro e w9 ⟨z, rfl, h, ho, hb⟩; obtain ⟨gz, cz, rfl, -, -, -, -⟩ := own256 ho (fullPage_len 0); have HSZ := hid (own_sees ho); replace HSY := hid (HSY.out.below hb); replace H2 := hid h; clear h ho hb))
      have k1 : ∀ w', Ext w9.drew w' → (convert 23 9 (.slice (some ⟨gy, 0, none⟩) 256 cy)).run Try.prog w' = .ok (.string (str (fullPage c))) w' := fun w' h => run_str Try.underlying23 Try.underlying5 Try.underlying9 (HSY.out.drew.below h)
      have k2 : ∀ w', Ext w9.drew w' → (convert 23 9 (.slice (some ⟨gz, 0, none⟩) 256 cz)).run Try.prog w' = .ok (.string (str (fullPage 0))) w' := fun w' h => run_str Try.underlying23 Try.underlying5 Try.underlying9 (HSZ.out.drew.below h)
      refine wp_region_order Ext [] [(0,0),(1,0),(2,0),(3,0),(4,0),(5,0),(6,0),(7,0),(8,0),(9,0),(10,1),(11,0),(12,0),(13,0),(14,0),(15,0),(16,0),(17,1),(18,0),(19,0),(20,0),(21,0),(22,0),(23,1),(24,0),(25,0),(26,0)] _ (by kernel_rfl) rfl Ext.refl Ext.trans (by kernel_rfl) (by simp only [pick, List.getElem?_toArray, List.getElem?_cons_zero, List.getElem?_cons_succ]; rfl) (fun c a d v w h => by cases d <;> exact h) ?_
      refine wpK_q (v := ?_) (a' := ?_) (by rfl) (fun w' hR => ?_) ?_ ?_
      rotate_left 2
      · go_simp; with_reducible rfl
      · simp only [Act.put, List.setIfInBounds_toArray, List.set_cons_zero, List.set_cons_succ]; rfl
      refine wpK_q (v := ?_) (a' := ?_) (by rfl) (fun w' hR => ?_) ?_ ?_
      rotate_left 2
      · go_simp; with_reducible rfl
      · simp only [Act.put, List.setIfInBounds_toArray, List.set_cons_zero, List.set_cons_succ]; rfl
      refine wpK_q (v := ?_) (a' := ?_) (by rfl) (fun w' hR => ?_) ?_ ?_
      rotate_left 2
      · go_simp; with_reducible rfl
      · simp only [Act.put, List.setIfInBounds_toArray, List.set_cons_zero, List.set_cons_succ]; rfl
      refine wpK_q (v := ?_) (a' := ?_) (by rfl) (fun w' hR => ?_) ?_ ?_
      rotate_left 2
      · go_simp; with_reducible rfl
      · simp only [Act.put, List.setIfInBounds_toArray, List.set_cons_zero, List.set_cons_succ]; rfl
      refine wpK_q (v := ?_) (a' := ?_) (by rfl) (fun w' hR => ?_) ?_ ?_
      rotate_left 2
      · go_simp; with_reducible rfl
      · simp only [Act.put, List.setIfInBounds_toArray, List.set_cons_zero, List.set_cons_succ]; rfl
      refine wpK_q (v := ?_) (a' := ?_) (by rfl) (fun w' hR => ?_) ?_ ?_
      rotate_left 2
      · go_simp; with_reducible rfl
      · simp only [Act.put, List.setIfInBounds_toArray, List.set_cons_zero, List.set_cons_succ]; rfl
      refine wpK_q (v := ?_) (a' := ?_) (by rfl) (fun w' hR => ?_) ?_ ?_
      rotate_left 2
      · go_simp; with_reducible rfl
      · simp only [Act.put, List.setIfInBounds_toArray, List.set_cons_zero, List.set_cons_succ]; rfl
      refine wpK_q (v := ?_) (a' := ?_) (by rfl) (fun w' hR => ?_) ?_ ?_
      rotate_left 2
      · go_simp; with_reducible rfl
      · simp only [Act.put, List.setIfInBounds_toArray, List.set_cons_zero, List.set_cons_succ]; rfl
      refine wpK_q (v := ?_) (a' := ?_) (by rfl) (fun w' hR => ?_) ?_ ?_
      rotate_left 2
      · go_simp; with_reducible rfl
      · simp only [Act.put, List.setIfInBounds_toArray, List.set_cons_zero, List.set_cons_succ]; rfl
      refine wpK_q (v := ?_) (a' := ?_) (by rfl) (fun w' hR => ?_) ?_ ?_
      rotate_left 2
      · go_simp; with_reducible rfl
      · simp only [Act.put, List.setIfInBounds_toArray, List.set_cons_zero, List.set_cons_succ]; rfl
      refine wpK_call Try.func57 (by kernel_rfl) rfl rfl (by rfl) #[.int .u8 c.toNat] (by simp only [List.map_toArray, List.map_cons, List.map_nil]; rfl) ?_
      refine (full_any _ c).mono ?_
      rintro e wa ⟨va, rfl, ho, hb⟩
      obtain ⟨ga, ca, rfl, -, -, -, -⟩ := own256 ho (fullPage_len c)
      have hEa : Ext w9.drew wa := hb
      refine ⟨_, rfl, fun _ => hEa, ?_⟩
      have Sa := hid (own_sees ho)
      have ka : ∀ w', Ext wa w' → (convert 23 9 (.slice (some ⟨ga, 0, none⟩) 256 ca)).run Try.prog w' = .ok (.string (str (fullPage c))) w' := fun w' h => run_str Try.underlying23 Try.underlying5 Try.underlying9 (Sa.out.below h)
      replace k1 := fun w' h => k1 w' (Ext.trans _ _ _ hEa h)
      replace k2 := fun w' h => k2 w' (Ext.trans _ _ _ hEa h)
      refine wpK_q (v := ?_) (a' := ?_) (by rfl) (fun w' hR => ?_) ?_ ?_
      rotate_left 2
      · go_simp; with_reducible rfl
      · simp only [Act.put, List.setIfInBounds_toArray, List.set_cons_zero, List.set_cons_succ]; rfl
      refine wpK_q (v := ?_) (a' := ?_) (by rfl) (fun w' hR => ?_) ?_ ?_
      rotate_left 2
      · go_simp; with_reducible rfl
      · simp only [Act.put, List.setIfInBounds_toArray, List.set_cons_zero, List.set_cons_succ]; rfl
      refine wpK_q (v := ?_) (a' := ?_) (by rfl) (fun w' hR => ?_) ?_ ?_
      rotate_left 2
      · go_simp; with_reducible rfl
      · simp only [Act.put, List.setIfInBounds_toArray, List.set_cons_zero, List.set_cons_succ]; rfl
      refine wpK_q (v := ?_) (a' := ?_) (by rfl) (fun w' hR => ?_) ?_ ?_
      rotate_left 2
      · go_simp; with_reducible rfl
      · simp only [Act.put, List.setIfInBounds_toArray, List.set_cons_zero, List.set_cons_succ]; rfl
      refine wpK_q (v := ?_) (a' := ?_) (by rfl) (fun w' hR => ?_) ?_ ?_
      rotate_left 2
      · go_simp; with_reducible rfl
      · simp only [Act.put, List.setIfInBounds_toArray, List.set_cons_zero, List.set_cons_succ]; rfl
      refine wpK_q (v := ?_) (a' := ?_) (by rfl) (fun w' hR => ?_) ?_ ?_
      rotate_left 2
      · go_simp; with_reducible rfl
      · simp only [Act.put, List.setIfInBounds_toArray, List.set_cons_zero, List.set_cons_succ]; rfl
      refine wpK_call Try.func57 (by kernel_rfl) rfl rfl (by rfl) #[.int .u8 0] (by simp only [List.map_toArray, List.map_cons, List.map_nil]; rfl) ?_
      refine (full_any _ 0).mono ?_
      rintro e wb ⟨vb, rfl, hob, hbb⟩
      obtain ⟨gb, cb, rfl, -, -, -, -⟩ := own256 hob (fullPage_len 0)
      have hEb : Ext wa wb := hbb
      refine ⟨_, rfl, fun _ => hEb, ?_⟩
      have Sb := hid (own_sees hob)
      have kb : ∀ w', Ext wb w' → (convert 23 9 (.slice (some ⟨gb, 0, none⟩) 256 cb)).run Try.prog w' = .ok (.string (str (fullPage 0))) w' := fun w' h => run_str Try.underlying23 Try.underlying5 Try.underlying9 (Sb.out.below h)
      replace k2 := fun w' h => k2 w' (Ext.trans _ _ _ hEb h)
      refine wpK_q (v := ?_) (a' := ?_) (by rfl) (fun w' hR => ?_) ?_ ?_
      rotate_left 2
      · go_simp; with_reducible rfl
      · simp only [Act.put, List.setIfInBounds_toArray, List.set_cons_zero, List.set_cons_succ]; rfl
      refine wpK_q (v := ?_) (a' := ?_) (by rfl) (fun w' hR => ?_) ?_ ?_
      rotate_left 2
      · go_simp; with_reducible rfl
      · simp only [Act.put, List.setIfInBounds_toArray, List.set_cons_zero, List.set_cons_succ]; rfl
      refine wpK_q (v := ?_) (a' := ?_) (by rfl) (fun w' hR => ?_) ?_ ?_
      rotate_left 2
      · go_simp; with_reducible rfl
      · simp only [Act.put, List.setIfInBounds_toArray, List.set_cons_zero, List.set_cons_succ]; rfl
      refine wpK_q (v := ?_) (a' := ?_) (by rfl) (fun w' hR => ?_) ?_ ?_
      rotate_left 2
      · go_simp; with_reducible rfl
      · simp only [Act.put, List.setIfInBounds_toArray, List.set_cons_zero, List.set_cons_succ]; rfl
      refine wpK_q (v := ?_) (a' := ?_) (by rfl) (fun w' hR => ?_) ?_ ?_
      rotate_left 2
      · go_simp; with_reducible rfl
      · simp only [Act.put, List.setIfInBounds_toArray, List.set_cons_zero, List.set_cons_succ]; rfl
      have H2b := (H2.out.on (w' := wa) (Ext.trans _ _ _ (Ext.drew w9) hb)).on hbb
      refine wpK_call Try.func59 (by kernel_rfl) rfl rfl (by rfl) #[.pointer (some ⟨p2, 0, none⟩)] (by simp only [List.map_toArray, List.map_cons, List.map_nil]; rfl) ?_
      refine (ops_any _ _ _ _ H2b.at').mono ?_
      rintro e wc ⟨rfl, rfl⟩
      refine ⟨_, rfl, fun _ => Ext.refl _, ?_⟩
      rw [n0_ops]
      refine wpK_q (v := ?_) (a' := ?_) (by rfl) (fun w' hR => ?_) ?_ ?_
      rotate_left 2
      · go_simp; with_reducible rfl
      · simp only [Act.put, List.setIfInBounds_toArray, List.set_cons_zero, List.set_cons_succ]; rfl
      refine wpK_q (v := ?_) (a' := ?_) (by rfl) (fun w' hR => ?_) ?_ ?_
      rotate_left 2
      · go_simp; with_reducible rfl
      · simp only [Act.put, List.setIfInBounds_toArray, List.set_cons_zero, List.set_cons_succ]; rfl
      refine wpK_q (v := ?_) (a' := ?_) (by rfl) (fun w' hR => ?_) ?_ ?_
      rotate_left 2
      · go_simp; with_reducible rfl
      · simp only [Act.put, List.setIfInBounds_toArray, List.set_cons_zero, List.set_cons_succ]; rfl
      refine wpK_done ?_
      have HF := hid H2b.below
      clear k1 k2 ka kb Sa Sb
      go_wp2
      go_ret
      exact ⟨rfl, HF.out⟩
end Go.Proofs.Ytoaeapnkefjpaaa.drumKeeps
