/-
  The walk of MpacketBounds (6). Conditions: those that each contract names.
-/
import Derived.Test.YtnljmllkfmgclaaMpacRow
namespace Go.Proofs.Ytnljmllkfmgclaa
open Go.RowKit
set_option linter.unusedVariables false
set_option linter.unusedSimpArgs false

theorem val_of {P : Program} {s : Sem Value} {w w' : World} {v : Value} (h : s.run P w = .ok v w') : (do pure (Next.value (← s)) : Sem Next).run P w = .ok (.value v) w' := by
  simp [Sem.run_bind, h, Result.andThen]
theorem weight_ok {P : Pk} (h : Mp.weight P ≤ 65536) : P.name.length + P.text.length + P.topic.length ≤ 100000000 ∧ Mp.sum P.names ≤ 100000 ∧ P.names.length ≤ 1000000000 ∧ P.codes.length ≤ 1000000000 := by
  unfold Mp.weight at h
  omega
/-- What is known of a packet's bytes. -/
theorem Mp.enc_head {P : Pk} {b : Mp.Bs} (h : Mp.enc P = some b) : 2 ≤ b.length ∧ b.length ≤ 16388 ∧ (1 ≤ P.kind ∧ P.kind ≤ 14) ∧ (0 ≤ P.flags ∧ P.flags ≤ 15) ∧ ∃ (x : UInt8) (t : Mp.Bs), b = x :: t ∧ (x.toNat : Int) = 16 * P.kind + P.flags := by
  obtain ⟨hs, rfl, hn⟩ := Mp.enc_some h
  have hs2 : 1 ≤ P.kind ∧ P.kind ≤ 14 ∧ 0 ≤ P.flags ∧ P.flags ≤ 15 ∧ P.names.length ≤ 32 ∧ P.codes.length ≤ 32 ∧ P.name.length + P.text.length + P.topic.length ≤ 16384 := of_decide_eq_true hs
  have hj := Mp.next_just hn
  have hx := b1_nat (P.kind * 16 + P.flags)
  obtain ⟨a, r, m, wd, e, -, hl, hnn, -, -⟩ := Mp.next_ok hn
  have hg := Mp.len_got r 3 0 0 m wd hl
  refine ⟨by omega, hj.2.2.2.1, ⟨hs2.1, hs2.2.1⟩, ⟨hs2.2.2.1, hs2.2.2.2.1⟩, _, _, rfl, ?_⟩
  rw [hx]
  omega
theorem Mp.enc_inj {A C : Pk} {x y : Mp.Bs} (h1 : Mp.enc A = some x) (h2 : Mp.enc C = some y) : (x == y) = Mp.same A C := by
  cases hs : Mp.same A C with
  | true =>
    have := (Mp.same_iff _ _).1 hs
    subst this
    rw [h1] at h2
    rw [Option.some.inj h2]
    simp
  | false =>
    rw [beq_eq_false_iff_ne]
    rintro rfl
    have h3 := (Mp.enc_some h1).2.2
    have h4 := (Mp.enc_some h2).2.2
    rw [h3] at h4
    have : A = C := by cases h4; rfl
    rw [(Mp.same_iff _ _).2 this] at hs
    cases hs
theorem PkF.enc {w : World} {v : Value} {P : Pk} (h : PkF w v P) (hw : Mp.weight P ≤ 65536) : Calls Try.prog 9 #[v] w (Encoded w (Mp.enc P)) := by
  obtain ⟨h1, h2, h3, h4⟩ := weight_ok hw
  exact enc_any w v P (h.v h3 h4) h1 h2
theorem PkF.heavy {w : World} {v : Value} {P : Pk} (h : PkF w v P) (hs : Sizes P) : Calls Try.prog 8 #[v] w (Weighed w P) := heavy_any w v P h hs.name hs.text hs.topic hs.codes hs.names
set_option maxRecDepth 100000 in
set_option maxHeartbeats 6400000 in
theorem bounds_any (w : World) (v1 v2 : Value) (A C : Pk) (h1 : PkF w v1 A) (h2 : PkF w v2 C) (z1 : Sizes A) (z2 : Sizes C) : Calls Try.prog 6 #[v1, v2] w fun e w' => e = .returned (.bool true) ∧ Below w.heap.size w w' := by
  obtain ⟨na, ca, rfl, hna, hca⟩ := h1
  obtain ⟨nb, cb, rfl, hnb, hcb⟩ := h2
  obtain ⟨w1, hw1⟩ : ∃ w1, w1 = (w.alloc (.cells (pkCells A na ca) 25)).alloc (.cells (pkCells C nb cb) 25) := ⟨_, rfl⟩
  have hB : Below w.heap.size w w1 := by rw [hw1]; exact ((Below.refl _ _).alloc (Nat.le_refl _) _).alloc (by simp) _
  have hA : Held w1 w.heap.size A na ca := ⟨by rw [hw1]; exact (Below.heap_alloc _ _ _ (by simp)).trans (heap_alloc_new _ _), hna.below hB, hca.below hB⟩
  have hC : Held w1 (w.heap.size + 1) C nb cb := ⟨by
      rw [hw1]
      have := heap_alloc_new (w.alloc (.cells (pkCells A na ca) 25)) (.cells (pkCells C nb cb) 25)
      rw [show (w.alloc (.cells (pkCells A na ca) 25)).heap.size = w.heap.size + 1 by simp] at this
      exact this, hnb.below hB, hcb.below hB⟩
  have HA := hid hA
  have HC := hid hC
  have HW := hid hw1
  have HB := hid hB
  have HZ1 := hid z1
  have HZ2 := hid z2
  clear hA hC hw1 hB hna hca hnb hcb z1 z2
  go_enter Try.func6, Try.ntmps6
  go_upto_region 1 with (fail)
  rw [← HW.out]
  clear HW
  obtain ⟨b, hbb⟩ : ∃ b, b = w.heap.size := ⟨_, rfl⟩
  rw [← hbb] at HA HC ⊢
  clear hbb
  go_upto_region 3 with (first | (go_at_call 7; refine (wakes_any _).mono ?_; rintro e w2 ⟨rfl, hb2⟩; have HB2 := hid hb2; clear hb2) | fail)
  have HA2 := hid (HA.out.below HB2.out)
  have HC2 := hid (HC.out.below HB2.out)
  have HBB2 := hid (HB.out.trans (HB2.out.mono HB.out.size))
  have LA := hid HA2.out.pk.load
  have LC := hid HC2.out.pk.load
  clear HA HC HB HB2
  go_wp2_with (first | (show wpList _ _ _ ({ dst := some 11, op := _, type := _, pos := _, after := _, guard := _ } :: _) _ _; refine wpList_load_by rfl (.tmp 2) rfl (.pointer (some ⟨b, 0, none⟩)) rfl LA.out ?_) | fail)
  refine (HA2.out.f.heavy HZ1.out).mono ?_
  rintro e w3 ⟨hb3, H1, rfl, hw3⟩
  cases H1 with
  | true =>
    have HB3 := hid (HBB2.out.trans (hb3.mono HBB2.out.size))
    clear hb3 hw3
    go_wp2_with fail
    go_ret
    exact ⟨rfl, HB3.out⟩
  | false =>
  have HWA := hid (hw3 rfl)
  have HA3 := hid (HA2.out.below hb3)
  have HC3 := hid (HC2.out.below hb3)
  have HB3 := hid (HBB2.out.trans (hb3.mono HBB2.out.size))
  have LC3 := hid HC3.out.pk.load
  clear hb3 hw3 HA2 HC2 HBB2 LA LC
  go_wp2_with (first | (show wpList _ _ _ ({ dst := some 14, op := _, type := _, pos := _, after := _, guard := _ } :: _) _ _; refine wpList_load_when (by rfl) (.tmp 3) rfl (.pointer (some ⟨b + 1, 0, none⟩)) rfl LC3.out ?_) | fail)
  refine (HC3.out.f.heavy HZ2.out).mono ?_
  rintro e w4 ⟨hb4, H2, rfl, hw4⟩
  cases H2 with
  | true =>
    have HB4 := hid (HB3.out.trans (hb4.mono HB3.out.size))
    clear hb4 hw4
    go_wp2_with fail
    go_ret
    exact ⟨rfl, HB4.out⟩
  | false =>
  have HWC := hid (hw4 rfl)
  have HA4 := hid (HA3.out.below hb4)
  have HC4 := hid (HC3.out.below hb4)
  have HB4 := hid (HB3.out.trans (hb4.mono HB3.out.size))
  have LA4 := hid HA4.out.pk.load
  clear hb4 hw4 HA3 HC3 HB3 LC3
  go_wp2_with (first | (show wpList _ _ _ ({ dst := some 18, op := _, type := _, pos := _, after := _, guard := _ } :: _) _ _; refine wpList_load_by rfl (.tmp 2) rfl (.pointer (some ⟨b, 0, none⟩)) rfl LA4.out ?_) | fail)
  refine (HA4.out.f.enc HWA.out).mono ?_
  rintro e w5 ⟨hb5, he5⟩
  have HA5 := hid (HA4.out.below hb5)
  have HC5 := hid (HC4.out.below hb5)
  have HB5 := hid (HB4.out.trans (hb5.mono HB4.out.size))
  have LC5 := hid HC5.out.pk.load
  clear hb5 HA4 HC4 HB4 LA4
  cases hea : Mp.enc A with
  | none =>
    rw [hea] at he5
    obtain rfl : e = _ := he5
    clear hea
    go_wp2_with (first | (show wpList _ _ _ ({ dst := some 23, op := _, type := _, pos := _, after := _, guard := _ } :: _) _ _; refine wpList_load_by rfl (.tmp 3) rfl (.pointer (some ⟨b + 1, 0, none⟩)) rfl LC5.out ?_) | fail)
    refine (HC5.out.f.enc HWC.out).mono ?_
    rintro e w6 ⟨hb6, he6⟩
    have HB6 := hid (HB5.out.trans (hb6.mono HB5.out.size))
    have HE6 : Hid (∃ (u : Value) (c : Int), e = .returned (.tuple #[u, I c])) := hid (by
      cases hec : Mp.enc C with
      | none => rw [hec] at he6; exact ⟨_, _, he6⟩
      | some y => rw [hec] at he6; obtain ⟨u, hu, -⟩ := he6; exact ⟨u, 0, hu⟩)
    obtain ⟨u, c, rfl⟩ := HE6.out
    clear hb6 he6 HA5 HC5 HB5 LC5 HE6
    go_wp2_with fail
    go_quiet (fail)
    go_wp2_with fail
    go_quiet (fail)
    go_wp2_with fail
    go_ret
    exact ⟨rfl, below_drewN' (below_drewN' HB6.out _) _⟩
  | some x =>
    rw [hea] at he5
    obtain ⟨vx, rfl, hox⟩ := he5
    obtain ⟨hx1, hx2, hx3, hx4, x0, xt, hx5, hx6⟩ := Mp.enc_head hea
    go_wp2_with (first | (show wpList _ _ _ ({ dst := some 23, op := _, type := _, pos := _, after := _, guard := _ } :: _) _ _; refine wpList_load_by rfl (.tmp 3) rfl (.pointer (some ⟨b + 1, 0, none⟩)) rfl LC5.out ?_) | fail)
    refine (HC5.out.f.enc HWC.out).mono ?_
    rintro e w6 ⟨hb6, he6⟩
    have HA6 := hid (HA5.out.below hb6)
    have HC6 := hid (HC5.out.below hb6)
    have HB6 := hid (HB5.out.trans (hb6.mono HB5.out.size))
    have hox6 := own_below hox hb6
    obtain ⟨g, cap, rfl, -, -, -, -⟩ := own_slice hox6 (by omega)
    have ck : w6.cell? ⟨g, 0, none⟩ = some (B x0) := own_cell hox6 (by rw [hx5]; rfl)
    have c0 : w6.cell? ⟨b, 0, none⟩ = some (I A.kind) := HA6.out.pk.cell 0
    have c1 : w6.cell? ⟨b, 1, none⟩ = some (I A.flags) := HA6.out.pk.cell 1
    have d1 : decide ((x.length : Int) < 2) = false := decide_eq_false (by omega)
    have d2 : decide (16388 < (x.length : Int)) = false := decide_eq_false (by omega)
    have d3 : ((x0.toNat : Int) == 16 * A.kind + A.flags) = true := by rw [beq_iff_eq]; exact hx6
    have hw0 : IntKind.i64.wrap (x0.toNat : Int) = (x0.toNat : Int) := IntWalk.i64_in _ (by have := x0.toNat_lt; omega)
    have hw1 : IntKind.i64.wrap (16 * A.kind) = 16 * A.kind := IntWalk.i64_in _ (by omega)
    have hw2 : IntKind.i64.wrap (16 * A.kind + A.flags) = 16 * A.kind + A.flags := IntWalk.i64_in _ (by omega)
    have HOX := hid hox6
    clear hb6 HA5 HC5 HB5 LC5 hox hox6 hx5 hx6
    cases hec : Mp.enc C with
    | none =>
      rw [hec] at he6
      obtain rfl : e = _ := he6
      clear hea hec
      go_wp2_with fail
      go_quiet (fail)
      go_wp2_with fail
      go_quiet (fail)
      go_wp2_with fail
      go_ret
      exact ⟨rfl, below_drewN' (below_drewN' HB6.out _) _⟩
    | some y =>
      rw [hec] at he6
      obtain ⟨vy, rfl, hoy⟩ := he6
      obtain ⟨ay, cy, rfl⟩ := own_form hoy
      have HEQ := hid (Mp.enc_inj hea hec)
      have HOY := hid hoy
      clear hea hec hoy
      go_wp2_with fail
      go_quiet (fail)
      go_wp2_with fail
      have hxd := (own_sees' HOX.out rfl).drewN nq
      have hyd := (own_sees' HOY.out rfl).drewN nq
      have had : Held (w6.drewN nq) b A na ca := HA6.out.below (below_drewN' (Below.refl _ _) _)
      have hcd : Held (w6.drewN nq) (b + 1) C nb cb := HC6.out.below (below_drewN' (Below.refl _ _) _)
      have HB7 := hid (below_drewN' HB6.out nq)
      clear HOX HOY HA6 HC6 HB6 ck c0 c1 d1 d2 d3 hw0 hw1 hw2 hx1 hx2 hx3 hx4
      generalize w6.drewN nq = w7 at *
      have kx : ∀ w', Ext w7.drew w' → (convert 28 9 (.slice (some ⟨g, 0, none⟩) x.length cap)).run Try.prog w' = .ok (.string (str x)) w' := fun w' hh => run_str Try.underlying28 Try.underlying5 Try.underlying9 (hxd.drew.below hh)
      have ky : ∀ w', Ext w7.drew w' → (convert 28 9 (.slice ay y.length cy)).run Try.prog w' = .ok (.string (str y)) w' := fun w' hh => run_str Try.underlying28 Try.underlying5 Try.underlying9 (hyd.drew.below hh)
      have had2 : Held w7.drew b A na ca := had.below (Below.drew (Below.refl _ _))
      have hcd2 : Held w7.drew (b + 1) C nb cb := hcd.below (Below.drew (Below.refl _ _))
      have HB8 := hid (Below.drew HB7.out)
      have hsx : ((str x).toList == (str y).toList) = Mp.same A C := by rw [str_toList, str_toList]; exact HEQ.out
      obtain ⟨-, -, wa3, wa4⟩ := weight_ok HWA.out
      obtain ⟨-, -, wc3, wc4⟩ := weight_ok HWC.out
      refine wp_region_order Ext [] [(0,0),(1,0),(2,0),(3,0),(4,0),(5,0),(6,0),(7,0),(8,0),(9,0),(10,0),(11,0),(12,0),(13,0),(14,1),(15,0),(16,0),(17,0)] _ (by kernel_rfl) rfl Ext.refl Ext.trans (by kernel_rfl) (by simp only [pick, List.getElem?_toArray, List.getElem?_cons_zero, List.getElem?_cons_succ]; rfl) (fun c a d v w h => by cases d <;> exact h) ?_
      have HAD := hid had2
      have HCD := hid hcd2
      clear hxd hyd had hcd had2 hcd2 HB7
      generalize w7.drew = wd at *
      refine wpK_q (v := ?_) (a' := ?_) (by rfl) (fun w' hR => ?_) ?_ ?_
      rotate_left 2
      · go_simp; with_reducible rfl
      · simp only [Act.put, List.setIfInBounds_toArray, List.set_cons_zero, List.set_cons_succ]; rfl
      refine wpK_q (v := ?_) (a' := ?_) (by rfl) (fun w' hR => ?_) ?_ ?_
      rotate_left 2
      · go_simp; with_reducible rfl
      · simp only [Act.put, List.setIfInBounds_toArray, List.set_cons_zero, List.set_cons_succ]; rfl
      refine wpK_q (v := ?_) (a' := ?_) (by rfl) (fun w' hR => ?_) ?_ ?_
      rotate_left 2
      · go_simp; with_reducible rfl
      · simp only [Act.put, List.setIfInBounds_toArray, List.set_cons_zero, List.set_cons_succ]; rfl
      refine wpK_q (v := ?_) (a' := ?_) (by rfl) (fun w' hR => ?_) ?_ ?_
      rotate_left 2
      · go_simp; with_reducible rfl
      · simp only [Act.put, List.setIfInBounds_toArray, List.set_cons_zero, List.set_cons_succ]; rfl
      refine wpK_q (v := ?_) (a' := ?_) (by rfl) (fun w' hR => ?_) ?_ ?_
      rotate_left 2
      · go_simp; with_reducible rfl
      · simp only [Act.put, List.setIfInBounds_toArray, List.set_cons_zero, List.set_cons_succ]; rfl
      refine wpK_q (v := ?_) (a' := ?_) (by rfl) (fun w' hR => ?_) ?_ ?_
      rotate_left 2
      · go_simp; with_reducible rfl
      · simp only [Act.put, List.setIfInBounds_toArray, List.set_cons_zero, List.set_cons_succ]; rfl
      refine wpK_q (v := ?_) (a' := ?_) (by rfl) (fun w' hR => ?_) ?_ ?_
      rotate_left 2
      · go_simp; with_reducible rfl
      · simp only [Act.put, List.setIfInBounds_toArray, List.set_cons_zero, List.set_cons_succ]; rfl
      refine wpK_q (v := ?_) (a' := ?_) (by rfl) (fun w' hR => ?_) ?_ ?_
      rotate_left 2
      · go_simp; with_reducible rfl
      · simp only [Act.put, List.setIfInBounds_toArray, List.set_cons_zero, List.set_cons_succ]; rfl
      refine wpK_q (v := ?_) (a' := ?_) (by rfl) (fun w' hR => ?_) ?_ ?_
      rotate_left 2
      · go_simp; with_reducible rfl
      · simp only [Act.put, List.setIfInBounds_toArray, List.set_cons_zero, List.set_cons_succ]; rfl
      refine wpK_q (v := ?_) (a' := ?_) (by rfl) (fun w' hR => ?_) ?_ ?_
      rotate_left 2
      · go_simp; with_reducible rfl
      · simp only [Act.put, List.setIfInBounds_toArray, List.set_cons_zero, List.set_cons_succ]; rfl
      refine wpK_q (v := ?_) (a' := ?_) (by rfl) (fun w' hR => ?_) ?_ ?_
      rotate_left 2
      · go_simp; with_reducible rfl
      · simp only [Act.put, List.setIfInBounds_toArray, List.set_cons_zero, List.set_cons_succ]; rfl
      refine wpK_q (v := ?_) (a' := ?_) (by rfl) (fun w' hR => ?_) ?_ ?_
      rotate_left 2
      · go_simp; with_reducible rfl
      · simp only [Act.put, List.setIfInBounds_toArray, List.set_cons_zero, List.set_cons_succ]; rfl
      refine wpK_q (v := ?_) (a' := ?_) (by rfl) (fun w' hR => ?_) ?_ ?_
      rotate_left 2
      · have hh := val_of ((HAD.out.below hR).pk.load)
        exact hh
      · simp only [Act.put, List.setIfInBounds_toArray, List.set_cons_zero, List.set_cons_succ]; rfl
      refine wpK_q (v := ?_) (a' := ?_) (by rfl) (fun w' hR => ?_) ?_ ?_
      rotate_left 2
      · have hh := val_of ((HCD.out.below hR).pk.load)
        exact hh
      · simp only [Act.put, List.setIfInBounds_toArray, List.set_cons_zero, List.set_cons_succ]; rfl
      refine wpK_call Try.func13 (by kernel_rfl) rfl rfl (by rfl) #[.agg (pkCells A na ca), .agg (pkCells C nb cb)] (by simp only [List.map_toArray, List.map_cons, List.map_nil]; rfl) ?_
      refine (same13_any wd _ _ A C (HAD.out.v wa3 wa4) (HCD.out.v wc3 wc4)).mono ?_
      rintro e w8 ⟨rfl, hb8⟩
      refine ⟨_, rfl, fun _ => hb8, ?_⟩
      have HB9 := hid (HB8.out.trans (hb8.mono HB8.out.size))
      clear hb8 kx ky HAD HCD HB8
      generalize Mp.same A C = sm at *
      cases sm
      all_goals
        refine wpK_q (v := ?_) (a' := ?_) (by rfl) (fun w' hR => ?_) ?_ ?_
        rotate_left 2
        · go_simp; with_reducible rfl
        · simp only [Act.put, List.setIfInBounds_toArray, List.set_cons_zero, List.set_cons_succ]; rfl
        refine wpK_q (v := ?_) (a' := ?_) (by rfl) (fun w' hR => ?_) ?_ ?_
        rotate_left 2
        · go_simp; with_reducible rfl
        · simp only [Act.put, List.setIfInBounds_toArray, List.set_cons_zero, List.set_cons_succ]; rfl
        refine wpK_q (v := ?_) (a' := ?_) (by rfl) (fun w' hR => ?_) ?_ ?_
        rotate_left 2
        · go_simp; with_reducible rfl
        · simp only [Act.put, List.setIfInBounds_toArray, List.set_cons_zero, List.set_cons_succ]; rfl
        refine wpK_done ?_
        go_wp2_with fail
        go_ret
        exact ⟨rfl, HB9.out⟩
theorem bounds_row (v1 : Value) (A : Pk) {W : World} (h1 : PkF W v1 A) (z1 : Sizes A) (v2 : Value) (C : Pk) (h2 : PkF W v2 C) (z2 : Sizes C) (W2 : World) (e : W = W2) : Calls Try.prog 6 #[v1, v2] W2 fun e w' => e = .returned (.bool true) ∧ Below W2.heap.size W2 w' := by
  subst e
  exact bounds_any W v1 v2 A C h1 h2 z1 z2
end Go.Proofs.Ytnljmllkfmgclaa
