/-
  THE DOCUMENT'S DRUM, fourth file: Flush. Conditions: those that each contract names.
-/
import Derived.Test.YtoaeapnkefjpaaaRefP3
namespace Go.Proofs.Ytoaeapnkefjpaaa
open Go.RowKit
set_option linter.unusedVariables false
set_option linter.unusedSimpArgs false

/-- A page of the safe ones anew: by a slice that the drum has already. -/
theorem RefIn.setShared {w : World} {p gs n cs : Nat} {wv xv v : Value} {ss xs : List Value} {pb own : Nat → Prop} {D : DS} (h : RefIn w p (.slice (some ⟨gs, 0, none⟩) n cs) wv xv ss xs pb own D) {a : Nat} (ha : a < D.safe.length) {q : List UInt8} (hq : q.length = 256)
    (hv : Sees w v q) (hb : ∀ k, v.ownBlock = some k → pb k) (hn : n = D.safe.length) :
    RefIn (w.setCell ⟨gs, a, none⟩ v) p (.slice (some ⟨gs, 0, none⟩) n cs) wv xv (ss.set a v) xs pb own { D with safe := D.safe.set a q } := by
  subst hn
  have s1 := h.s1 gs rfl
  have hother : ∀ k, k ≠ gs → (w.setCell ⟨gs, a, none⟩ v).heap[k]? = w.heap[k]? := fun k hk => heap_setCell_other w ⟨gs, a, none⟩ k v hk
  refine ⟨⟨by simpa using h.ok.n1, by simpa using h.ok.n2, fun r hr => ?_, fun x hx => by simpa using h.ok.wait x hx, h.ok.ops, h.ok.armed, h.ok.keep⟩, h.op, h.pp, h.pown, h.s1, h.w1, h.x1, fun k hk => by simpa using h.lt k hk, ?_, ?_, ?_, ?_, ?_, ?_⟩
  · rcases List.mem_or_eq_of_mem_set hr with hr | rfl
    · exact h.ok.page r hr
    · exact hq
  · rw [hother p (Ne.symm s1.2.1), h.hp]
  · have := own_set h.hs ha v
    simpa using this
  · exact own_mod h.hw (fun k hk => hother k (fun e => s1.2.2.2.1 (e ▸ hk)))
  · exact own_mod h.hx (fun k hk => hother k (fun e => s1.2.2.2.2 (e ▸ hk)))
  · have h1 : Pages (w.setCell ⟨gs, a, none⟩ v) pb ss D.safe := h.ps.keep (fun k hk => hother k (fun e => s1.2.2.1 (e ▸ hk)))
    exact h1.set a (hv.keep (fun k hk => hother k (fun e => s1.2.2.1 (e ▸ hb k hk)))) hb
  · exact h.px.keep (fun k hk => hother k (fun e => s1.2.2.1 (e ▸ hk)))
set_option maxRecDepth 100000 in
set_option maxHeartbeats 800000 in
theorem rflush_off (w : World) (p : Nat) (own : Nat → Prop) (D : DS) (h : RefAt w p own D) (ho : D.off = true) :
    Calls Try.prog 53 #[.pointer (some ⟨p, 0, none⟩)] w fun e w' => e = .returned (I 20) ∧ w = w' := by
  obtain ⟨sv, wv, xv, ss, xs, pb, h⟩ := h
  have c3 : w.cell? ⟨p, 3, none⟩ = some (.bool false) := by have := h.c3; rw [ho] at this; exact this
  clear h
  go_enter Try.func53, Try.ntmps53
  go_wp2
  go_ret
  exact ⟨rfl, rfl⟩
set_option maxRecDepth 100000 in
set_option maxHeartbeats 800000 in
theorem rflush_down (w : World) (p : Nat) (own : Nat → Prop) (D : DS) (h : RefAt w p own D) (ho : D.off = false) (hE : D.op.off = true) :
    Calls Try.prog 53 #[.pointer (some ⟨p, 0, none⟩)] w fun e w' => e = .returned (I 20) ∧ Reffed' own p w D.op w' := by
  have H := hid h
  obtain ⟨sv, wv, xv, ss, xs, pb, h⟩ := h
  have c3 : w.cell? ⟨p, 3, none⟩ = some (.bool true) := by have := h.c3; rw [ho] at this; exact this
  have HO := hid ho
  clear h ho
  go_enter Try.func53, Try.ntmps53
  go_wp2_with (go_at_call 93; refine (roper_any w p _ _ H.out HO.out).mono ?_; rintro e w5 ⟨rfl, hA⟩; rw [hE]; have HA := hid hA; clear hA)
  go_ret
  exact ⟨rfl, HA.out⟩
set_option maxRecDepth 100000 in
set_option maxHeartbeats 3200000 in
theorem rflush_on (w : World) (p : Nat) (own : Nat → Prop) (D : DS) (h : RefAt w p own D) (ho : D.off = false) (hE : D.op.off = false) :
    Calls Try.prog 53 #[.pointer (some ⟨p, 0, none⟩)] w fun e w' => e = .returned (I 0) ∧ Reffed' own p w { D.op with safe := DS.flush D.op.safe D.op.waits, waits := [] } w' := by
  have H := hid h
  obtain ⟨sv0, wv0, xv0, ss0, xs0, pb0, h⟩ := h
  have c3 : w.cell? ⟨p, 3, none⟩ = some (.bool true) := by have := h.c3; rw [ho] at this; exact this
  have HO := hid ho
  clear h ho
  generalize hDE : D.op = E at *
  go_enter Try.func53, Try.ntmps53
  go_wp2_with (go_at_call 93; refine (roper_any w p _ _ H.out HO.out).mono ?_; rw [hDE]; rintro e w5 ⟨rfl, own5, ⟨sv, wv, xv, ss, xs, pb, hA⟩, hN, hB⟩; rw [hE]; have c1 := hA.c1; obtain ⟨gs, cs, rfl, hs1, hs2, -, -⟩ := own_slice hA.hs (by have := hA.ok.n1; omega); obtain ⟨aw, cw, rfl⟩ := own_form hA.hw; obtain ⟨ax, cx, rfl⟩ := own_form hA.hx; have hroom := own_room hA.hw; have HA := hid hA; have HN := hid hN; have HB := hid hB; clear hA hB hN)
  clear hDE c3
  go_loopw [18] (fun i wr => ∃ (j : Nat) (ss' : List Value), j ≤ E.waits.length ∧ i = I j ∧ Hid (RefIn wr p (.slice (some ⟨gs, 0, none⟩) E.safe.length cs) (.slice aw E.waits.length cw) (.slice ax E.waits.length cx) ss' xs pb own5 { E with safe := DS.flush E.safe (E.waits.take j) }) ∧ Hid (Mod own5 w5 wr)) (fun i _ => E.waits.length - (intOf i).toNat)
  case atStart => exact ⟨0, ss, Nat.zero_le _, rfl, HA, hid (Mod.refl _ _)⟩
  case round =>
    clear c1
    obtain ⟨j, ss', hj, rfl, HI, HM⟩ := hrel
    have h := HI.out
    have c0 := h.c0
    have c1 := h.c1
    have c2 := h.c2
    have frp := h.fr
    by_cases hlt : j < E.waits.length
    · have rw0 : wr.ownsRow 0 3 1 (.slice aw E.waits.length cw) E.waits.length (E.waits.map fun x => I x.1) := h.hw
      have rx0 : wr.ownsRow 0 23 1 (.slice ax E.waits.length cx) E.waits.length xs := h.hx
      have rs0 : wr.ownsRow 0 23 1 (.slice (some ⟨gs, 0, none⟩) E.safe.length cs) E.safe.length ss' := own_len h.hs (DS.flush_len _ _) rfl
      obtain ⟨gw, cw', hv, -, -, -, -⟩ := own_slice rw0 (by omega)
      simp only [Value.slice.injEq] at hv
      obtain ⟨rfl, -, rfl⟩ := hv
      obtain ⟨gx, cx', hv, -, -, -, -⟩ := own_slice rx0 (by omega)
      simp only [Value.slice.injEq] at hv
      obtain ⟨rfl, -, rfl⟩ := hv
      obtain ⟨x0, hx0⟩ : ∃ x0, E.waits[j]? = some x0 := ⟨_, List.getElem?_eq_getElem hlt⟩
      obtain ⟨a0, q⟩ := x0
      have hcw := own_cell rw0 (i := j) (u := I a0) (by rw [List.getElem?_map, hx0]; rfl)
      have ha0 := (HA.out.ok.wait _ (List.mem_of_getElem? hx0)).1
      have hq := (HA.out.ok.wait _ (List.mem_of_getElem? hx0)).2
      have hlay : (DS.flush E.safe (E.waits.take j)).length = E.safe.length := DS.flush_len _ _
      have hn2 := HA.out.ok.n2
      obtain ⟨v1, hv1, hs1', hb1⟩ := h.px.get (i := j) (q := q) (by rw [List.getElem?_map, hx0]; rfl)
      have hcx := own_cell rx0 (i := j) hv1
      obtain ⟨u0, hu0⟩ : ∃ u0, ss'[a0]? = some u0 := ⟨_, List.getElem?_eq_getElem (by have := rs0.1; omega)⟩
      have hcu := own_cell rs0 (i := a0) hu0
      have hfu := own_frozen rs0 a0
      obtain ⟨ao1, cp1, rfl⟩ : ∃ ao cp, v1 = .slice ao q.length cp := by obtain ⟨a, b, h, -⟩ := hs1'.form0; exact ⟨a, b, h⟩
      have HX0 := hid hx0
      have HS1 := hid hs1'
      have HB1 := hid hb1
      have HQ := hid hq
      clear h hx0 hv1 hs1' hb1 hq rw0 rx0 rs0 hu0
      go_wp2
      have k0 : ∀ w', Ext wr.drew w' → w'.cell? ⟨p, 0, none⟩ = some (.slice (some ⟨gs, 0, none⟩) E.safe.length cs) := fun w' hh => hh.cell c0
      have k1 : ∀ w', Ext wr.drew w' → w'.cell? ⟨p, 1, none⟩ = some (.slice (some ⟨gw, 0, none⟩) E.waits.length cw) := fun w' hh => hh.cell c1
      have k2 : ∀ w', Ext wr.drew w' → w'.cell? ⟨gw, j, none⟩ = some (.int .i64 a0) := fun w' hh => hh.cell hcw
      have k3 : ∀ w', Ext wr.drew w' → w'.cell? ⟨p, 2, none⟩ = some (.slice (some ⟨gx, 0, none⟩) E.waits.length cx) := fun w' hh => hh.cell c2
      have k4 : ∀ w', Ext wr.drew w' → w'.cell? ⟨gx, j, none⟩ = some (.slice ao1 q.length cp1) := fun w' hh => hh.cell hcx
      refine wp_region_order Ext [19] [(0,0),(1,0),(2,0),(3,0),(4,0),(5,0),(6,0),(7,0),(8,0),(9,0),(10,0),(11,0),(12,0),(13,0),(14,0),(15,0),(16,0),(17,0),(18,0),(19,2)] _ (by kernel_rfl) rfl Ext.refl Ext.trans (by kernel_rfl) (by simp only [pick, List.getElem?_toArray, List.getElem?_cons_zero, List.getElem?_cons_succ]; rfl) (fun c a d v w h => by cases d <;> exact h) ?_
      refine wpK_q (v := ?_) (a' := ?_) (by rfl) (fun w' hR => ?_) ?_ ?_
      rotate_left 2
      · go_simp; with_reducible rfl
      · simp only [Act.put, List.setIfInBounds_toArray, List.set_cons_zero, List.set_cons_succ]; rfl
      refine wpK_q (v := ?_) (a' := ?_) (by rfl) (fun w' hR => ?_) ?_ ?_
      rotate_left 2
      · go_simp; with_reducible rfl
      · simp only [Act.put, List.setIfInBounds_toArray, List.set_cons_zero, List.set_cons_succ]; rfl
      refine wpK_q (v := ?_) (a' := ?_) (by rfl) (fun w' hR => ?_) ?_ ?_
      rotate_left 2
      · go_simp; with_reducible rfl
      · simp only [Act.put, List.setIfInBounds_toArray, List.set_cons_zero, List.set_cons_succ]; rfl
      refine wpK_q (v := ?_) (a' := ?_) (by rfl) (fun w' hR => ?_) ?_ ?_
      rotate_left 2
      · go_simp; with_reducible rfl
      · simp only [Act.put, List.setIfInBounds_toArray, List.set_cons_zero, List.set_cons_succ]; rfl
      refine wpK_q (v := ?_) (a' := ?_) (by rfl) (fun w' hR => ?_) ?_ ?_
      rotate_left 2
      · go_simp; with_reducible rfl
      · simp only [Act.put, List.setIfInBounds_toArray, List.set_cons_zero, List.set_cons_succ]; rfl
      refine wpK_q (v := ?_) (a' := ?_) (by rfl) (fun w' hR => ?_) ?_ ?_
      rotate_left 2
      · go_simp; with_reducible rfl
      · simp only [Act.put, List.setIfInBounds_toArray, List.set_cons_zero, List.set_cons_succ]; rfl
      refine wpK_q (v := ?_) (a' := ?_) (by rfl) (fun w' hR => ?_) ?_ ?_
      rotate_left 2
      · go_simp; with_reducible rfl
      · simp only [Act.put, List.setIfInBounds_toArray, List.set_cons_zero, List.set_cons_succ]; rfl
      refine wpK_q (v := ?_) (a' := ?_) (by rfl) (fun w' hR => ?_) ?_ ?_
      rotate_left 2
      · go_simp; with_reducible rfl
      · simp only [Act.put, List.setIfInBounds_toArray, List.set_cons_zero, List.set_cons_succ]; rfl
      refine wpK_q (v := ?_) (a' := ?_) (by rfl) (fun w' hR => ?_) ?_ ?_
      rotate_left 2
      · go_simp; with_reducible rfl
      · simp only [Act.put, List.setIfInBounds_toArray, List.set_cons_zero, List.set_cons_succ]; rfl
      refine wpK_q (v := ?_) (a' := ?_) (by rfl) (fun w' hR => ?_) ?_ ?_
      rotate_left 2
      · go_simp; with_reducible rfl
      · simp only [Act.put, List.setIfInBounds_toArray, List.set_cons_zero, List.set_cons_succ]; rfl
      refine wpK_q (v := ?_) (a' := ?_) (by rfl) (fun w' hR => ?_) ?_ ?_
      rotate_left 2
      · go_simp; with_reducible rfl
      · simp only [Act.put, List.setIfInBounds_toArray, List.set_cons_zero, List.set_cons_succ]; rfl
      refine wpK_q (v := ?_) (a' := ?_) (by rfl) (fun w' hR => ?_) ?_ ?_
      rotate_left 2
      · go_simp; with_reducible rfl
      · simp only [Act.put, List.setIfInBounds_toArray, List.set_cons_zero, List.set_cons_succ]; rfl
      refine wpK_q (v := ?_) (a' := ?_) (by rfl) (fun w' hR => ?_) ?_ ?_
      rotate_left 2
      · go_simp; with_reducible rfl
      · simp only [Act.put, List.setIfInBounds_toArray, List.set_cons_zero, List.set_cons_succ]; rfl
      refine wpK_q (v := ?_) (a' := ?_) (by rfl) (fun w' hR => ?_) ?_ ?_
      rotate_left 2
      · go_simp; with_reducible rfl
      · simp only [Act.put, List.setIfInBounds_toArray, List.set_cons_zero, List.set_cons_succ]; rfl
      refine wpK_q (v := ?_) (a' := ?_) (by rfl) (fun w' hR => ?_) ?_ ?_
      rotate_left 2
      · go_simp; with_reducible rfl
      · simp only [Act.put, List.setIfInBounds_toArray, List.set_cons_zero, List.set_cons_succ]; rfl
      refine wpK_q (v := ?_) (a' := ?_) (by rfl) (fun w' hR => ?_) ?_ ?_
      rotate_left 2
      · go_simp; with_reducible rfl
      · simp only [Act.put, List.setIfInBounds_toArray, List.set_cons_zero, List.set_cons_succ]; rfl
      refine wpK_q (v := ?_) (a' := ?_) (by rfl) (fun w' hR => ?_) ?_ ?_
      rotate_left 2
      · go_simp; with_reducible rfl
      · simp only [Act.put, List.setIfInBounds_toArray, List.set_cons_zero, List.set_cons_succ]; rfl
      refine wpK_q (v := ?_) (a' := ?_) (by rfl) (fun w' hR => ?_) ?_ ?_
      rotate_left 2
      · go_simp; with_reducible rfl
      · simp only [Act.put, List.setIfInBounds_toArray, List.set_cons_zero, List.set_cons_succ]; rfl
      refine wpK_q (v := ?_) (a' := ?_) (by rfl) (fun w' hR => ?_) ?_ ?_
      rotate_left 2
      · go_simp; with_reducible rfl
      · simp only [Act.put, List.setIfInBounds_toArray, List.set_cons_zero, List.set_cons_succ]; rfl
      refine wpK_s (by rfl) rfl (exec_store rfl (vx := .pointer (some ⟨gs, a0, none⟩)) (vy := .slice ao1 q.length cp1) rfl rfl (run_store1 (w := wr.drew) (u := u0) (by kernel_rfl) rfl rfl hcu hfu)) (fun h => by cases h) ?_
      refine wpK_done ?_
      have hI5 := (HI.out.keep (w' := wr.drew) (fun _ _ => rfl) (Nat.le_refl _)).setShared (a := a0) (by show a0 < (DS.flush E.safe (E.waits.take j)).length; omega) HQ.out HS1.out.drew HB1.out hlay.symm
      have HI5 := hid hI5
      have HM5 := hid ((HM.out.trans (Mod.drew wr)).trans (Mod.set (a := ⟨gs, a0, none⟩) (u := .slice ao1 q.length cp1) (HI.out.s1 gs rfl).1))
      clear hI5 k0 k1 k2 k3 k4 c0 c1 c2 frp hcw hcx hcu hfu
      go_wp2
      go_roundw
      case rel =>
        have e1 : DS.flush E.safe (E.waits.take (j + 1)) = (DS.flush E.safe (E.waits.take j)).set a0 q := by
          rw [List.take_add_one, HX0.out, Option.toList_some, DS.flush_snoc]
        exact ⟨j + 1, _, by omega, by go_num, by rw [e1]; exact HI5, HM5⟩
      case measure => simp [intOf]; omega
    · have hj2 : j = E.waits.length := by omega
      clear h
      go_wp2
      go_ret
      have h := HI.out
      have hs : DS.flush E.safe (E.waits.take j) = DS.flush E.safe E.waits := by rw [hj2, List.take_length]
      rw [hs] at h
      have r1 := heap_setCell_same wr p 1 _ _ (.slice none 0 0) h.hp
      have r2 := heap_setCell_same _ p 2 _ _ (.slice none 0 0) r1
      have hother : ∀ i, i ≠ p → ((wr.setCell ⟨p, 1, none⟩ (.slice none 0 0)).setCell ⟨p, 2, none⟩ (.slice none 0 0)).heap[i]? = wr.heap[i]? := fun i hi => by
        rw [heap_setCell_other _ ⟨p, 2, none⟩ i _ hi, heap_setCell_other _ ⟨p, 1, none⟩ i _ hi]
      refine ⟨rfl, own5, ⟨_, .slice none 0 0, .slice none 0 0, ss', [], pb, ⟨⟨h.ok.n1, h.ok.n2, h.ok.page, by simp, h.ok.ops, h.ok.armed, h.ok.keep⟩, h.op, h.pp, h.pown, fun i hi => ?_, fun i hi => (by cases hi), fun i hi => (by cases hi), fun i hi => by simpa using h.lt i hi, r2, own_mod h.hs (fun i hi => hother i (h.s1 i hi).2.1), World.ownsRow_nil _ _ _ _, World.ownsRow_nil _ _ _ _, h.ps.keep (fun i hi => hother i (fun e => h.pp (e ▸ hi))), Pages.nil _ _⟩⟩, HN.out, ?_⟩
      · obtain ⟨a1, a2, a3, -, -⟩ := h.s1 i hi
        exact ⟨a1, a2, a3, (by intro e; cases e), (by intro e; cases e)⟩
      · refine HB.out.then ((HM.out.trans (Mod.set h.op)).trans (Mod.set h.op)) (fun i hi e => ?_)
        rcases HN.out i e with h1 | h1
        · exact h1
        · exact absurd hi (Nat.not_lt.2 h1)
end Go.Proofs.Ytoaeapnkefjpaaa
