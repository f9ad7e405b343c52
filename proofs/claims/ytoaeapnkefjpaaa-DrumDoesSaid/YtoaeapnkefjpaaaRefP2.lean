/-
  THE DOCUMENT'S DRUM, second file: Off. Conditions: those that each contract names.
-/
import Derived.Test.YtoaeapnkefjpaaaRefP
namespace Go.Proofs.Ytoaeapnkefjpaaa
open Go.RowKit
set_option linter.unusedVariables false
set_option linter.unusedSimpArgs false

/-- A page of the safe ones anew: by a slice of a block that is none of the drum's. -/
theorem RefIn.setPage {w : World} {p gs n cs : Nat} {wv xv v : Value} {ss xs : List Value} {pb own : Nat → Prop} {D : DS} (h : RefIn w p (.slice (some ⟨gs, 0, none⟩) n cs) wv xv ss xs pb own D) {a b : Nat} (ha : a < D.safe.length) {q : List UInt8} (hq : q.length = 256)
    (hv : Sees w v q) (hb : v.ownBlock = some b) (hno : ¬ own b) (hlt : b < w.heap.size) (hn : n = D.safe.length) :
    RefIn (w.setCell ⟨gs, a, none⟩ v) p (.slice (some ⟨gs, 0, none⟩) n cs) wv xv (ss.set a v) xs (fun k => pb k ∨ k = b) (fun k => own k ∨ k = b) { D with safe := D.safe.set a q } := by
  subst hn
  have s1 := h.s1 gs rfl
  have hother : ∀ k, k ≠ gs → (w.setCell ⟨gs, a, none⟩ v).heap[k]? = w.heap[k]? := fun k hk => heap_setCell_other w ⟨gs, a, none⟩ k v hk
  have hbg : b ≠ gs := fun e => hno (e ▸ s1.1)
  refine ⟨⟨by simpa using h.ok.n1, by simpa using h.ok.n2, fun r hr => ?_, fun x hx => by simpa using h.ok.wait x hx, h.ok.ops, h.ok.armed, h.ok.keep⟩, .inl h.op, ?_, ?_, ?_, ?_, ?_, ?_, ?_, ?_, ?_, ?_, ?_, ?_⟩
  · rcases List.mem_or_eq_of_mem_set hr with hr | rfl
    · exact h.ok.page r hr
    · exact hq
  · rintro (hp | rfl)
    · exact h.pp hp
    · exact hno h.op
  · rintro k (hk | rfl)
    · exact .inl (h.pown k hk)
    · exact .inr rfl
  · intro k hk
    obtain ⟨a1, a2, a3, a4, a5⟩ := h.s1 k hk
    exact ⟨.inl a1, a2, fun hh => by rcases hh with hh | rfl; exact a3 hh; exact hno a1, a4, a5⟩
  · intro k hk
    obtain ⟨a1, a2, a3, a4⟩ := h.w1 k hk
    exact ⟨.inl a1, a2, fun hh => by rcases hh with hh | rfl; exact a3 hh; exact hno a1, a4⟩
  · intro k hk
    obtain ⟨a1, a2, a3⟩ := h.x1 k hk
    exact ⟨.inl a1, a2, fun hh => by rcases hh with hh | rfl; exact a3 hh; exact hno a1⟩
  · rintro k (hk | rfl)
    · simpa using h.lt k hk
    · simpa using hlt
  · rw [hother p (Ne.symm s1.2.1), h.hp]
  · have := own_set h.hs ha v
    simpa using this
  · exact own_mod h.hw (fun k hk => hother k (fun e => s1.2.2.2.1 (e ▸ hk)))
  · exact own_mod h.hx (fun k hk => hother k (fun e => s1.2.2.2.2 (e ▸ hk)))
  · have h1 : Pages (w.setCell ⟨gs, a, none⟩ v) pb ss D.safe := h.ps.keep (fun k hk => hother k (fun e => s1.2.2.1 (e ▸ hk)))
    exact (h1.more (fun k hk => .inl hk)).set a (hv.keep (fun k hk => hother k (by rw [hb] at hk; cases hk; exact hbg))) (fun k hk => by rw [hb] at hk; cases hk; exact .inr rfl)
  · have h1 : Pages (w.setCell ⟨gs, a, none⟩ v) pb xs (D.waits.map (·.2)) := h.px.keep (fun k hk => hother k (fun e => s1.2.2.1 (e ▸ hk)))
    exact h1.more (fun k hk => .inl hk)
set_option maxRecDepth 100000 in
set_option maxHeartbeats 800000 in
theorem roff_off (w : World) (p : Nat) (own : Nat → Prop) (D : DS) (k : Int) (h : RefAt w p own D) (ho : D.off = true) :
    Calls Try.prog 47 #[.pointer (some ⟨p, 0, none⟩), I k] w fun e w' => e = .returned (.tuple #[]) ∧ w = w' := by
  obtain ⟨sv, wv, xv, ss, xs, pb, h⟩ := h
  have c3 : w.cell? ⟨p, 3, none⟩ = some (.bool false) := by have := h.c3; rw [ho] at this; exact this
  clear h
  go_enter Try.func47, Try.ntmps47
  go_wp2
  ((try simp only [Exit.inBlock, Exit.then]); first | refine bodyPost_end (results_none rfl _ _ _) rfl ?_ | refine bodyPost_ret (results_none rfl _ _ _) rfl ?_)
  exact ⟨rfl, rfl⟩
def blend (q old : List UInt8) (t : Nat) : List UInt8 := q.take t ++ old.drop t
theorem blend_len {q old : List UInt8} (h1 : q.length = 256) (h2 : old.length = 256) {t : Nat} (ht : t ≤ 256) : (blend q old t).length = 256 := by unfold blend; simp; omega
theorem blend_set {q old : List UInt8} (h1 : q.length = 256) (h2 : old.length = 256) {t : Nat} (ht : t < 256) : (blend q old t).set t (q[t]'(by omega)) = blend q old (t + 1) := by
  unfold blend
  have e : (q.take t).length = t := by rw [List.length_take]; omega
  rw [List.set_append_right _ _ (by omega), e, Nat.sub_self, List.take_succ_eq_append_getElem (by omega), List.append_assoc]
  congr 1
  rw [List.drop_eq_getElem_cons (by omega), List.set_cons_zero]
  rfl
set_option maxRecDepth 100000 in
set_option maxHeartbeats 3200000 in
theorem roff_on (w : World) (p : Nat) (own : Nat → Prop) (D : DS) (k : Int) (h : RefAt w p own D) (hk : -9223372036854775808 ≤ k ∧ k ≤ 9223372036854775807) (ho : D.off = false) :
    Calls Try.prog 47 #[.pointer (some ⟨p, 0, none⟩), I k] w fun e w' => e = .returned (.tuple #[]) ∧ Reffed' own p w { D with safe := DS.lay D.safe k D.waits, waits := [], off := true, armed := 0 } w' := by
  obtain ⟨sv, wv, xv, ss, xs, pb, h⟩ := h
  have c3 : w.cell? ⟨p, 3, none⟩ = some (.bool true) := by have := h.c3; rw [ho] at this; exact this
  obtain ⟨gs, cs, rfl, hs1, hs2, -, -⟩ := own_slice h.hs (by have := h.ok.n1; omega)
  obtain ⟨aw, cw, rfl⟩ := own_form h.hw
  obtain ⟨ax, cx, rfl⟩ := own_form h.hx
  have hroom := own_room h.hw
  have OK := hid h.ok
  have H := hid h
  have HO := hid ho
  clear h ho
  go_enter Try.func47, Try.ntmps47
  go_wp2
  go_loopw [4, 1] (fun i kk wr => ∃ (j : Nat) (r : Int) (ss' : List Value) (pb' own' : Nat → Prop), j ≤ D.waits.length ∧ i = I j ∧ kk = I r ∧ (-9223372036854775808 ≤ r ∧ r ≤ 9223372036854775807) ∧ Hid (r = DS.rest k (D.waits.take j)) ∧ Hid (RefIn wr p (.slice (some ⟨gs, 0, none⟩) D.safe.length cs) (.slice aw D.waits.length cw) (.slice ax D.waits.length cx) ss' xs pb' own' { D with safe := DS.lay D.safe k (D.waits.take j) }) ∧ Hid (∀ b, own' b → own b ∨ w.heap.size ≤ b) ∧ Hid (Mod own w wr)) (fun i _ _ => D.waits.length - (intOf i).toNat)
  case atStart => exact ⟨0, k, ss, pb, own, Nat.zero_le _, rfl, rfl, hk, hid rfl, H, hid (fun _ h => .inl h), hid (Mod.refl _ _)⟩
  case round =>
    clear c3
    obtain ⟨j, r, ss', pb', own', hj, rfl, rfl, hrr, HR, HI, HN, HM⟩ := hrel
    have h := HI.out
    have c0 := h.c0
    have c1 := h.c1
    have c2 := h.c2
    have frp := h.fr
    by_cases hlt : j < D.waits.length
    · have rw0 : wr.ownsRow 0 3 1 (.slice aw D.waits.length cw) D.waits.length (D.waits.map fun x => I x.1) := h.hw
      have rx0 : wr.ownsRow 0 23 1 (.slice ax D.waits.length cx) D.waits.length xs := h.hx
      have rs0 : wr.ownsRow 0 23 1 (.slice (some ⟨gs, 0, none⟩) D.safe.length cs) D.safe.length ss' := own_len h.hs (DS.lay_len _ _ _) rfl
      obtain ⟨gw, cw', hv, -, -, -, -⟩ := own_slice rw0 (by omega)
      simp only [Value.slice.injEq] at hv
      obtain ⟨rfl, -, rfl⟩ := hv
      obtain ⟨gx, cx', hv, -, -, -, -⟩ := own_slice rx0 (by omega)
      simp only [Value.slice.injEq] at hv
      obtain ⟨rfl, -, rfl⟩ := hv
      obtain ⟨x0, hx0⟩ : ∃ x0, D.waits[j]? = some x0 := ⟨_, List.getElem?_eq_getElem hlt⟩
      obtain ⟨a0, q⟩ := x0
      have hcw := own_cell rw0 (i := j) (u := I a0) (by rw [List.getElem?_map, hx0]; rfl)
      have ha0 := (OK.out.wait _ (List.mem_of_getElem? hx0)).1
      have hq := (OK.out.wait _ (List.mem_of_getElem? hx0)).2
      have hlay : (DS.lay D.safe k (D.waits.take j)).length = D.safe.length := DS.lay_len _ _ _
      have hn2 := OK.out.n2
      obtain ⟨old, hold⟩ : ∃ old, (DS.lay D.safe k (D.waits.take j))[a0]? = some old := ⟨_, List.getElem?_eq_getElem (by omega)⟩
      obtain ⟨v0, hv0, hs0, hb0⟩ := h.ps.get hold
      have hol : old.length = 256 := h.ok.page old (List.mem_of_getElem? hold)
      have hcs := own_cell rs0 (i := a0) hv0
      obtain ⟨v1, hv1, hs1', hb1⟩ := h.px.get (i := j) (q := q) (by rw [List.getElem?_map, hx0]; rfl)
      have hcx := own_cell rx0 (i := j) hv1
      have HX0 := hid hx0
      have HV1 := hid hv1
      have HOLD := hid hold
      have HS0 := hid hs0
      have HB0 := hid hb0
      have HS1 := hid hs1'
      have HB1 := hid hb1
      have HQ := hid hq
      have HOL := hid hol
      have RS := hid rs0
      clear rw0 rx0 rs0
      clear h hx0 hold hv0 hs0 hb0 hv1 hs1' hb1 hq hol
      go_wp2
      have k0 : ∀ w', Ext wr.drew w' → w'.cell? ⟨p, 0, none⟩ = some (.slice (some ⟨gs, 0, none⟩) D.safe.length cs) := fun w' hh => hh.cell c0
      have k1 : ∀ w', Ext wr.drew w' → w'.cell? ⟨p, 1, none⟩ = some (.slice (some ⟨gw, 0, none⟩) D.waits.length cw) := fun w' hh => hh.cell c1
      have k2 : ∀ w', Ext wr.drew w' → w'.cell? ⟨gw, j, none⟩ = some (.int .i64 a0) := fun w' hh => hh.cell hcw
      have k3 : ∀ w', Ext wr.drew w' → w'.cell? ⟨gs, a0, none⟩ = some v0 := fun w' hh => hh.cell hcs
      refine wp_region_order Ext [14] [(1,0),(2,0),(3,0),(4,0),(5,0),(6,0),(7,0),(8,0),(9,0),(10,0),(11,0),(12,0),(13,0),(0,1),(14,2),(15,0)] _ (by kernel_rfl) rfl Ext.refl Ext.trans (by kernel_rfl) (by simp only [pick, List.getElem?_toArray, List.getElem?_cons_zero, List.getElem?_cons_succ]; rfl) (fun c a d v w h => by cases d <;> exact h) ?_
      refine wpK_q (v := ?_) (a' := ?_) (by rfl) (fun w' hR => ?_) ?_ ?_
      rotate_left 2
      · go_simp; with_reducible rfl
      · simp only [Act.put, List.setIfInBounds_toArray, List.set_cons_zero, List.set_cons_succ]; rfl
      refine wpK_q (v := ?_) (a' := ?_) (by rfl) (fun w' hR => ?_) ?_ ?_
      rotate_left 2
      · go_simp; with_reducible rfl
      · simp only [Act.put, List.setIfInBounds_toArray, List.set_cons_zero, List.set_cons_succ]; rfl
      refine wpK_q (v := ?_) (a' := ?_) (by rfl) (fun w' hR => ?_) ?_ ?_
      rotate_left 2
      · go_simp; with_reducible rfl
      · simp only [Act.put, List.setIfInBounds_toArray, List.set_cons_zero, List.set_cons_succ]; rfl
      refine wpK_q (v := ?_) (a' := ?_) (by rfl) (fun w' hR => ?_) ?_ ?_
      rotate_left 2
      · go_simp; with_reducible rfl
      · simp only [Act.put, List.setIfInBounds_toArray, List.set_cons_zero, List.set_cons_succ]; rfl
      refine wpK_q (v := ?_) (a' := ?_) (by rfl) (fun w' hR => ?_) ?_ ?_
      rotate_left 2
      · go_simp; with_reducible rfl
      · simp only [Act.put, List.setIfInBounds_toArray, List.set_cons_zero, List.set_cons_succ]; rfl
      refine wpK_q (v := ?_) (a' := ?_) (by rfl) (fun w' hR => ?_) ?_ ?_
      rotate_left 2
      · go_simp; with_reducible rfl
      · simp only [Act.put, List.setIfInBounds_toArray, List.set_cons_zero, List.set_cons_succ]; rfl
      refine wpK_q (v := ?_) (a' := ?_) (by rfl) (fun w' hR => ?_) ?_ ?_
      rotate_left 2
      · go_simp; with_reducible rfl
      · simp only [Act.put, List.setIfInBounds_toArray, List.set_cons_zero, List.set_cons_succ]; rfl
      refine wpK_q (v := ?_) (a' := ?_) (by rfl) (fun w' hR => ?_) ?_ ?_
      rotate_left 2
      · go_simp; with_reducible rfl
      · simp only [Act.put, List.setIfInBounds_toArray, List.set_cons_zero, List.set_cons_succ]; rfl
      refine wpK_q (v := ?_) (a' := ?_) (by rfl) (fun w' hR => ?_) ?_ ?_
      rotate_left 2
      · go_simp; with_reducible rfl
      · simp only [Act.put, List.setIfInBounds_toArray, List.set_cons_zero, List.set_cons_succ]; rfl
      refine wpK_q (v := ?_) (a' := ?_) (by rfl) (fun w' hR => ?_) ?_ ?_
      rotate_left 2
      · go_simp; with_reducible rfl
      · simp only [Act.put, List.setIfInBounds_toArray, List.set_cons_zero, List.set_cons_succ]; rfl
      refine wpK_q (v := ?_) (a' := ?_) (by rfl) (fun w' hR => ?_) ?_ ?_
      rotate_left 2
      · go_simp; with_reducible rfl
      · simp only [Act.put, List.setIfInBounds_toArray, List.set_cons_zero, List.set_cons_succ]; rfl
      refine wpK_q (v := ?_) (a' := ?_) (by rfl) (fun w' hR => ?_) ?_ ?_
      rotate_left 2
      · go_simp; with_reducible rfl
      · simp only [Act.put, List.setIfInBounds_toArray, List.set_cons_zero, List.set_cons_succ]; rfl
      refine wpK_q (v := ?_) (a' := ?_) (by rfl) (fun w' hR => ?_) ?_ ?_
      rotate_left 2
      · go_simp; with_reducible rfl
      · simp only [Act.put, List.setIfInBounds_toArray, List.set_cons_zero, List.set_cons_succ]; rfl
      refine wpK_v (v := .slice (some ⟨wr.heap.size, 0, none⟩) 0 0) (w' := wr.drew.alloc (.cells #[] 5)) (by rfl) (by go_simp) (fun _ => (Below.refl _ _).alloc (Nat.le_refl _) _) (by simp only [Act.put, List.setIfInBounds_toArray, List.set_cons_zero, List.set_cons_succ]; rfl) ?_
      have hown0 : (wr.drew.alloc (.cells #[] 5)).ownsRow wr.heap.size 5 1 (.slice (some ⟨wr.heap.size, 0, none⟩) 0 0) 0 [] := World.ownsRow_made wr.drew #[] 0 (Nat.le_refl _) (Nat.zero_le _) rfl
      have hsrc : Src (wr.drew.alloc (.cells #[] 5)) 1 v0 old.length (old.map B) := ((HS0.out.below (Ext.trans _ _ _ (Ext.drew wr) ((Below.refl _ _).alloc (Nat.le_refl _) _)))).src
      obtain ⟨v5, w3, hr3, ho3, hg3, hb3⟩ := run_app (P := Try.prog) _ wr.heap.size 23 23 5 _ 1 1 Try.underlying23 info5 rfl (by decide) _ 0 [] hown0 v0 old.length (old.map B) hsrc (by rw [HOL.out]; unfold maxLen; omega) (by rw [HOL.out]; omega) (by simp)
      refine wpK_v (by rfl) (exec_append rfl _ (by simp only [List.map_toArray, List.map_cons, List.map_nil]; rfl) hr3) (fun h => by cases h) (by simp only [Act.put, List.setIfInBounds_toArray, List.set_cons_zero, List.set_cons_succ]; rfl) ?_
      refine wpK_q (v := ?_) (a' := ?_) (by rfl) (fun w' hR => ?_) ?_ ?_
      rotate_left 2
      · go_simp; with_reducible rfl
      · simp only [Act.put, List.setIfInBounds_toArray, List.set_cons_zero, List.set_cons_succ]; rfl
      refine wpK_done ?_
      have hb30 : Below wr.heap.size wr w3 := (Ext.trans _ _ _ (Ext.drew wr) ((Below.refl _ _).alloc (Nat.le_refl _) _)).below.grown hg3 (by simp) (fun k hk => by cases hk; exact Nat.le_refl _)
      have ho30 := own_len ho3 (show 0 + old.length = 256 by rw [HOL.out]) (show [] ++ old.map B = (blend q old 0).map B from rfl)
      obtain ⟨g5, c5, rfl, h51, h52, h53, h54⟩ := own_slice ho30 (by omega)
      have H5 := hid ho30
      have HB3 := hid hb30
      have HI3 := hid (HI.out.keep (fun k hk => hb30.block k (HI.out.lt k hk)) hb30.size)
      have HNO := hid (show ¬ own' g5 from fun hh => by have := HI.out.lt g5 hh; omega)
      have HM3 := hid (HM.out.trans (Mod.of_below own hb30))
      have HG5 := hid (Nat.le_trans HM.out.size h53)
      clear hr3 ho3 hg3 hb3 hown0 hsrc k0 k1 k2 k3 hb30 ho30 c0 c1 c2 frp hcw hcs hcx HS0
      go_wp2
      go_loopw [6, 1] (fun i kk wq => ∃ t : Nat, t ≤ DS.part r ∧ i = I t ∧ kk = I (r - t) ∧ Hid (wq.ownsRow wr.heap.size 5 1 (.slice (some ⟨g5, 0, none⟩) 256 c5) 256 ((blend q old t).map B)) ∧ Hid (RefIn wq p (.slice (some ⟨gs, 0, none⟩) D.safe.length cs) (.slice (some ⟨gw, 0, none⟩) D.waits.length cw) (.slice (some ⟨gx, 0, none⟩) D.waits.length cx) ss' xs pb' own' { D with safe := DS.lay D.safe k (D.waits.take j) }) ∧ Hid (Mod own w wq)) (fun i _ _ => 256 - (intOf i).toNat)
      case atStart => exact ⟨0, Nat.zero_le _, rfl, by rw [Int.natCast_zero, Int.sub_zero], H5, HI3, HM3⟩
      case round =>
        clear H5 HI3 HM3
        obtain ⟨t, ht, rfl, rfl, H5, HI3, HM3⟩ := hrel
        have hp256 := DS.part_le r
        have hpart : (DS.part r : Int) = min (max r 0) 256 := by unfold DS.part; omega
        have h3 := HI3.out
        have c0 := h3.c0
        have c1 := h3.c1
        have c2 := h3.c2
        have frp := h3.fr
        by_cases htl : t < DS.part r
        · obtain ⟨hse, hbl⟩ := h3.px.2 j v1 q HV1.out (by rw [List.getElem?_map, HX0.out]; rfl)
          rcases hse.open with ⟨rfl, _⟩ | ⟨g1, o1, cp1, hp1, rfl, hlc, hcap, hc⟩
          · exact absurd HQ.out (by simp)
          have hq := HQ.out
          have hcx := own_cell (show World.ownsRow _ 0 23 1 (.slice (some ⟨gx, 0, none⟩) D.waits.length cx) D.waits.length xs from h3.hx) (i := j) HV1.out
          have hcq := hc t (q[t]'(by omega)) (List.getElem?_eq_getElem (by omega))
          have hset := own_set H5.out (show t < 256 by omega) (B (q[t]'(by omega)))
          rw [← List.map_set, blend_set HQ.out HOL.out (by omega)] at hset
          have hcell5 := own_cell H5.out (i := t) (u := B ((blend q old t)[t]'(by rw [blend_len HQ.out HOL.out (by omega)]; omega))) (by rw [List.getElem?_map, List.getElem?_eq_getElem (by rw [blend_len HQ.out HOL.out (by omega)]; omega)]; rfl)
          have hfr5 := own_frozen H5.out t
          rw [hq] at hcx
          generalize q[t]'(by omega) = qt at *
          generalize (blend q old t)[t]'(by rw [blend_len HQ.out HOL.out (by omega)]; omega) = qo at *
          have HSET := hid hset
          have hr1 : 0 < r - (t : Int) := by omega
          have hr2 : r - (t : Int) ≤ 9223372036854775807 := by omega
          have ht2 : t < 256 := by omega
          clear hset hc hse hbl h3 hpart
          go_wp2
          go_roundw
          case rel => exact ⟨t + 1, by omega, by go_num, by go_num, HSET, hid (HI3.out.keep (fun i hi => heap_setCell_other _ ⟨g5, t, none⟩ i _ (fun e => HNO.out ((show i = g5 from e) ▸ hi))) (by simp)), hid (HM3.out.then (Mod.set (own := fun k => k = g5) rfl) (fun i hi e => by have := HG5.out; omega))⟩
          case measure => simp [intOf]; omega
        · have hte : t = DS.part r := by omega
          have hcw := own_cell (show World.ownsRow _ 0 3 1 (.slice (some ⟨gw, 0, none⟩) D.waits.length cw) D.waits.length (D.waits.map fun x => I x.1) from h3.hw) (i := j) (u := I a0) (by rw [List.getElem?_map, HX0.out]; rfl)
          have rs3 := own_len h3.hs (show (DS.lay D.safe k (D.waits.take j)).length = D.safe.length from DS.lay_len _ _ _) rfl
          have HRS := hid rs3
          have H3 := hid h3
          have hex : ¬ (t < 256 ∧ 0 < r - (t : Int)) := by omega
          clear h3 rs3
          have hcase : (t < 256 ∧ ¬ 0 < r - (t : Int)) ∨ ¬ t < 256 := by omega
          rcases hcase with ⟨hc1, hc2⟩ | hc1
          all_goals
            go_wp2
            have k0 : ∀ w', Ext wr.drew w' → w'.cell? ⟨p, 0, none⟩ = some (.slice (some ⟨gs, 0, none⟩) D.safe.length cs) := fun w' hh => hh.cell c0
            have k1 : ∀ w', Ext wr.drew w' → w'.cell? ⟨p, 1, none⟩ = some (.slice (some ⟨gw, 0, none⟩) D.waits.length cw) := fun w' hh => hh.cell c1
            have k2 : ∀ w', Ext wr.drew w' → w'.cell? ⟨gw, j, none⟩ = some (.int .i64 a0) := fun w' hh => hh.cell hcw
            refine wp_region_order Ext [13] [(0,0),(1,0),(2,0),(3,0),(4,0),(5,0),(6,0),(7,0),(8,0),(9,0),(10,0),(11,0),(12,0),(13,2)] _ (by kernel_rfl) rfl Ext.refl Ext.trans (by kernel_rfl) (by simp only [pick, List.getElem?_toArray, List.getElem?_cons_zero, List.getElem?_cons_succ]; rfl) (fun c a d v w h => by cases d <;> exact h) ?_
            refine wpK_q (v := ?_) (a' := ?_) (by rfl) (fun w' hR => ?_) ?_ ?_
            rotate_left 2
            · go_simp; with_reducible rfl
            · simp only [Act.put, List.setIfInBounds_toArray, List.set_cons_zero, List.set_cons_succ]; rfl
            refine wpK_q (v := ?_) (a' := ?_) (by rfl) (fun w' hR => ?_) ?_ ?_
            rotate_left 2
            · go_simp; with_reducible rfl
            · simp only [Act.put, List.setIfInBounds_toArray, List.set_cons_zero, List.set_cons_succ]; rfl
            refine wpK_q (v := ?_) (a' := ?_) (by rfl) (fun w' hR => ?_) ?_ ?_
            rotate_left 2
            · go_simp; with_reducible rfl
            · simp only [Act.put, List.setIfInBounds_toArray, List.set_cons_zero, List.set_cons_succ]; rfl
            refine wpK_q (v := ?_) (a' := ?_) (by rfl) (fun w' hR => ?_) ?_ ?_
            rotate_left 2
            · go_simp; with_reducible rfl
            · simp only [Act.put, List.setIfInBounds_toArray, List.set_cons_zero, List.set_cons_succ]; rfl
            refine wpK_q (v := ?_) (a' := ?_) (by rfl) (fun w' hR => ?_) ?_ ?_
            rotate_left 2
            · go_simp; with_reducible rfl
            · simp only [Act.put, List.setIfInBounds_toArray, List.set_cons_zero, List.set_cons_succ]; rfl
            refine wpK_q (v := ?_) (a' := ?_) (by rfl) (fun w' hR => ?_) ?_ ?_
            rotate_left 2
            · go_simp; with_reducible rfl
            · simp only [Act.put, List.setIfInBounds_toArray, List.set_cons_zero, List.set_cons_succ]; rfl
            refine wpK_q (v := ?_) (a' := ?_) (by rfl) (fun w' hR => ?_) ?_ ?_
            rotate_left 2
            · go_simp; with_reducible rfl
            · simp only [Act.put, List.setIfInBounds_toArray, List.set_cons_zero, List.set_cons_succ]; rfl
            refine wpK_q (v := ?_) (a' := ?_) (by rfl) (fun w' hR => ?_) ?_ ?_
            rotate_left 2
            · go_simp; with_reducible rfl
            · simp only [Act.put, List.setIfInBounds_toArray, List.set_cons_zero, List.set_cons_succ]; rfl
            refine wpK_q (v := ?_) (a' := ?_) (by rfl) (fun w' hR => ?_) ?_ ?_
            rotate_left 2
            · go_simp; with_reducible rfl
            · simp only [Act.put, List.setIfInBounds_toArray, List.set_cons_zero, List.set_cons_succ]; rfl
            refine wpK_q (v := ?_) (a' := ?_) (by rfl) (fun w' hR => ?_) ?_ ?_
            rotate_left 2
            · go_simp; with_reducible rfl
            · simp only [Act.put, List.setIfInBounds_toArray, List.set_cons_zero, List.set_cons_succ]; rfl
            refine wpK_q (v := ?_) (a' := ?_) (by rfl) (fun w' hR => ?_) ?_ ?_
            rotate_left 2
            · go_simp; with_reducible rfl
            · simp only [Act.put, List.setIfInBounds_toArray, List.set_cons_zero, List.set_cons_succ]; rfl
            refine wpK_q (v := ?_) (a' := ?_) (by rfl) (fun w' hR => ?_) ?_ ?_
            rotate_left 2
            · go_simp; with_reducible rfl
            · simp only [Act.put, List.setIfInBounds_toArray, List.set_cons_zero, List.set_cons_succ]; rfl
            refine wpK_q (v := ?_) (a' := ?_) (by rfl) (fun w' hR => ?_) ?_ ?_
            rotate_left 2
            · go_simp; with_reducible rfl
            · simp only [Act.put, List.setIfInBounds_toArray, List.set_cons_zero, List.set_cons_succ]; rfl
            have hsrow := HRS.out
            obtain ⟨u0, hu0⟩ : ∃ u0, ss'[a0]? = some u0 := ⟨_, List.getElem?_eq_getElem (by have := hsrow.1; omega)⟩
            refine wpK_s (by rfl) rfl (exec_store rfl (vx := .pointer (some ⟨gs, a0, none⟩)) (vy := .slice (some ⟨g5, 0, none⟩) 256 c5) rfl rfl (run_store1 (by kernel_rfl) rfl rfl (own_cell (own_mod (w' := wr.drew) hsrow (fun _ _ => rfl)) hu0) (own_frozen (own_mod (w' := wr.drew) hsrow (fun _ _ => rfl)) a0))) (fun h => by cases h) ?_
            refine wpK_done ?_
            have hsee5 : Sees wr.drew (.slice (some ⟨g5, 0, none⟩) 256 c5) (blend q old t) := (own_sees (own_len H5.out (blend_len HQ.out HOL.out (by omega)).symm rfl)).drew
            have hI5 := (H3.out.keep (w' := wr.drew) (fun _ _ => rfl) (Nat.le_refl _)).setPage (a := a0) (b := g5) (by show a0 < (DS.lay D.safe k (D.waits.take j)).length; omega) (blend_len HQ.out HOL.out (by omega)) hsee5 rfl HNO.out (own_lt H5.out g5 rfl).2 hlay.symm
            have hM5 : Mod own w (wr.drew.setCell ⟨gs, a0, none⟩ (.slice (some ⟨g5, 0, none⟩) 256 c5)) := (HM3.out.trans (Mod.drew wr)).then (Mod.set (own := fun i => i = gs) rfl) (fun i hi e => by
              subst e
              rcases HN.out _ (H3.out.s1 _ rfl).1 with h1 | h1
              · exact h1
              · exact absurd hi (Nat.not_lt.2 h1))
            have HI5 := hid hI5
            have HM5 := hid hM5
            clear hI5 hM5 hsee5 hsrow hu0 k0 k1 k2 c0 c1 c2 frp hcw
            go_wp2
            go_roundw
            case rel =>
              have e1 : DS.lay D.safe k (D.waits.take (j + 1)) = (DS.lay D.safe k (D.waits.take j)).set a0 (blend q old t) := by
                rw [List.take_add_one, HX0.out, Option.toList_some, DS.lay_snoc, ← HR.out, ← hte]
                unfold DS.lay1 blend
                rw [List.getD_eq_getElem?_getD, HOLD.out]
                rfl
              refine ⟨j + 1, r - t, _, _, _, by omega, by go_num, by (have hti : (t : Int) = min (max r 0) 256 := by (unfold DS.part at hte; omega)); rw [hti], by omega, ?_, by rw [e1]; exact HI5, hid (fun b hb => ?_), HM5⟩
              · rw [List.take_add_one, HX0.out, Option.toList_some, DS.rest_snoc, ← HR.out, hte]
                exact hid rfl
              · rcases hb with hb | rfl
                · exact HN.out b hb
                · exact .inr HG5.out
            case measure => simp [intOf]; omega
    · have c3 := h.c3
      have c5 := h.c5
      clear h
      have hj2 : j = D.waits.length := by omega
      go_wp2
      ((try simp only [Exit.inBlock, Exit.then]); first | refine bodyPost_end (results_none rfl _ _ _) rfl ?_ | refine bodyPost_ret (results_none rfl _ _ _) rfl ?_)
      have h := HI.out
      have hs : DS.lay D.safe k (D.waits.take j) = DS.lay D.safe k D.waits := by rw [hj2, List.take_length]
      rw [hs] at h
      have r1 := heap_setCell_same wr p 1 _ _ (.slice none 0 0) h.hp
      have r2 := heap_setCell_same _ p 2 _ _ (.slice none 0 0) r1
      have r3 := heap_setCell_same _ p 3 _ _ (.bool false) r2
      have r4 := heap_setCell_same _ p 5 _ _ (I 0) r3
      have hother : ∀ i, i ≠ p → ((((wr.setCell ⟨p, 1, none⟩ (.slice none 0 0)).setCell ⟨p, 2, none⟩ (.slice none 0 0)).setCell ⟨p, 3, none⟩ (.bool false)).setCell ⟨p, 5, none⟩ (I 0)).heap[i]? = wr.heap[i]? := fun i hi => by
        rw [heap_setCell_other _ ⟨p, 5, none⟩ i _ hi, heap_setCell_other _ ⟨p, 3, none⟩ i _ hi, heap_setCell_other _ ⟨p, 2, none⟩ i _ hi, heap_setCell_other _ ⟨p, 1, none⟩ i _ hi]
      refine ⟨rfl, own', ⟨_, .slice none 0 0, .slice none 0 0, ss', [], pb', ⟨⟨h.ok.n1, h.ok.n2, h.ok.page, by simp, h.ok.ops, by simp, h.ok.keep⟩, h.op, h.pp, h.pown, fun i hi => ?_, fun i hi => (by cases hi), fun i hi => (by cases hi), fun i hi => by simpa using h.lt i hi, r4, own_mod h.hs (fun i hi => hother i (h.s1 i hi).2.1), World.ownsRow_nil _ _ _ _, World.ownsRow_nil _ _ _ _, h.ps.keep (fun i hi => hother i (fun e => h.pp (e ▸ hi))), Pages.nil _ _⟩⟩, HN.out, ?_⟩
      · obtain ⟨a1, a2, a3, -, -⟩ := h.s1 i hi
        exact ⟨a1, a2, a3, (by intro e; cases e), (by intro e; cases e)⟩
      · have hst : ∀ (u : World) (o : Nat) (v : Value), Mod own' u (u.setCell ⟨p, o, none⟩ v) := fun u o v => Mod.set h.op
        refine HM.out.then ((((hst _ _ _).trans (hst _ _ _)).trans (hst _ _ _)).trans (hst _ _ _)) (fun i hi e => ?_)
        rcases HN.out i e with h1 | h1
        · exact h1
        · exact absurd hi (Nat.not_lt.2 h1)
end Go.Proofs.Ytoaeapnkefjpaaa
