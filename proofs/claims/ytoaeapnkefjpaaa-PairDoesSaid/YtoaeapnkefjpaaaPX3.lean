/-
  Part 3 of what PairDoes lean on: contracts of the functions that they reach, and plain lemmas. Conditions: those that each lemma names.
-/
import Derived.Deep.Cut
import Derived.Deep.DeepMust
import Derived.OwnWalk
import Derived.Laws.CopyRow
import Derived.Laws.BitsAllLaws
import Derived.Test.YtoaeapnkefjpaaaPX2
import Derived.Test.YtoaeapnkefjpaaaPX1
namespace Go.Proofs.Ytoaeapnkefjpaaa
open Go.RowKit
set_option linter.unusedVariables false
set_option linter.unusedSimpArgs false

theorem hq99 {ops : Array Oper} {R : Ending → World → Prop} (hck : (ops.all fun o => o.dst.all fun d => ![4].contains d) = true) (i : Nat) (oi : Oper) (hi : ops[i]? = some oi) (c : List PanicEntry) (a : Act) (v : Value) (w : World) (h : bodyPostD Try.prog Try.f99 R (.panic c) (Act.put a oi.dst v) w) : bodyPostD Try.prog Try.f99 R (.panic c) a w :=
  door_ops [4] res99 hck i oi hi c a v w h
/-- What do comes to. -/
def Done (w0 : World) (t p n : Nat) (own0 : Nat → Prop) (X : Int × DS × TS) (e : Ending) (w' : World) : Prop :=
  e = .returned (I X.1) ∧ TapeIn w' t p n X.2.2 ∧ ∃ own', DrumAt w' p own' X.2.1 ∧ (∀ k, own' k → own0 k ∨ w0.heap.size ≤ k) ∧ Mod (fun k => own0 k ∨ k = t) w0 w'
/-- Within do. -/
structure DoAt (w0 : World) (t p n : Nat) (own0 : Nat → Prop) (T : TS) (D : DS) (u : Value) (W : World) : Prop where
  h2 : W.heap[w0.heap.size]? = some (.cells #[.pointer (some ⟨t, 0, none⟩)] 86 (0, 0))
  h4 : W.heap[w0.heap.size + 1]? = some (.cells #[u] 46 (0, 0))
  tape : TapeIn W t p n T
  drum : ∃ own, DrumAt W p own D ∧ ∀ k, own k → own0 k ∨ w0.heap.size + 2 ≤ k
  mod : Mod own0 w0 W
  lt0 : ∀ k, own0 k → k < w0.heap.size
  tl : t < w0.heap.size
  nt : ¬ own0 t
section
variable {w0 : World} {t p n : Nat} {own0 : Nat → Prop} {T : TS} {D D' : DS} {u : Value} {W W' : World}
theorem DoAt.size (h : DoAt w0 t p n own0 T D u W) : w0.heap.size + 2 ≤ W.heap.size := (Array.getElem?_eq_some_iff.1 h.h4).1
theorem DoAt.on (h : DoAt w0 t p n own0 T D u W) (hb : Below W.heap.size W W') : DoAt w0 t p n own0 T D u W' := by
  obtain ⟨own, h1, h2⟩ := h.drum
  have hz := h.size
  exact ⟨(hb.block _ (by omega)).trans h.h2, (hb.block _ (by omega)).trans h.h4, h.tape.below hb, ⟨own, h1.below hb, h2⟩, h.mod.trans (Mod.of_below _ hb), h.lt0, h.tl, h.nt⟩
theorem DoAt.step (h : DoAt w0 t p n own0 T D u W) {own : Nat → Prop} (hs : ∀ k, own k → own0 k ∨ w0.heap.size + 2 ≤ k) (hd : Drummed' own p W D' W') : DoAt w0 t p n own0 T D' u W' := by
  obtain ⟨own', h1, h2, h3⟩ := hd
  have hz := h.size
  have nb : ∀ k, k < w0.heap.size + 2 → ¬ own0 k → ¬ own k := fun k hk h0 ho => (hs k ho).elim h0 (fun h' => by omega)
  have n0 : ∀ k, w0.heap.size ≤ k → ¬ own0 k := fun k hk h' => by have := h.lt0 k h'; omega
  have htl := h.tl
  refine ⟨(h3.block _ (by omega) (nb _ (by omega) (n0 _ (by omega)))).trans h.h2, (h3.block _ (by omega) (nb _ (by omega) (n0 _ (by omega)))).trans h.h4, h.tape.mod h3 (nb _ (by omega) h.nt), ⟨own', h1, fun k hk => ?_⟩, h.mod.then h3 (fun k hk ho => ?_), h.lt0, h.tl, h.nt⟩
  · rcases h2 k hk with h' | h'
    · exact hs k h'
    · exact .inr (by omega)
  · rcases hs k ho with h' | h'
    · exact h'
    · omega
theorem DoAt.put4 (h : DoAt w0 t p n own0 T D u W) (v : Value) : DoAt w0 t p n own0 T D v (W.setCell ⟨w0.heap.size + 1, 0, none⟩ v) := by
  have htl := h.tl
  have e : ∀ k, k ≠ w0.heap.size + 1 → (W.setCell ⟨w0.heap.size + 1, 0, none⟩ v).heap[k]? = W.heap[k]? := fun k hk => heap_setCell_other W ⟨w0.heap.size + 1, 0, none⟩ k v hk
  obtain ⟨own, h1, h2⟩ := h.drum
  refine ⟨(e _ (by omega)).trans h.h2, set_one h.h4 rfl v, h.tape.keep (e _ (by omega)), ⟨own, h1.keep (fun k hk => e k (fun e => ?_)) (by simp), h2⟩, h.mod.then (Mod.set (own := fun k => k = w0.heap.size + 1) rfl) (fun k hk e => by omega), h.lt0, h.tl, h.nt⟩
  rcases h2 k hk with h' | h'
  · have := h.lt0 k h'; omega
  · omega
theorem DoAt.c2 (h : DoAt w0 t p n own0 T D u W) : W.cell? ⟨w0.heap.size, 0, none⟩ = some (.pointer (some ⟨t, 0, none⟩)) := by rw [cell_of_row _ _ _ _ _ _ h.h2]; rfl
theorem DoAt.c4 (h : DoAt w0 t p n own0 T D u W) : W.cell? ⟨w0.heap.size + 1, 0, none⟩ = some u := by rw [cell_of_row _ _ _ _ _ _ h.h4]; rfl
/-- Given up. -/
theorem DoAt.gave (h : DoAt w0 t p n own0 T D u W) {c : Int} (hc : -9223372036854775808 ≤ c ∧ c ≤ 9223372036854775807) {X : Int × DS × TS} (hX : X = (c, D, { T with sick := c })) {tmps : Array Value} (h4 : tmps[4]?.getD undef = .pointer (some ⟨w0.heap.size + 1, 0, none⟩)) :
    bodyPostD Try.prog Try.f99 (Done w0 t p n own0 X) (Exit.panic (gaveUp c)) { tmps := tmps, defers := [{ target := .fn (.func 110) #[.pointer (some ⟨w0.heap.size + 1, 0, none⟩), .pointer (some ⟨w0.heap.size, 0, none⟩)], args := #[] }] } W := by
  have htl := h.tl
  refine door2_gave h4 h.h4 h.h2 h.tape rfl (by omega) (by omega) (by omega) hc (fun w' ht hm => ?_)
  obtain ⟨own, h1, h2⟩ := h.drum
  subst hX
  refine ⟨rfl, ht, own, h1.mod hm (fun k hk e => ?_), fun k hk => (h2 k hk).imp id (fun e => by omega), (h.mod.mono (fun k _ e => .inl e)).then hm (fun k hk e => ?_)⟩
  · rcases h2 k hk with h' | h'
    · rcases e with rfl | rfl
      · have := h.lt0 _ h'; omega
      · exact h.nt h'
    · omega
  · rcases e with e | e
    · omega
    · exact .inr e
/-- Done. -/
theorem DoAt.fin (h : DoAt w0 t p n own0 T D (I 0) W) {X : Int × DS × TS} (T' : TS) (ht : TapeIn W' t p n T') (hm : Mod (fun k => k = t) W W') (hX : X = (0, D, T')) {tmps : Array Value} (h4 : tmps[4]?.getD undef = .pointer (some ⟨w0.heap.size + 1, 0, none⟩)) :
    bodyPostD Try.prog Try.f99 (Done w0 t p n own0 X) Exit.ret { tmps := tmps, defers := [{ target := .fn (.func 110) #[.pointer (some ⟨w0.heap.size + 1, 0, none⟩), .pointer (some ⟨w0.heap.size, 0, none⟩)], args := #[] }] } W' := by
  have htl := h.tl
  refine door2_ret h4 (u1 := I 0) (hm.cell h.c4 (show ¬ (w0.heap.size + 1 = t) by omega)) ?_
  obtain ⟨own, h1, h2⟩ := h.drum
  subst hX
  refine ⟨rfl, ht, own, h1.mod hm (fun k hk e => ?_), fun k hk => (h2 k hk).imp id (fun e => by omega), (h.mod.mono (fun k _ e => .inl e)).then hm (fun k hk e => .inr e)⟩
  rcases h2 k hk with h' | h'
  · exact h.nt (e ▸ h')
  · omega
end
theorem own_born (w : World) (e : TypeId) (x : Value) : (w.alloc (.cells #[x] e)).ownsRow w.heap.size e 1 (.slice (some ⟨w.heap.size, 0, none⟩) 1 1) 1 [x] :=
  ⟨by simp, .inr ⟨w.heap.size, 1, #[x], rfl, Nat.le_refl _, heap_alloc_new _ _, Nat.le_refl _, by decide, rfl, rfl⟩⟩
set_option maxRecDepth 100000 in
set_option maxHeartbeats 1600000 in
theorem tdo_any (w : World) (t p : Nat) (own : Nat → Prop) (T : TS) (D : DS) (v : Value) (r : List UInt8) (h : TapeIn w t p D.safe.length T) (hd : DrumAt w p own D) (ht : ¬ own t) (hv : Sees w v r) (hr : r.length ≤ 65536) (hs : T.pos + 12 + r.length ≤ T.size) (hN : D.waits.length ≤ 800000000) :
    Calls Try.prog 99 #[.pointer (some ⟨t, 0, none⟩), v] w (Done w t p D.safe.length own (TS.doIt D T r)) := by
  obtain ⟨b1, b2, b3, b4, b5, b6, b7⟩ := h.bd
  obtain ⟨av, cv, rfl, hrl⟩ := hv.form0
  obtain ⟨wA, hwA⟩ : ∃ wA, wA = (w.alloc (.cells #[.pointer (some ⟨t, 0, none⟩)] 86)).alloc (.cells #[.int .i64 0] 46) := ⟨_, rfl⟩
  have hBA : Below w.heap.size w wA := by rw [hwA]; exact ((Below.refl _ _).alloc (Nat.le_refl _) _).alloc (by simp) _
  have hA : DoAt w t p D.safe.length own T D (I 0) wA := ⟨by rw [hwA]; exact (Below.heap_alloc _ _ _ (by simp)).trans (heap_alloc_new _ _), by rw [hwA]; exact heap_alloc_at (by simp), h.below hBA, ⟨own, hd.below hBA, fun k hk => .inl hk⟩, Mod.of_below own hBA, hd.lt, h.lt, ht⟩
  have hvA := hv.below hBA
  have HA := hid hA
  have HV := hid hvA
  have HX : Hid (w.heap.size ≤ wA.heap.size ∧ D.Ok) := hid ⟨hBA.size, hd.ok⟩
  have HWA := hid hwA
  have HDA := hid (hd.below hBA)
  have hmf := closes
  obtain ⟨Z, hZ⟩ : ∃ Z, Z = TS.doIt D T r := ⟨_, rfl⟩
  have hbl := TS.body_len T r
  have hX1l := TS.layR_len D T T.pos (TS.body T r)
  have hX1c := TS.layR_code D T T.pos (TS.body T r)
  have hX1w := TS.layR_waits D T T.pos (TS.body T r) (by omega)
  have hZ2 := hZ.trans (TS.doIt_eq D T r)
  simp only at hZ2
  rw [← hZ]
  have HZ := hid hZ2
  have HX1 := hid (And.intro hX1l (And.intro hX1c hX1w))
  have HBL := hid hbl
  clear hZ hZ2 hX1l hX1c hX1w hbl
  clear h hd ht hv hA hvA hBA hwA b7
  go_enter_defers Try.func99, Try.ntmps99
  go_upto_region 2 with (fail)
  rw [← HWA.out]
  clear HWA
  have hbB : Below wA.heap.size wA (wA.alloc (.cells #[.int .u8 0] 5)) := (Below.refl wA.heap.size wA).alloc (Nat.le_refl _) _
  have hB := HA.out.on hbB
  have c2B := hB.c2
  have c4B := hB.tape.c4
  have HVB := hid (HV.out.below hbB)
  have HO0 := hid (own_born wA 5 (.int .u8 0))
  have HBB := hid hbB
  clear hB hbB
  go_wp2_with fail
  generalize wA.alloc (.cells #[.int .u8 0] 5) = wB at *
  refine (framed_of wB T.count (by omega) _ r HVB.out hr).mono ?_
  rintro e w1 ⟨v1, rfl, ho1, hb1⟩
  rw [TS.framed_len] at ho1
  obtain ⟨av1, cv1, rfl⟩ := own_form ho1
  have HS1 := hid (own_sees' ho1 (TS.framed_len T.count r))
  have HV1 := hid (HVB.out.below hb1)
  have HO1 := hid (own_below HO0.out hb1)
  have HB1 := hid (Ext.trans _ _ _ HBB.out hb1)
  clear ho1 hb1 c2B c4B HVB HO0 HBB
  have hs1 : wA.heap.size ≤ w1.heap.size := HB1.out.size
  go_wp2_with (at_builtin; refine wpList_app rfl (.tmp 8) (.tmp 14) 23 rfl wA.heap.size 5 (.int .u8 0) 1 1 Try.underlying23 info5 rfl (by decide) 1 [.int .u8 0] 11 ((TS.framed T.count r).map B) HO1.out ?src ?h63 ?hb hs1 ?_)
  case src => have := HS1.out.src; rw [TS.framed_len] at this; exact this
  case h63 => decide
  case hb => omega
  intro v2 w2 hown hgrow hat
  obtain ⟨av2, cv2, rfl⟩ := own_form hown
  have HO2 := hid hown
  have HB2 := hid (HB1.out.grown hgrow hs1 (fun k hk => by have := (own_lt HO1.out k hk).1; omega))
  have HV2 := hid (HV.out.below HB2.out)
  clear hown hgrow hat HO1 HB1 HV1 HS1
  have hs2 : wA.heap.size ≤ w2.heap.size := HB2.out.size
  go_wp2_with (at_builtin; refine wpList_app rfl (.tmp 15) (.tmp 16) 23 rfl wA.heap.size 5 (.int .u8 0) 1 1 Try.underlying23 info5 rfl (by decide) 12 (.int .u8 0 :: (TS.framed T.count r).map B) r.length (r.map B) HO2.out ?src ?h63 ?hb hs2 ?_)
  case src => exact HV2.out.src
  case h63 => unfold maxLen; omega
  case hb => omega
  intro v3 w3 hown hgrow hat
  obtain ⟨av3, cv3, rfl⟩ := own_form hown
  have HO3 := hid hown
  have HB3 := hid (HB2.out.grown hgrow hs2 (fun k hk => by have := (own_lt HO2.out k hk).1; omega))
  clear hown hgrow hat HO2 HB2 HV2
  have hs3 : wA.heap.size ≤ w3.heap.size := HB3.out.size
  have hA3 := HA.out.on HB3.out
  have HA3 := hid hA3
  have k2 : ∀ w', Ext w3.drew w' → w'.cell? ⟨w.heap.size, 0, none⟩ = some (.pointer (some ⟨t, 0, none⟩)) := fun w' hh => (hA3.on (Ext.trans _ _ _ (Ext.drew w3) hh)).c2
  have k3 : ∀ w', Ext w3.drew w' → w'.cell? ⟨t, 3, none⟩ = some (I T.pos) := fun w' hh => (hA3.on (Ext.trans _ _ _ (Ext.drew w3) hh)).tape.c3
  have hw1 : IntKind.i64.wrap ((T.pos : Int) + (12 + (r.length : Int))) = (T.pos : Int) + (12 + (r.length : Int)) := IntWalk.i64_in _ (by omega)
  clear hA3
  go_upto_region 3 with (fail)
  refine wp_region_order' Ext [] [(0,0),(1,0),(2,0),(3,0),(4,0),(5,0),(6,0),(7,0),(8,1),(9,0)] _ (by kernel_rfl) rfl Ext.refl Ext.trans (by kernel_rfl) (by simp only [pick, List.getElem?_toArray, List.getElem?_cons_zero, List.getElem?_cons_succ]; rfl) (fun i oi hi c a v w h => hq99 (by kernel_rfl) i oi hi c a v w h) ?_
  refine wpK_q (v := ?_) (a' := ?_) (by rfl) (fun w' hR => ?_) ?_ ?_
  rotate_left 2
  · go_simp; with_reducible rfl
  · simp only [Act.put, List.setIfInBounds_toArray, List.set_cons_zero, List.set_cons_succ]; rfl
  refine wpK_q (v := ?_) (a' := ?_) (by rfl) (fun w' hR => ?_) ?_ ?_
  rotate_left 2
  · go_simp; with_reducible rfl
  · simp only [Act.put, List.setIfInBounds_toArray, List.set_cons_zero, List.set_cons_succ]; rfl
  refine wpK_q (v := ?_) (a' := ?_) (by rfl) (fun w' hR => ?_) ?_ ?_
  rotate_left 2
  · go_simp; with_reducible rfl
  · simp only [Act.put, List.setIfInBounds_toArray, List.set_cons_zero, List.set_cons_succ]; rfl
  refine wpK_q (v := ?_) (a' := ?_) (by rfl) (fun w' hR => ?_) ?_ ?_
  rotate_left 2
  · go_simp; with_reducible rfl
  · simp only [Act.put, List.setIfInBounds_toArray, List.set_cons_zero, List.set_cons_succ]; rfl
  refine wpK_q (v := ?_) (a' := ?_) (by rfl) (fun w' hR => ?_) ?_ ?_
  rotate_left 2
  · go_simp; with_reducible rfl
  · simp only [Act.put, List.setIfInBounds_toArray, List.set_cons_zero, List.set_cons_succ]; rfl
  refine wpK_q (v := ?_) (a' := ?_) (by rfl) (fun w' hR => ?_) ?_ ?_
  rotate_left 2
  · go_simp; with_reducible rfl
  · simp only [Act.put, List.setIfInBounds_toArray, List.set_cons_zero, List.set_cons_succ]; rfl
  refine wpK_q (v := ?_) (a' := ?_) (by rfl) (fun w' hR => ?_) ?_ ?_
  rotate_left 2
  · go_simp; with_reducible rfl
  · simp only [Act.put, List.setIfInBounds_toArray, List.set_cons_zero, List.set_cons_succ]; rfl
  refine wpK_q (v := ?_) (a' := ?_) (by rfl) (fun w' hR => ?_) ?_ ?_
  rotate_left 2
  · go_simp; with_reducible rfl
  · simp only [Act.put, List.setIfInBounds_toArray, List.set_cons_zero, List.set_cons_succ]; rfl
  refine wpK_call Try.func98 (by kernel_rfl) rfl rfl (by rfl) #[.pointer (some ⟨t, 0, none⟩)] (by simp only [List.map_toArray, List.map_cons, List.map_nil]; rfl) ?_
  refine (size_any _ t p _ T (HA3.out.tape.below (Ext.drew w3))).mono ?_
  rintro e w4 ⟨rfl, m4, rfl⟩
  refine ⟨_, rfl, fun _ => below_drewN _ m4, ?_⟩
  have HB4 := hid (show Below wA.heap.size wA (w3.drew.drewN m4) from Ext.trans _ _ _ HB3.out (Ext.trans _ _ _ (Ext.drew w3) (below_drewN _ m4)))
  have HO4 := hid (show (w3.drew.drewN m4).ownsRow wA.heap.size 5 1 (.slice av3 (12 + r.length) cv3) (12 + r.length) (.int .u8 0 :: (TS.framed T.count r).map B ++ r.map B) from HO3.out)
  generalize w3.drew.drewN m4 = w4 at *
  clear HO3 HB3 HA3 k2 k3 hs3
  have hs4 : wA.heap.size ≤ w4.heap.size := HB4.out.size
  by_cases hlt : T.pos + (12 + r.length) < T.size
  focus
    have hlt' : decide ((T.pos : Int) + (12 + (r.length : Int)) < (T.size : Int)) = true := decide_eq_true (by omega)
    refine wpK_q (v := ?_) (a' := ?_) (by rfl) (fun w' hR => ?_) ?_ ?_
    rotate_left 2
    · go_simp; with_reducible rfl
    · simp only [Act.put, List.setIfInBounds_toArray, List.set_cons_zero, List.set_cons_succ]; rfl
    refine wpK_done ?_
    go_wp2_with (at_builtin; refine wpList_app rfl (.tmp 28) (.tmp 29) 23 rfl wA.heap.size 5 (.int .u8 0) 1 1 Try.underlying23 info5 rfl (by decide) (12 + r.length) (.int .u8 0 :: (TS.framed T.count r).map B ++ r.map B) 1 [.int .u8 0] (HO4.out.alloc _) (Src.new w4 1 5 [.int .u8 0] rfl (fun u hu => by obtain rfl := List.mem_singleton.1 hu; rfl)) ?h63 ?hb ?hs ?_)
    case h63 => unfold maxLen; omega
    case hb => omega
    case hs => simp; omega
    intro v5 w5 hown hgrow hat
    obtain ⟨av5, cv5, rfl⟩ := own_form hown
    have HS5 : Hid (Sees w5 (.slice av5 (12 + r.length + 1) cv5) (TS.body T r)) := hid (own_sees' (own_len hown rfl (by
      unfold TS.body
      rw [if_pos hlt]
      simp)) (by rw [TS.body_len' T r, if_pos hlt]))
    have HB5 := hid ((HB4.out.trans ((Below.refl wA.heap.size w4).alloc hs4 _)).grown hgrow (by simp; omega) (fun k hk => by have := (own_lt HO4.out k hk).1; omega))
    have HN5 := hid (fun k hk => (own_lt hown k hk).1)
    clear hown hgrow hat HO4 HB4 hlt' hlt
    go_wp2_with fail
    generalize Value.slice av5 (12 + r.length + 1) cv5 = vb at *
  rotate_left
  focus
    have hlt' : decide ((T.pos : Int) + (12 + (r.length : Int)) < (T.size : Int)) = false := decide_eq_false (by omega)
    refine wpK_q (v := ?_) (a' := ?_) (by rfl) (fun w' hR => ?_) ?_ ?_
    rotate_left 2
    · go_simp; with_reducible rfl
    · simp only [Act.put, List.setIfInBounds_toArray, List.set_cons_zero, List.set_cons_succ]; rfl
    refine wpK_done ?_
    have HS5 : Hid (Sees w4 (.slice av3 (12 + r.length) cv3) (TS.body T r)) := hid (own_sees' (own_len HO4.out rfl (by
      unfold TS.body
      rw [if_neg hlt]
      simp)) (by rw [TS.body_len' T r, if_neg hlt]))
    have HN5 := hid (fun k hk => (own_lt HO4.out k hk).1)
    have HB5 := hid HB4.out
    clear HO4 HB4 hlt' hlt
    go_wp2_with fail
    generalize Value.slice av3 (12 + r.length) cv3 = vb at *
    generalize w4 = w5 at *
  rotate_left
  all_goals
    clear hw1
    have hA5 := HA.out.on (Ext.trans _ _ _ HB5.out (Ext.drew w5))
    have hd5 := HDA.out.below (Ext.trans _ _ _ HB5.out (Ext.drew w5))
    have hlay := tlay_all w5.drew t p own T D T.pos vb (TS.body T r) hA5.tape hd5 hA5.nt (by omega) HS5.out.drew (fun k hk ho => by have h1 := HN5.out k hk; have h2 := hA5.lt0 k ho; have h3 := HX.out.1; omega) HBL.out.1 (by have := HBL.out.2; omega) (by omega)
    have HA5 := hid hA5
    have k2 : ∀ w', Ext w5.drew w' → w'.cell? ⟨w.heap.size, 0, none⟩ = some (.pointer (some ⟨t, 0, none⟩)) := fun w' hh => (HA5.out.on hh).c2
    have k3 : ∀ w', Ext w5.drew w' → w'.cell? ⟨t, 3, none⟩ = some (I T.pos) := fun w' hh => (HA5.out.on hh).tape.c3
    generalize TS.layR D T T.pos (TS.body T r) = X1 at *
    obtain ⟨e1, D1⟩ := X1
    have HLAY := hid hlay
    clear hA5 hd5 hlay
    clear HB5 HS5 HN5 hs4 HA HDA HV
    by_cases h1 : e1 = 0
    rotate_left
    · skip
      refine wp_region_order' Ext [6] [(0,0),(1,0),(2,0),(3,0),(4,0),(5,0),(6,2)] _ (by kernel_rfl) rfl Ext.refl Ext.trans (by kernel_rfl) (by simp only [pick, List.getElem?_toArray, List.getElem?_cons_zero, List.getElem?_cons_succ]; rfl) (fun i oi hi c a v w h => hq99 (by kernel_rfl) i oi hi c a v w h) ?_
      refine wpK_q (v := ?_) (a' := ?_) (by rfl) (fun w' hR => ?_) ?_ ?_
      rotate_left 2
      · go_simp; with_reducible rfl
      · simp only [Act.put, List.setIfInBounds_toArray, List.set_cons_zero, List.set_cons_succ]; rfl
      refine wpK_q (v := ?_) (a' := ?_) (by rfl) (fun w' hR => ?_) ?_ ?_
      rotate_left 2
      · go_simp; with_reducible rfl
      · simp only [Act.put, List.setIfInBounds_toArray, List.set_cons_zero, List.set_cons_succ]; rfl
      refine wpK_q (v := ?_) (a' := ?_) (by rfl) (fun w' hR => ?_) ?_ ?_
      rotate_left 2
      · go_simp; with_reducible rfl
      · simp only [Act.put, List.setIfInBounds_toArray, List.set_cons_zero, List.set_cons_succ]; rfl
      refine wpK_q (v := ?_) (a' := ?_) (by rfl) (fun w' hR => ?_) ?_ ?_
      rotate_left 2
      · go_simp; with_reducible rfl
      · simp only [Act.put, List.setIfInBounds_toArray, List.set_cons_zero, List.set_cons_succ]; rfl
      refine wpK_q (v := ?_) (a' := ?_) (by rfl) (fun w' hR => ?_) ?_ ?_
      rotate_left 2
      · go_simp; with_reducible rfl
      · simp only [Act.put, List.setIfInBounds_toArray, List.set_cons_zero, List.set_cons_succ]; rfl
      refine wpK_q (v := ?_) (a' := ?_) (by rfl) (fun w' hR => ?_) ?_ ?_
      rotate_left 2
      · go_simp; with_reducible rfl
      · simp only [Act.put, List.setIfInBounds_toArray, List.set_cons_zero, List.set_cons_succ]; rfl
      refine wpK_callp Try.func111 (by kernel_rfl) rfl rfl (by rfl) #[.pointer (some ⟨t, 0, none⟩), I T.pos, vb] (by simp only [List.map_toArray, List.map_cons, List.map_nil]; rfl) ?_
      refine HLAY.out.mono ?_
      rintro e w6 ⟨rfl, hd6⟩
      refine ⟨gaveUp e1, (endOr_no (by simpa using h1) _).symm, ?_⟩
      refine (HA5.out.step (fun k hk => .inl hk) hd6).gave HX1.out.2.1.bd ?_ rfl
      rw [HZ.out, if_pos h1]
    subst h1
    refine wp_region_order' Ext [6] [(0,0),(1,0),(2,0),(3,0),(4,0),(5,0),(6,2)] _ (by kernel_rfl) rfl Ext.refl Ext.trans (by kernel_rfl) (by simp only [pick, List.getElem?_toArray, List.getElem?_cons_zero, List.getElem?_cons_succ]; rfl) (fun i oi hi c a v w h => hq99 (by kernel_rfl) i oi hi c a v w h) ?_
    refine wpK_q (v := ?_) (a' := ?_) (by rfl) (fun w' hR => ?_) ?_ ?_
    rotate_left 2
    · go_simp; with_reducible rfl
    · simp only [Act.put, List.setIfInBounds_toArray, List.set_cons_zero, List.set_cons_succ]; rfl
    refine wpK_q (v := ?_) (a' := ?_) (by rfl) (fun w' hR => ?_) ?_ ?_
    rotate_left 2
    · go_simp; with_reducible rfl
    · simp only [Act.put, List.setIfInBounds_toArray, List.set_cons_zero, List.set_cons_succ]; rfl
    refine wpK_q (v := ?_) (a' := ?_) (by rfl) (fun w' hR => ?_) ?_ ?_
    rotate_left 2
    · go_simp; with_reducible rfl
    · simp only [Act.put, List.setIfInBounds_toArray, List.set_cons_zero, List.set_cons_succ]; rfl
    refine wpK_q (v := ?_) (a' := ?_) (by rfl) (fun w' hR => ?_) ?_ ?_
    rotate_left 2
    · go_simp; with_reducible rfl
    · simp only [Act.put, List.setIfInBounds_toArray, List.set_cons_zero, List.set_cons_succ]; rfl
    refine wpK_q (v := ?_) (a' := ?_) (by rfl) (fun w' hR => ?_) ?_ ?_
    rotate_left 2
    · go_simp; with_reducible rfl
    · simp only [Act.put, List.setIfInBounds_toArray, List.set_cons_zero, List.set_cons_succ]; rfl
    refine wpK_q (v := ?_) (a' := ?_) (by rfl) (fun w' hR => ?_) ?_ ?_
    rotate_left 2
    · go_simp; with_reducible rfl
    · simp only [Act.put, List.setIfInBounds_toArray, List.set_cons_zero, List.set_cons_succ]; rfl
    refine wpK_call Try.func111 (by kernel_rfl) rfl rfl (by rfl) #[.pointer (some ⟨t, 0, none⟩), I T.pos, vb] (by simp only [List.map_toArray, List.map_cons, List.map_nil]; rfl) ?_
    refine HLAY.out.mono ?_
    rintro e w6 ⟨rfl, hd6⟩
    refine ⟨_, (endOr_ok _).symm, fun h => (by cases h), ?_⟩
    refine wpK_done ?_
    have hA6 := HA5.out.step (fun k hk => .inl hk) hd6
    have hz := HZ.out
    simp only [ne_eq, not_true_eq_false, if_false] at hz
    obtain ⟨x1, -, x2⟩ := HX1.out
    simp only at x1 x2
    have y1 := DS.Flush_len D1
    have y2 := DS.Flush_waits D1
    have y3 := DS.Flush_code D1
    have y4 := DS.Flush_on (D := D1)
    have c2A := hA6.c2
    obtain ⟨own6, hd6', hs6⟩ := hA6.drum
    have hfl := tflush_any w6 t p D.safe.length own6 T D1 hA6.tape hd6'
    have HA6 := hid hA6
    have HS6 := hid hs6
    generalize D1.Flush = X2 at *
    obtain ⟨e2, D2⟩ := X2
    simp only at hz y1 y2 y3 y4 hfl
    have HZ2 := hid hz
    have Y1 := hid (y1.trans x1)
    have Y2 := hid (Nat.le_trans y2 x2)
    have Y3 := hid y3
    have Y4 := hid y4
    clear hd6 hA6 hz hs6 hd6' x1 x2 y1 y2 y3 y4 HLAY HZ HX1 HA5 k2 k3
    by_cases h2 : e2 = 0
    rotate_left
    · unfold endOr at hfl
      rw [if_neg h2] at hfl
      have HFL := hid hfl
      have H2 := hid h2
      clear hfl h2
      go_wp2_with (go_at_call 112; refine HFL.out.mono ?_; rintro e w7 ⟨rfl, hd7⟩)
      refine (HA6.out.step HS6.out hd7.more).gave Y3.out.bd ?_ rfl
      rw [HZ2.out, if_pos H2.out]
    subst h2
    unfold endOr at hfl
    rw [if_pos rfl] at hfl
    have HFL := hid hfl
    clear hfl
    go_wp2_with (go_at_call 112; refine HFL.out.mono ?_; rintro e w7 ⟨rfl, hd7⟩)
    have hA7 := HA6.out.step HS6.out hd7.more
    obtain ⟨own7, hd7', hs7⟩ := hA7.drum
    have k2 : ∀ w', Ext w7.drew w' → w'.cell? ⟨w.heap.size, 0, none⟩ = some (.pointer (some ⟨t, 0, none⟩)) := fun w' hh => (hA7.on (Ext.trans _ _ _ (Ext.drew w7) hh)).c2
    have k3 : ∀ w', Ext w7.drew w' → w'.cell? ⟨t, 3, none⟩ = some (I T.pos) := fun w' hh => (hA7.on (Ext.trans _ _ _ (Ext.drew w7) hh)).tape.c3
    have hby := bytes_on w7.drew t p own7 T D2 (by rw [Y1.out]; exact (hA7.on (Ext.drew w7)).tape) (hd7'.below (Ext.drew w7)) (Y4.out trivial) (T.pos / 256 * 256) 256 (by have : T.size = (T.hi - T.lo) * 256 := rfl; omega)
    have q1 : ((T.pos / 256 * 256 : Nat) : Int) = (T.pos : Int) / 256 * 256 := by omega
    rw [q1] at hby
    have HBY := hid hby
    have HA7 := hid hA7
    have HS7 := hid hs7
    have HD7 := hid hd7'
    have q2 : IntKind.i64.wrap ((T.pos : Int) / 256) = (T.pos : Int) / 256 := IntWalk.i64_in _ (by omega)
    have q3 : IntKind.i64.wrap ((T.pos : Int) / 256 * 256) = (T.pos : Int) / 256 * 256 := IntWalk.i64_in _ (by omega)
    clear hd7 hd7' hA7 hs7 hby HFL HA6 HS6 q1
    refine wp_region_order' Ext [] [(0,0),(1,0),(2,0),(3,0),(4,0),(5,0),(6,0),(7,1),(8,0)] _ (by kernel_rfl) rfl Ext.refl Ext.trans (by kernel_rfl) (by simp only [pick, List.getElem?_toArray, List.getElem?_cons_zero, List.getElem?_cons_succ]; rfl) (fun i oi hi c a v w h => hq99 (by kernel_rfl) i oi hi c a v w h) ?_
    refine wpK_q (v := ?_) (a' := ?_) (by rfl) (fun w' hR => ?_) ?_ ?_
    rotate_left 2
    · go_simp; with_reducible rfl
    · simp only [Act.put, List.setIfInBounds_toArray, List.set_cons_zero, List.set_cons_succ]; rfl
    refine wpK_q (v := ?_) (a' := ?_) (by rfl) (fun w' hR => ?_) ?_ ?_
    rotate_left 2
    · go_simp; with_reducible rfl
    · simp only [Act.put, List.setIfInBounds_toArray, List.set_cons_zero, List.set_cons_succ]; rfl
    refine wpK_q (v := ?_) (a' := ?_) (by rfl) (fun w' hR => ?_) ?_ ?_
    rotate_left 2
    · go_simp; with_reducible rfl
    · simp only [Act.put, List.setIfInBounds_toArray, List.set_cons_zero, List.set_cons_succ]; rfl
    refine wpK_q (v := ?_) (a' := ?_) (by rfl) (fun w' hR => ?_) ?_ ?_
    rotate_left 2
    · go_simp; with_reducible rfl
    · simp only [Act.put, List.setIfInBounds_toArray, List.set_cons_zero, List.set_cons_succ]; rfl
    refine wpK_q (v := ?_) (a' := ?_) (by rfl) (fun w' hR => ?_) ?_ ?_
    rotate_left 2
    · go_simp; with_reducible rfl
    · simp only [Act.put, List.setIfInBounds_toArray, List.set_cons_zero, List.set_cons_succ]; rfl
    refine wpK_q (v := ?_) (a' := ?_) (by rfl) (fun w' hR => ?_) ?_ ?_
    rotate_left 2
    · go_simp; with_reducible rfl
    · simp only [Act.put, List.setIfInBounds_toArray, List.set_cons_zero, List.set_cons_succ]; rfl
    refine wpK_q (v := ?_) (a' := ?_) (by rfl) (fun w' hR => ?_) ?_ ?_
    rotate_left 2
    · go_simp; with_reducible rfl
    · simp only [Act.put, List.setIfInBounds_toArray, List.set_cons_zero, List.set_cons_succ]; rfl
    refine wpK_call Try.func106 (by kernel_rfl) rfl rfl (by rfl) #[.pointer (some ⟨t, 0, none⟩), .int .i64 ((T.pos : Int) / 256 * 256), I 256] (by simp only [List.map_toArray, List.map_cons, List.map_nil]; rfl) ?_
    refine HBY.out.mono ?_
    rintro e w8 ⟨v8, rfl, ho8, hb8⟩
    refine ⟨_, rfl, fun _ => hb8, ?_⟩
    refine wpK_q (v := ?_) (a' := ?_) (by rfl) (fun w' hR => ?_) ?_ ?_
    rotate_left 2
    · go_simp; with_reducible rfl
    · simp only [Act.put, List.setIfInBounds_toArray, List.set_cons_zero, List.set_cons_succ]; rfl
    refine wpK_done ?_
    have hsz : T.size = (T.hi - T.lo) * 256 := rfl
    have hlen : (((TS.bytes D2 T).drop (T.pos / 256 * 256)).take 256) = DS.look D2.safe D2.waits (T.lo + T.pos / 256) := by
      have hok : D2.Ok := (HA7.out.drum.choose_spec).1.ok
      have := TS.stretch_piece hok (lo := T.lo) (n := T.hi - T.lo) (by rw [Y1.out]; omega) (a := T.pos / 256 * 256) (m := 256) (by have : T.size = (T.hi - T.lo) * 256 := rfl; omega) (by omega)
      unfold TS.bytes
      rw [this, Nat.mul_mod_left, List.drop_zero, Nat.mul_div_cancel _ (by decide)]
      exact List.take_of_length_le (Nat.le_of_eq (DS.look_len hok.page hok.wait (by rw [Y1.out]; omega)))
    have hll : (DS.look D2.safe D2.waits (T.lo + T.pos / 256)).length = 256 := by
      have hok : D2.Ok := (HA7.out.drum.choose_spec).1.ok
      exact DS.look_len hok.page hok.wait (by rw [Y1.out]; omega)
    rw [hlen, hll] at ho8
    obtain ⟨g8, cap8, rfl, g1, g2, g3, g4⟩ := own_slice ho8 (by decide)
    have hj : T.pos % 256 < 256 := Nat.mod_lt _ (by decide)
    have hju : ((T.pos : Int) % 256).toNat = T.pos % 256 := by omega
    have hj2 : (T.pos : Int) % 256 < 256 := by omega
    have hc8 : ∃ u, w8.cell? ⟨g8, T.pos % 256, none⟩ = some u := ⟨_, own_cell ho8 (i := T.pos % 256) (u := _) (List.getElem?_eq_getElem (by rw [List.length_map, hll]; exact hj))⟩
    obtain ⟨u8, hc8⟩ := hc8
    have hf8 := own_frozen ho8 (T.pos % 256)
    have hA8 := HA7.out.on (Ext.trans _ _ _ (Ext.drew w7) hb8)
    have k2 := hA8.c2
    have k3 := hA8.tape.c3
    clear hsz
    go_wp2
    have ho9 := own_set ho8 hj (.int .u8 1)
    have hs9 : Sees (w8.setCell ⟨g8, T.pos % 256, none⟩ (.int .u8 1)) (.slice (some ⟨g8, 0, none⟩) 256 cap8) (TS.marked D2 T) := own_sees' (own_len ho9 rfl (by unfold TS.marked; rw [List.map_set]; rfl)) (by unfold TS.marked; rw [List.length_set]; exact hll)
    have hb9 : Below w7.drew.heap.size w7.drew (w8.setCell ⟨g8, T.pos % 256, none⟩ (.int .u8 1)) := ⟨hb8.os, hb8.tape, hb8.output, by simpa using hb8.size, fun k hk => (heap_setCell_other w8 ⟨g8, T.pos % 256, none⟩ k _ (by simp only; omega)).trans (hb8.block k hk)⟩
    have HS9 := hid hs9
    have HB9 := hid hb9
    have HG8 := hid g3
    clear hb8 hb9 hs9 ho9 ho8 hlen hll hj hju hj2 hc8 hf8 hA8 k2 k3 g1 g2 g3 g4 HBY q2 q3
    generalize w8.setCell ⟨g8, T.pos % 256, none⟩ (.int .u8 1) = w9 at *
    have hA9 := HA7.out.on (Ext.trans _ _ _ (Ext.drew w7) (Ext.trans _ _ _ HB9.out (Ext.drew w9)))
    have hz7 : w7.drew.heap.size = w7.heap.size := rfl
    have hwr := write_any w9.drew p own7 D2 ((T.lo : Int) + (T.pos : Int) / 256) (.slice (some ⟨g8, 0, none⟩) 256 cap8) (TS.marked D2 T) (HD7.out.below (Ext.trans _ _ _ (Ext.drew w7) (Ext.trans _ _ _ HB9.out (Ext.drew w9)))) HS9.out.drew (by omega) (fun k hk ho => by have h1 := HD7.out.lt k ho; have h2 := HG8.out; have h3 : g8 = k := Option.some.inj hk; omega) (by have := Y2.out; omega)
    have hz := HZ2.out
    have qc : ((T.lo + T.pos / 256 : Nat) : Int) = (T.lo : Int) + (T.pos : Int) / 256 := by omega
    simp only [not_true_eq_false, if_false] at hz
    rw [qc] at hz
    have y1 := DS.write_len D2 ((T.lo : Int) + (T.pos : Int) / 256) (TS.marked D2 T)
    have y3 := DS.write_code D2 ((T.lo : Int) + (T.pos : Int) / 256) (TS.marked D2 T)
    generalize D2.write ((T.lo : Int) + (T.pos : Int) / 256) (TS.marked D2 T) = X3 at *
    obtain ⟨e3, D3⟩ := X3
    simp only at hz y1 y3 hwr
    have HZ3 := hid hz
    have HWR := hid hwr
    have Y5 := hid (y1.trans Y1.out)
    have Y6 := hid y3
    have HA9 := hid hA9
    have k2 : ∀ w', Ext w9.drew w' → w'.cell? ⟨w.heap.size, 0, none⟩ = some (.pointer (some ⟨t, 0, none⟩)) := fun w' hh => (HA9.out.on hh).c2
    have k0 : ∀ w', Ext w9.drew w' → w'.cell? ⟨t, 0, none⟩ = some (.pointer (some ⟨p, 0, none⟩)) := fun w' hh => (HA9.out.on hh).tape.c0
    have k1 : ∀ w', Ext w9.drew w' → w'.cell? ⟨t, 1, none⟩ = some (I T.lo) := fun w' hh => (HA9.out.on hh).tape.c1
    have k3 : ∀ w', Ext w9.drew w' → w'.cell? ⟨t, 3, none⟩ = some (I T.pos) := fun w' hh => (HA9.out.on hh).tape.c3
    have q2 : IntKind.i64.wrap ((T.pos : Int) / 256) = (T.pos : Int) / 256 := IntWalk.i64_in _ (by omega)
    have q3 : IntKind.i64.wrap ((T.lo : Int) + (T.pos : Int) / 256) = (T.lo : Int) + (T.pos : Int) / 256 := IntWalk.i64_in _ (by omega)
    clear hA9 hz7 hwr hz qc y1 y3 HZ2 HB9 HS9 HD7 HA7 Y3
    refine wp_region_order' Ext [15,16] [(0,0),(1,0),(2,0),(3,0),(4,0),(5,0),(6,0),(7,0),(8,0),(9,0),(10,0),(11,0),(12,0),(13,0),(14,0),(15,2),(16,2)] _ (by kernel_rfl) rfl Ext.refl Ext.trans (by kernel_rfl) (by simp only [pick, List.getElem?_toArray, List.getElem?_cons_zero, List.getElem?_cons_succ]; rfl) (fun i oi hi c a v w h => hq99 (by kernel_rfl) i oi hi c a v w h) ?_
    refine wpK_q (v := ?_) (a' := ?_) (by rfl) (fun w' hR => ?_) ?_ ?_
    rotate_left 2
    · go_simp; with_reducible rfl
    · simp only [Act.put, List.setIfInBounds_toArray, List.set_cons_zero, List.set_cons_succ]; rfl
    refine wpK_q (v := ?_) (a' := ?_) (by rfl) (fun w' hR => ?_) ?_ ?_
    rotate_left 2
    · go_simp; with_reducible rfl
    · simp only [Act.put, List.setIfInBounds_toArray, List.set_cons_zero, List.set_cons_succ]; rfl
    refine wpK_q (v := ?_) (a' := ?_) (by rfl) (fun w' hR => ?_) ?_ ?_
    rotate_left 2
    · go_simp; with_reducible rfl
    · simp only [Act.put, List.setIfInBounds_toArray, List.set_cons_zero, List.set_cons_succ]; rfl
    refine wpK_q (v := ?_) (a' := ?_) (by rfl) (fun w' hR => ?_) ?_ ?_
    rotate_left 2
    · go_simp; with_reducible rfl
    · simp only [Act.put, List.setIfInBounds_toArray, List.set_cons_zero, List.set_cons_succ]; rfl
    refine wpK_q (v := ?_) (a' := ?_) (by rfl) (fun w' hR => ?_) ?_ ?_
    rotate_left 2
    · go_simp; with_reducible rfl
    · simp only [Act.put, List.setIfInBounds_toArray, List.set_cons_zero, List.set_cons_succ]; rfl
    refine wpK_q (v := ?_) (a' := ?_) (by rfl) (fun w' hR => ?_) ?_ ?_
    rotate_left 2
    · go_simp; with_reducible rfl
    · simp only [Act.put, List.setIfInBounds_toArray, List.set_cons_zero, List.set_cons_succ]; rfl
    refine wpK_q (v := ?_) (a' := ?_) (by rfl) (fun w' hR => ?_) ?_ ?_
    rotate_left 2
    · go_simp; with_reducible rfl
    · simp only [Act.put, List.setIfInBounds_toArray, List.set_cons_zero, List.set_cons_succ]; rfl
    refine wpK_q (v := ?_) (a' := ?_) (by rfl) (fun w' hR => ?_) ?_ ?_
    rotate_left 2
    · go_simp; with_reducible rfl
    · simp only [Act.put, List.setIfInBounds_toArray, List.set_cons_zero, List.set_cons_succ]; rfl
    refine wpK_q (v := ?_) (a' := ?_) (by rfl) (fun w' hR => ?_) ?_ ?_
    rotate_left 2
    · go_simp; with_reducible rfl
    · simp only [Act.put, List.setIfInBounds_toArray, List.set_cons_zero, List.set_cons_succ]; rfl
    refine wpK_q (v := ?_) (a' := ?_) (by rfl) (fun w' hR => ?_) ?_ ?_
    rotate_left 2
    · go_simp; with_reducible rfl
    · simp only [Act.put, List.setIfInBounds_toArray, List.set_cons_zero, List.set_cons_succ]; rfl
    refine wpK_q (v := ?_) (a' := ?_) (by rfl) (fun w' hR => ?_) ?_ ?_
    rotate_left 2
    · go_simp; with_reducible rfl
    · simp only [Act.put, List.setIfInBounds_toArray, List.set_cons_zero, List.set_cons_succ]; rfl
    refine wpK_q (v := ?_) (a' := ?_) (by rfl) (fun w' hR => ?_) ?_ ?_
    rotate_left 2
    · go_simp; with_reducible rfl
    · simp only [Act.put, List.setIfInBounds_toArray, List.set_cons_zero, List.set_cons_succ]; rfl
    refine wpK_q (v := ?_) (a' := ?_) (by rfl) (fun w' hR => ?_) ?_ ?_
    rotate_left 2
    · go_simp; with_reducible rfl
    · simp only [Act.put, List.setIfInBounds_toArray, List.set_cons_zero, List.set_cons_succ]; rfl
    refine wpK_q (v := ?_) (a' := ?_) (by rfl) (fun w' hR => ?_) ?_ ?_
    rotate_left 2
    · go_simp; with_reducible rfl
    · simp only [Act.put, List.setIfInBounds_toArray, List.set_cons_zero, List.set_cons_succ]; rfl
    refine wpK_q (v := ?_) (a' := ?_) (by rfl) (fun w' hR => ?_) ?_ ?_
    rotate_left 2
    · go_simp; with_reducible rfl
    · simp only [Act.put, List.setIfInBounds_toArray, List.set_cons_zero, List.set_cons_succ]; rfl
    refine wpK_call Try.func50 (by kernel_rfl) rfl rfl (by rfl) #[.pointer (some ⟨p, 0, none⟩), .int .i64 ((T.lo : Int) + (T.pos : Int) / 256), .slice (some ⟨g8, 0, none⟩) 256 cap8] (by simp only [List.map_toArray, List.map_cons, List.map_nil]; rfl) ?_
    refine HWR.out.mono ?_
    rintro e w10 ⟨rfl, hd10⟩
    refine ⟨_, rfl, fun h => (by cases h), ?_⟩
    have hA10 := HA9.out.step HS7.out hd10
    refine wpK_s (by rfl) rfl (exec_store rfl (vx := .pointer (some ⟨w.heap.size + 1, 0, none⟩)) (vy := I e3) rfl rfl (run_store1 (u := I 0) (by kernel_rfl) rfl rfl hA10.c4 (frozen_row hA10.h4 0))) (fun h => by cases h) ?_
    refine wpK_done ?_
    have hA11 := hA10.put4 (I e3)
    generalize w10.setCell ⟨w.heap.size + 1, 0, none⟩ (I e3) = w11 at *
    have HA11 := hid hA11
    have k4 := hA11.c4
    have k5 := hA11.c2
    clear hA10 hA11 hd10 HWR HA9 HS7 k0 k1 k2 k3 q2 q3
    by_cases h3 : e3 = 0
    rotate_left
    · have H3 := hid h3
      have h3b : (e3 == 0) = false := by simpa using h3
      clear h3
      go_wp2_with (go_at_call 108; refine (unless_no _ _).mono ?_; rintro e w12 ⟨rfl, rfl⟩)
      refine HA11.out.gave Y6.out.bd ?_ rfl
      rw [HZ3.out, if_pos H3.out]
    subst h3
    have hz := HZ3.out
    simp only [not_true_eq_false, if_false] at hz
    have y2 := DS.Flush_code D3
    obtain ⟨own11, hd11, hs11⟩ := HA11.out.drum
    have hfl := tflush_any w11 t p D.safe.length own11 T D3 HA11.out.tape hd11
    have HS11 := hid hs11
    generalize D3.Flush = X4 at *
    obtain ⟨e4, D4⟩ := X4
    simp only at hz y2 hfl
    have HZ4 := hid hz
    have Y7 := hid y2
    clear hz y2 hd11 hs11 HZ3
    by_cases h4 : e4 = 0
    rotate_left
    · unfold endOr at hfl
      rw [if_neg h4] at hfl
      have HFL := hid hfl
      have H4 := hid h4
      clear hfl h4
      go_wp2_with (first | (go_at_call 108; refine (unless_ok _ _).mono ?_; rintro e w12 ⟨rfl, rfl⟩) | (go_at_call 112; refine HFL.out.mono ?_; rintro e w13 ⟨rfl, hd13⟩))
      refine (HA11.out.step HS11.out hd13.more).gave Y7.out.bd ?_ rfl
      rw [HZ4.out, if_pos H4.out]
    subst h4
    unfold endOr at hfl
    rw [if_pos rfl] at hfl
    have HFL := hid hfl
    clear hfl
    go_upto_region 12 with (first | (go_at_call 108; refine (unless_ok _ _).mono ?_; rintro e w12 ⟨rfl, rfl⟩) | (go_at_call 112; refine HFL.out.mono ?_; rintro e w13 ⟨rfl, hd13⟩))
    have hA13 := HA11.out.step HS11.out hd13.more
    have HA13 := hid hA13
    have c2 := hA13.c2
    have c4' := hA13.c4
    have ct3 := hA13.tape.c3
    have ct4 := hA13.tape.c4
    have ctf := hA13.tape.fr
    have cf4 := frozen_row hA13.h4 0
    have htl := hA13.tl
    have n1 : ¬ w.heap.size = t := by omega
    have n2 : ¬ w.heap.size + 1 = t := by omega
    have n3 : ¬ t = w.heap.size := by omega
    have n4 : ¬ t = w.heap.size + 1 := by omega
    have hw3 : IntKind.i64.wrap ((T.pos : Int) + (12 + (r.length : Int))) = (T.pos : Int) + (12 + (r.length : Int)) := IntWalk.i64_in _ (by omega)
    have hw4 : IntKind.i64.wrap ((T.count : Int) + 1) = (T.count : Int) + 1 := IntWalk.i64_in _ (by omega)
    have hcnt : T.count ≤ 1048576 := by omega
    clear hA13 hd13 k4 k5 HA11 HFL
    go_wp2
    have hA13 := HA13.out
    clear c2 c4' ct3 ct4 ctf cf4 hw3 hw4
    refine hA13.fin { T with pos := T.pos + 12 + r.length, count := T.count + 1 } ?_ ?_ ?_ rfl
    · have ht := hA13.tape
      have h1 := ht.ok
      refine ⟨⟨h1.lt, h1.le, by show T.pos + 12 + r.length ≤ T.size; omega, by show T.count + 1 ≤ T.pos + 12 + r.length; omega, h1.sick⟩, ht.n2, ?_⟩
      rw [heap_setCell_other _ ⟨w.heap.size + 1, 0, none⟩ t _ n4, heap_setCell_same _ t 4 _ _ _ (heap_setCell_same w13 t 3 _ _ _ ht.ht)]
      have e1 : (T.pos : Int) + (12 + (r.length : Int)) = ((T.pos + 12 + r.length : Nat) : Int) := by omega
      have e2 : (T.count : Int) + 1 = ((T.count + 1 : Nat) : Int) := by omega
      rw [e1, e2]
      rfl
    · have hm2 : Mod (fun k => k = t) w13 ((w13.setCell ⟨t, 3, none⟩ (.int .i64 ((T.pos : Int) + (12 + (r.length : Int))))).setCell ⟨t, 4, none⟩ (.int .i64 ((T.count : Int) + 1))) := (Mod.set (own := fun k => k = t) rfl).trans (Mod.set rfl)
      refine hm2.trans ⟨rfl, rfl, rfl, by simp, fun k hk ho => ?_⟩
      by_cases e : k = w.heap.size + 1
      · subst e
        have h4' := (hm2.block _ (Array.getElem?_eq_some_iff.1 hA13.h4).1 n2).trans hA13.h4
        exact (set_one h4' rfl _).trans h4'.symm
      · exact heap_setCell_other _ ⟨w.heap.size + 1, 0, none⟩ k _ e
    · rw [HZ4.out]
      rfl
end Go.Proofs.Ytoaeapnkefjpaaa

namespace Go.Proofs.Ytoaeapnkefjpaaa
open Go.RowKit
set_option linter.unusedVariables false
set_option linter.unusedSimpArgs false

theorem Done.back {w w1 : World} {t p n : Nat} {own0 : Nat → Prop} {X : Int × DS × TS} {e : Ending} {w' : World} (h : Done w1 t p n own0 X e w') (hb : Below w.heap.size w w1) : Done w t p n own0 X e w' := by
  obtain ⟨h1, h2, own', h3, h4, h5⟩ := h
  exact ⟨h1, h2, own', h3, fun k hk => (h4 k hk).imp id (fun h => Nat.le_trans hb.size h), (Mod.of_below _ hb).trans h5⟩
set_option maxRecDepth 100000 in
set_option maxHeartbeats 800000 in
theorem tappend_any (w : World) (t p : Nat) (own : Nat → Prop) (T : TS) (D : DS) (v : Value) (r : List UInt8) (h : TapeIn w t p D.safe.length T) (hd : DrumAt w p own D) (ht : ¬ own t) (hv : Sees w v r) (hN : D.waits.length ≤ 800000000) :
    Calls Try.prog 66 #[.pointer (some ⟨t, 0, none⟩), v] w (Done w t p D.safe.length own (TS.append D T r)) := by
  obtain ⟨b1, b2, b3, b4, b5, b6, b7⟩ := h.bd
  have same : ∀ (c : Int) (w1 : World), Below w.heap.size w w1 → Done w t p D.safe.length own (c, D, T) (.returned (I c)) w1 := fun c w1 hb => ⟨rfl, h.below hb, own, hd.below hb, fun k hk => .inl hk, Mod.of_below _ hb⟩
  obtain ⟨av, cv, rfl, hrl⟩ := hv.form0
  have c5 := h.c5
  have c3 := h.c3
  obtain ⟨Z, hZ⟩ : ∃ Z, Z = TS.append D T r := ⟨_, rfl⟩
  rw [← hZ]
  have HZ := hid hZ
  have SAME := hid same
  have H := hid h
  have HD := hid hd
  have HT := hid ht
  have HV := hid hv
  clear hZ same h hd ht hv b7
  by_cases h1 : 65536 < r.length
  · have h1' : decide ((r.length : Int) > 65536) = true := decide_eq_true (by omega)
    have h1'' : decide ((65536 : Int) < (r.length : Int)) = true := decide_eq_true (by omega)
    have hz : Z = (3, D, T) := by rw [HZ.out]; unfold TS.append; rw [if_pos h1]
    clear HZ
    go_enter Try.func66, Try.ntmps66
    go_wp2_with fail
    go_ret
    rw [hz]
    exact SAME.out 3 w (Below.refl _ _)
  · have h1' : decide ((65536 : Int) < (r.length : Int)) = false := decide_eq_false (by omega)
    by_cases h2 : T.sick = 0
    rotate_left
    · have h2b : (T.sick == 0) = false := by simpa using h2
      have hz : Z = (T.sick, D, T) := by rw [HZ.out]; unfold TS.append; rw [if_neg h1, if_pos h2]
      clear HZ h2
      go_enter Try.func66, Try.ntmps66
      go_wp2_with fail
      go_ret
      rw [hz]
      exact SAME.out T.sick w (Below.refl _ _)
    have h2b : (T.sick == 0) = true := by simpa using h2
    have hw1 : IntKind.i64.wrap ((T.pos : Int) + 12) = (T.pos : Int) + 12 := IntWalk.i64_in _ (by omega)
    have hw2 : IntKind.i64.wrap ((T.pos : Int) + 12 + (r.length : Int)) = (T.pos : Int) + 12 + (r.length : Int) := IntWalk.i64_in _ (by omega)
    have HBB := hid (fun m => below_drewN w m)
    by_cases h3 : T.size < T.pos + 12 + r.length
    · have h3' : decide ((T.size : Int) < (T.pos : Int) + 12 + (r.length : Int)) = true := decide_eq_true (by omega)
      have hz : Z = (22, D, T) := by rw [HZ.out]; unfold TS.append; rw [if_neg h1, if_neg (by simp [h2]), if_pos h3]
      rw [h2] at c5
      clear HZ h2
      go_enter Try.func66, Try.ntmps66
      go_wp2_with fail
      go_quiet ((go_at_call 98; exact Calls.quiet_of (size_any _ t p _ T (H.out.keep rfl))))
      go_wp2_with fail
      go_ret
      rw [hz]
      exact SAME.out 22 _ (HBB.out _)
    · have h3' : decide ((T.size : Int) < (T.pos : Int) + 12 + (r.length : Int)) = false := decide_eq_false (by omega)
      have hz : Z = TS.doIt D T r := by rw [HZ.out]; unfold TS.append; rw [if_neg h1, if_neg (by simp [h2]), if_neg h3]
      have HZ2 := hid hz
      rw [h2] at c5
      clear HZ h2 hz
      go_enter Try.func66, Try.ntmps66
      go_wp2_with fail
      go_quiet ((go_at_call 98; exact Calls.quiet_of (size_any _ t p _ T (H.out.keep rfl))))
      have hb := HBB.out nq
      have hdo := tdo_any (w.drewN nq) t p own T D _ r (H.out.below hb) (HD.out.below hb) HT.out (HV.out.below hb) (by omega) (by omega) hN
      have HDO := hid hdo
      have HB := hid hb
      clear hdo hb HBB
      go_wp2_with (go_at_call 99; refine HDO.out.mono ?_; rintro e w1 ⟨rfl, hh⟩; have HH := hid hh; clear hh)
      go_ret
      rw [HZ2.out]
      exact Done.back ⟨rfl, HH.out⟩ HB.out
theorem tcount_any (w : World) (t p n : Nat) (T : TS) (h : TapeIn w t p n T) : Calls Try.prog 74 #[.pointer (some ⟨t, 0, none⟩)] w fun e w' => e = .returned (I T.count) ∧ w = w' := by
  have c4 := h.c4
  clear h
  go_enter Try.func74, Try.ntmps74
  go_wp2
  go_ret
  exact ⟨rfl, rfl⟩
theorem tcount_nil (w : World) : Calls Try.prog 74 #[.pointer none] w fun e w' => e = .returned (I 0) ∧ w = w' := by
  go_enter Try.func74, Try.ntmps74
  go_wp2
  go_ret
  exact ⟨rfl, rfl⟩
theorem tappend_nil (w : World) (v : Value) : Calls Try.prog 66 #[.pointer none, v] w fun e w' => e = .returned (I 2) ∧ w = w' := by
  go_enter Try.func66, Try.ntmps66
  go_wp2
  go_ret
  exact ⟨rfl, rfl⟩
theorem page0_len : page0.length = 256 := List.length_replicate
/-- A page of noughts, just made. -/
theorem run_page0 (w : World) : ∀ ty : TypeId, ty = 23 → (Instr.makeSlice 23 (.int .i64 256) (.int .i64 256)).run Try.prog w = .ok (.slice (some ⟨w.heap.size, 0, none⟩) 256 256) (w.alloc (.cells (page0.map B).toArray 5)) := by
  intro ty hty
  obtain ⟨i5, hi, hz, hs, hb⟩ := info_parts info5'
  have hmk := run_makeSlice (P := Try.prog) w 23 5 i5 _ Try.underlying23 hi hz .i64 .i64 256 256 (by omega) (by omega) (by rw [hs]; decide) (by rw [hb]; decide) (by omega)
  rw [hs] at hmk
  have hcells : madeCells (Value.int .u8 0).cells ((256 : Int).toNat * 1) = (page0.map B).toArray := by kernel_rfl
  rw [hcells] at hmk
  exact hmk
theorem own_page0 (w : World) : (w.alloc (.cells (page0.map B).toArray 5)).ownsRow w.heap.size 5 1 (.slice (some ⟨w.heap.size, 0, none⟩) 256 256) 256 (page0.map B) := by
  refine ⟨by rw [List.length_map, page0_len], .inr ⟨w.heap.size, 256, _, rfl, Nat.le_refl _, heap_alloc_new w _, Nat.le_refl _, by unfold maxLen; omega, by rw [List.size_toArray, List.length_map, page0_len], ?_⟩⟩
  rw [List.take_of_length_le (by rw [List.length_map, page0_len]; omega)]
theorem Drummed'.back {own : Nat → Prop} {p : Nat} {w w1 w' : World} {D : DS} (h : Drummed' own p w1 D w') (hb : Below w.heap.size w w1) : Drummed' own p w D w' := by
  obtain ⟨own', h1, h2, h3⟩ := h
  exact ⟨own', h1, fun k hk => (h2 k hk).imp id (fun h => Nat.le_trans hb.size h), (Mod.of_below _ hb).trans h3⟩
theorem tclear_any (w : World) (p : Nat) (own : Nat → Prop) (D : DS) (lo : Int) (hd : DrumAt w p own D) (hlo : -9223372036854775808 ≤ lo ∧ lo ≤ 9223372036854775807) (hN : D.waits.length ≤ 800000000) :
    Calls Try.prog 68 #[.pointer (some ⟨p, 0, none⟩), I lo] w fun e w' => e = .returned (I (D.write lo page0).1) ∧ Drummed' own p w (D.write lo page0).2 w' := by
  have hmk := run_page0 w 23 rfl
  have hb : Below w.heap.size w (w.alloc (.cells (page0.map B).toArray 5)) := (Below.refl _ _).alloc (Nat.le_refl _) _
  have hwr := write_any (w.alloc (.cells (page0.map B).toArray 5)) p own D lo _ page0 (hd.below hb) (own_sees' (own_page0 w) page0_len) hlo (fun k hk ho => by have h1 := hd.lt k ho; have h3 : w.heap.size = k := Option.some.inj hk; omega) (by omega)
  have HWR := hid (hwr.mono fun e w' h => And.intro h.1 (Drummed'.back h.2 hb))
  generalize w.alloc (.cells (page0.map B).toArray 5) = w1 at *
  clear hb hwr hd
  go_enter Try.func68, Try.ntmps68
  go_wp2_with (go_at_call 50; refine HWR.out.mono ?_; rintro e w2 ⟨rfl, hh⟩; have HH := hid hh; clear hh)
  go_ret
  exact ⟨rfl, HH.out⟩
end Go.Proofs.Ytoaeapnkefjpaaa

namespace Go.Proofs.Ytoaeapnkefjpaaa
open Go.RowKit
set_option linter.unusedVariables false
set_option linter.unusedSimpArgs false

/-- A list of records, as it is seen. -/
def Shows (w : World) (v : Value) (L : List (List UInt8)) : Prop :=
  ∃ ao cap, v = .slice ao L.length cap ∧ L.length ≤ cap ∧ cap ≤ maxLen ∧ (0 < L.length → ∃ g off, ao = some ⟨g, off, none⟩ ∧ ∀ i r, L[i]? = some r → ∃ u, w.cell? ⟨g, off + i, none⟩ = some u ∧ Sees w u r)
theorem cell_lt {w : World} {a : Addr} {v : Value} (h : w.cell? a = some v) : a.block < w.heap.size := block_lt_of_cell h
theorem Shows.below {w w' : World} {v : Value} {L : List (List UInt8)} (h : Shows w v L) (hb : Below w.heap.size w w') : Shows w' v L := by
  obtain ⟨ao, cap, rfl, h1, h2, h3⟩ := h
  refine ⟨ao, cap, rfl, h1, h2, fun hp => ?_⟩
  obtain ⟨g, off, rfl, h4⟩ := h3 hp
  refine ⟨g, off, rfl, fun i r hr => ?_⟩
  obtain ⟨u, hu, hs⟩ := h4 i r hr
  exact ⟨u, (World.cell?_of_block (w := w) (a := ⟨g, off + i, none⟩) (hb.block g (cell_lt hu))).trans hu, hs.below hb⟩
theorem Shows.len {w : World} {v : Value} {L : List (List UInt8)} (h : Shows w v L) : ∃ ao cap, v = .slice ao L.length cap ∧ L.length ≤ maxLen := by
  obtain ⟨ao, cap, rfl, h1, h2, h3⟩ := h
  exact ⟨ao, cap, rfl, Nat.le_trans h1 h2⟩
theorem Shows.at {w : World} {ao : Option Addr} {n cap : Nat} {L : List (List UInt8)} (h : Shows w (.slice ao n cap) L) {i : Nat} {r : List UInt8} (hi : L[i]? = some r) : ∃ g off u, ao = some ⟨g, off, none⟩ ∧ w.cell? ⟨g, off + i, none⟩ = some u ∧ Sees w u r := by
  obtain ⟨ao', cap', hv, h1, h2, h3⟩ := h
  simp only [Value.slice.injEq] at hv
  obtain ⟨rfl, rfl, rfl⟩ := hv
  obtain ⟨g, off, rfl, h4⟩ := h3 (by have := (List.getElem?_eq_some_iff.1 hi).1; omega)
  obtain ⟨u, hu, hs⟩ := h4 i r hi
  exact ⟨g, off, u, rfl, hu, hs⟩
theorem Recs.shows {w : World} {base : Nat} {v : Value} {L : List (List UInt8)} (h : Recs w base v L) : Shows w v L := by
  obtain ⟨vs, pb, h⟩ := h
  by_cases h0 : 0 < L.length
  · obtain ⟨g, cap, rfl, h1, h2, h3, h4⟩ := own_slice h.row h0
    refine ⟨_, cap, rfl, h1, h2, fun _ => ⟨g, 0, rfl, fun i r hr => ?_⟩⟩
    have hi := (List.getElem?_eq_some_iff.1 hr).1
    obtain ⟨u, hu⟩ : ∃ u, vs[i]? = some u := ⟨_, List.getElem?_eq_getElem (by rw [h.len]; exact hi)⟩
    refine ⟨u, ?_, own_sees (h.each i _ r hu hr).1⟩
    rw [Nat.zero_add]
    exact own_cell h.row hu
  · have : L = [] := List.length_eq_zero_iff.1 (by omega)
    subst this
    rcases h.row.2 with ⟨rfl, -⟩ | ⟨g, cap, cur, rfl, hb, hg, hnc, hcm, r⟩
    · exact ⟨none, 0, rfl, Nat.le_refl _, by decide, fun h => by simp at h⟩
    · exact ⟨_, cap, rfl, hnc, hcm, fun h => by simp at h⟩
theorem str_eq (X Y : List UInt8) : ((str X).toList == (str Y).toList) = decide (X = Y) := by
  rw [str_toList, str_toList]
  by_cases h : X = Y
  · subst h; simp
  · rw [decide_eq_false h, beq_eq_false_iff_ne]; exact h
set_option maxRecDepth 100000 in
set_option maxHeartbeats 800000 in
theorem alike_any (w : World) (v1 v2 : Value) (L1 L2 : List (List UInt8)) (h1 : Shows w v1 L1) (h2 : Shows w v2 L2) : Calls Try.prog 67 #[v1, v2] w fun e w' => e = .returned (.bool (decide (L1 = L2))) ∧ ∃ m, w' = w.drewN m := by
  obtain ⟨a1, c1, rfl, l1⟩ := h1.len
  obtain ⟨a2, c2, rfl, l2⟩ := h2.len
  unfold maxLen at l1 l2
  have H1 := hid h1
  have H2 := hid h2
  obtain ⟨b, hb⟩ : ∃ b, b = decide (L1 = L2) := ⟨_, rfl⟩
  rw [← hb]
  have HB := hid hb
  clear h1 h2 hb
  by_cases hl : L1.length = L2.length
  rotate_left
  · have hl' : ((L1.length : Int) != (L2.length : Int)) = true := by simp; omega
    have hb : b = false := by rw [HB.out, decide_eq_false_iff_not]; intro e; exact hl (by rw [e])
    clear HB hl
    go_enter Try.func67, Try.ntmps67
    go_wp2
    go_ret
    exact ⟨by rw [hb]; rfl, 0, rfl⟩
  obtain ⟨n, hn⟩ : ∃ n, n = L1.length := ⟨_, rfl⟩
  have hn2 : n = L2.length := hn.trans hl
  rw [← hn, ← hn2]
  rw [← hn] at l1 H1
  rw [← hn2] at H2
  have HN := hid hn
  have HN2 := hid hn2
  clear hn hn2 hl l2
  go_enter Try.func67, Try.ntmps67
  go_wp2
  go_loopw [13] (fun i wr => ∃ (j m : Nat), j ≤ n ∧ i = I j ∧ Hid (L1.take j = L2.take j) ∧ Hid (wr = w.drewN m)) (fun i _ => n - (intOf i).toNat)
  case atStart => exact ⟨0, 0, by omega, rfl, hid rfl, hid rfl⟩
  case round =>
    obtain ⟨j, m, hj, rfl, HT, HW⟩ := hrel
    by_cases hlt : j < n
    · obtain ⟨r1, hr1⟩ : ∃ r1, L1[j]? = some r1 := ⟨_, List.getElem?_eq_getElem (by have := HN.out; omega)⟩
      obtain ⟨r2, hr2⟩ : ∃ r2, L2[j]? = some r2 := ⟨_, List.getElem?_eq_getElem (by have := HN2.out; omega)⟩
      obtain ⟨g1, o1, u1, rfl, hc1, hs1⟩ := H1.out.at hr1
      obtain ⟨g2, o2, u2, rfl, hc2, hs2⟩ := H2.out.at hr2
      have bw : Below w.heap.size w wr := by rw [HW.out]; exact below_drewN w m
      have k1 : ∀ w', Ext wr.drew w' → w'.cell? ⟨g1, o1 + j, none⟩ = some u1 := fun w' hh => (Ext.trans _ _ _ bw (Ext.trans _ _ _ (Ext.drew wr) hh)).cell hc1
      have k2 : ∀ w', Ext wr.drew w' → w'.cell? ⟨g2, o2 + j, none⟩ = some u2 := fun w' hh => (Ext.trans _ _ _ bw (Ext.trans _ _ _ (Ext.drew wr) hh)).cell hc2
      have k3 : ∀ w', Ext wr.drew w' → (convert 23 9 u1).run Try.prog w' = .ok (.string (str r1)) w' := fun w' hh => run_str Try.underlying23 Try.underlying5 Try.underlying9 (hs1.below (Ext.trans _ _ _ bw (Ext.trans _ _ _ (Ext.drew wr) hh)))
      have k4 : ∀ w', Ext wr.drew w' → (convert 23 9 u2).run Try.prog w' = .ok (.string (str r2)) w' := fun w' hh => run_str Try.underlying23 Try.underlying5 Try.underlying9 (hs2.below (Ext.trans _ _ _ bw (Ext.trans _ _ _ (Ext.drew wr) hh)))
      have HR1 := hid hr1
      have HR2 := hid hr2
      have hse := str_eq r1 r2
      clear hc1 hc2 hs1 hs2 bw hr1 hr2
      by_cases he : r1 = r2
      · have hb : decide (r1 = r2) = true := decide_eq_true he
        have HE := hid he
        clear he
        go_wp2
        refine wp_region_order Ext [] [(0,0),(1,0),(2,0),(3,0),(4,0),(5,0),(6,0),(7,0),(8,0),(9,0),(10,0)] _ (by kernel_rfl) rfl Ext.refl Ext.trans (by kernel_rfl) (by simp only [pick, List.getElem?_toArray, List.getElem?_cons_zero, List.getElem?_cons_succ]; rfl) (fun c a d v w h => by cases d <;> exact h) ?_
        refine wpK_q (v := ?_) (a' := ?_) (by rfl) (fun w' hR => ?_) ?_ ?_
        rotate_left 2
        · go_simp; with_reducible rfl
        · simp only [Act.put, List.setIfInBounds_toArray, List.set_cons_zero, List.set_cons_succ]; rfl
        refine wpK_q (v := ?_) (a' := ?_) (by rfl) (fun w' hR => ?_) ?_ ?_
        rotate_left 2
        · go_simp; with_reducible rfl
        · simp only [Act.put, List.setIfInBounds_toArray, List.set_cons_zero, List.set_cons_succ]; rfl
        refine wpK_q (v := ?_) (a' := ?_) (by rfl) (fun w' hR => ?_) ?_ ?_
        rotate_left 2
        · go_simp; with_reducible rfl
        · simp only [Act.put, List.setIfInBounds_toArray, List.set_cons_zero, List.set_cons_succ]; rfl
        refine wpK_q (v := ?_) (a' := ?_) (by rfl) (fun w' hR => ?_) ?_ ?_
        rotate_left 2
        · go_simp; with_reducible rfl
        · simp only [Act.put, List.setIfInBounds_toArray, List.set_cons_zero, List.set_cons_succ]; rfl
        refine wpK_q (v := ?_) (a' := ?_) (by rfl) (fun w' hR => ?_) ?_ ?_
        rotate_left 2
        · go_simp; with_reducible rfl
        · simp only [Act.put, List.setIfInBounds_toArray, List.set_cons_zero, List.set_cons_succ]; rfl
        refine wpK_q (v := ?_) (a' := ?_) (by rfl) (fun w' hR => ?_) ?_ ?_
        rotate_left 2
        · go_simp; with_reducible rfl
        · simp only [Act.put, List.setIfInBounds_toArray, List.set_cons_zero, List.set_cons_succ]; rfl
        refine wpK_q (v := ?_) (a' := ?_) (by rfl) (fun w' hR => ?_) ?_ ?_
        rotate_left 2
        · go_simp; with_reducible rfl
        · simp only [Act.put, List.setIfInBounds_toArray, List.set_cons_zero, List.set_cons_succ]; rfl
        refine wpK_q (v := ?_) (a' := ?_) (by rfl) (fun w' hR => ?_) ?_ ?_
        rotate_left 2
        · go_simp; with_reducible rfl
        · simp only [Act.put, List.setIfInBounds_toArray, List.set_cons_zero, List.set_cons_succ]; rfl
        refine wpK_q (v := ?_) (a' := ?_) (by rfl) (fun w' hR => ?_) ?_ ?_
        rotate_left 2
        · go_simp; with_reducible rfl
        · simp only [Act.put, List.setIfInBounds_toArray, List.set_cons_zero, List.set_cons_succ]; rfl
        refine wpK_q (v := ?_) (a' := ?_) (by rfl) (fun w' hR => ?_) ?_ ?_
        rotate_left 2
        · go_simp; with_reducible rfl
        · simp only [Act.put, List.setIfInBounds_toArray, List.set_cons_zero, List.set_cons_succ]; rfl
        refine wpK_q (v := ?_) (a' := ?_) (by rfl) (fun w' hR => ?_) ?_ ?_
        rotate_left 2
        · go_simp; with_reducible rfl
        · simp only [Act.put, List.setIfInBounds_toArray, List.set_cons_zero, List.set_cons_succ]; rfl
        refine wpK_done ?_
        clear k1 k2 k3 k4
        go_wp2
        go_roundw
        case rel =>
          refine ⟨j + 1, m + 1, by omega, by go_num, hid ?_, hid ?_⟩
          · rw [take_snoc HR1.out, take_snoc HR2.out, HT.out, HE.out]
          · rw [HW.out]; rfl
        case measure => simp [intOf]; omega
      · have hb : decide (r1 = r2) = false := decide_eq_false he
        have hbf : b = false := by
          rw [HB.out, decide_eq_false_iff_not]
          intro e
          have h1 := HR1.out
          rw [e, HR2.out] at h1
          exact he (Option.some.inj h1).symm
        have HBF := hid hbf
        clear he hbf HB
        go_wp2
        refine wp_region_order Ext [] [(0,0),(1,0),(2,0),(3,0),(4,0),(5,0),(6,0),(7,0),(8,0),(9,0),(10,0)] _ (by kernel_rfl) rfl Ext.refl Ext.trans (by kernel_rfl) (by simp only [pick, List.getElem?_toArray, List.getElem?_cons_zero, List.getElem?_cons_succ]; rfl) (fun c a d v w h => by cases d <;> exact h) ?_
        refine wpK_q (v := ?_) (a' := ?_) (by rfl) (fun w' hR => ?_) ?_ ?_
        rotate_left 2
        · go_simp; with_reducible rfl
        · simp only [Act.put, List.setIfInBounds_toArray, List.set_cons_zero, List.set_cons_succ]; rfl
        refine wpK_q (v := ?_) (a' := ?_) (by rfl) (fun w' hR => ?_) ?_ ?_
        rotate_left 2
        · go_simp; with_reducible rfl
        · simp only [Act.put, List.setIfInBounds_toArray, List.set_cons_zero, List.set_cons_succ]; rfl
        refine wpK_q (v := ?_) (a' := ?_) (by rfl) (fun w' hR => ?_) ?_ ?_
        rotate_left 2
        · go_simp; with_reducible rfl
        · simp only [Act.put, List.setIfInBounds_toArray, List.set_cons_zero, List.set_cons_succ]; rfl
        refine wpK_q (v := ?_) (a' := ?_) (by rfl) (fun w' hR => ?_) ?_ ?_
        rotate_left 2
        · go_simp; with_reducible rfl
        · simp only [Act.put, List.setIfInBounds_toArray, List.set_cons_zero, List.set_cons_succ]; rfl
        refine wpK_q (v := ?_) (a' := ?_) (by rfl) (fun w' hR => ?_) ?_ ?_
        rotate_left 2
        · go_simp; with_reducible rfl
        · simp only [Act.put, List.setIfInBounds_toArray, List.set_cons_zero, List.set_cons_succ]; rfl
        refine wpK_q (v := ?_) (a' := ?_) (by rfl) (fun w' hR => ?_) ?_ ?_
        rotate_left 2
        · go_simp; with_reducible rfl
        · simp only [Act.put, List.setIfInBounds_toArray, List.set_cons_zero, List.set_cons_succ]; rfl
        refine wpK_q (v := ?_) (a' := ?_) (by rfl) (fun w' hR => ?_) ?_ ?_
        rotate_left 2
        · go_simp; with_reducible rfl
        · simp only [Act.put, List.setIfInBounds_toArray, List.set_cons_zero, List.set_cons_succ]; rfl
        refine wpK_q (v := ?_) (a' := ?_) (by rfl) (fun w' hR => ?_) ?_ ?_
        rotate_left 2
        · go_simp; with_reducible rfl
        · simp only [Act.put, List.setIfInBounds_toArray, List.set_cons_zero, List.set_cons_succ]; rfl
        refine wpK_q (v := ?_) (a' := ?_) (by rfl) (fun w' hR => ?_) ?_ ?_
        rotate_left 2
        · go_simp; with_reducible rfl
        · simp only [Act.put, List.setIfInBounds_toArray, List.set_cons_zero, List.set_cons_succ]; rfl
        refine wpK_q (v := ?_) (a' := ?_) (by rfl) (fun w' hR => ?_) ?_ ?_
        rotate_left 2
        · go_simp; with_reducible rfl
        · simp only [Act.put, List.setIfInBounds_toArray, List.set_cons_zero, List.set_cons_succ]; rfl
        refine wpK_q (v := ?_) (a' := ?_) (by rfl) (fun w' hR => ?_) ?_ ?_
        rotate_left 2
        · go_simp; with_reducible rfl
        · simp only [Act.put, List.setIfInBounds_toArray, List.set_cons_zero, List.set_cons_succ]; rfl
        refine wpK_done ?_
        clear k1 k2 k3 k4
        go_wp2
        go_ret
        refine ⟨by rw [HBF.out]; rfl, m + 1, ?_⟩
        rw [HW.out]; rfl
    · obtain rfl : j = n := by omega
      have hbt : b = true := by
        rw [HB.out, decide_eq_true_eq]
        have := HT.out
        rwa [List.take_of_length_le (by have := HN.out; omega), List.take_of_length_le (by have := HN2.out; omega)] at this
      have HBT := hid hbt
      clear hbt HB
      go_wp2
      go_ret
      exact ⟨by rw [HBT.out]; rfl, m, HW.out⟩
/-- Open, with whatever bounds. -/
theorem open_any (w : World) (p : Nat) (own : Nat → Prop) (D : DS) (lo hi : Int) (hd : DrumAt w p own D) (hl : -9223372036854775808 ≤ lo ∧ lo ≤ 9223372036854775807) (hh : -9223372036854775808 ≤ hi ∧ hi ≤ 9223372036854775807) :
    Calls Try.prog 65 #[.pointer (some ⟨p, 0, none⟩), I lo, I hi] w (Opened w p D.safe.length lo.toNat hi.toNat (TS.opn D lo hi)) := by
  unfold TS.opn
  by_cases hb : lo < 0 ∨ (D.safe.length : Int) < hi ∨ hi ≤ lo
  · rw [if_pos hb]
    exact (open_bad w p own D lo hi hd hl hh hb).mono fun e w' h => .inl ⟨by simp, h.1, h.2⟩
  · rw [if_neg hb]
    have e1 : ((lo.toNat : Nat) : Int) = lo := by omega
    have e2 : ((hi.toNat : Nat) : Int) = hi := by omega
    cases ho : D.off with
    | true =>
      rw [if_pos rfl]
      have := open_down w p own D lo.toNat hi.toNat hd (by omega) (by omega) ho
      rw [e1, e2] at this
      exact this.mono fun e w' h => .inl ⟨by simp, h.1, h.2⟩
    | false =>
      rw [if_neg (by simp)]
      have := open_on w p own D lo.toNat hi.toNat hd (by omega) (by omega) ho
      rw [e1, e2] at this
      exact this
end Go.Proofs.Ytoaeapnkefjpaaa

namespace Go.Proofs.Ytoaeapnkefjpaaa
open Go.RowKit
set_option linter.unusedVariables false
set_option linter.unusedSimpArgs false

set_option maxRecDepth 100000 in
set_option maxHeartbeats 800000 in
theorem rframe_any (w : World) (k : UInt8) (c : Int) (hc : -9223372036854775808 ≤ c ∧ c ≤ 9223372036854775807) (v : Value) (r : List UInt8) (hv : Sees w v r) (hr : r.length ≤ 65536) : Calls Try.prog 95 #[B k, I c, v] w (Fresh w (k :: (TS.size3 r.length ++ Sum.be8 (Sum.add (Sum.of c (TS.size3 r.length)) r)) ++ r)) := by
  obtain ⟨ao, cap, rfl, -⟩ := hv.form0
  obtain ⟨Y, hY⟩ : ∃ Y, Y = k :: (TS.size3 r.length ++ Sum.be8 (Sum.add (Sum.of c (TS.size3 r.length)) r)) ++ r := ⟨_, rfl⟩
  rw [← hY]
  have HY := hid hY
  have HV := hid hv
  clear hv hY
  go_enter Try.func95, Try.ntmps95
  go_wp2_with fail
  have hcells : (#[Value.int .u8 ((r.length : Int) / 65536), Value.int .u8 ((r.length : Int) / 256 % 256), Value.int .u8 ((r.length : Int) % 256)] : Array Value) = ((TS.size3 r.length).map B).toArray := by
    have e1 : ((UInt8.ofNat (r.length / 65536 % 256)).toNat : Int) = (r.length : Int) / 65536 := by rw [UInt8.toNat_ofNat']; omega
    have e2 : ((UInt8.ofNat (r.length / 256 % 256)).toNat : Int) = (r.length : Int) / 256 % 256 := by rw [UInt8.toNat_ofNat']; omega
    have e3 : ((UInt8.ofNat (r.length % 256)).toNat : Int) = (r.length : Int) % 256 := by rw [UInt8.toNat_ofNat']; omega
    unfold TS.size3 B
    rw [List.map_cons, List.map_cons, List.map_cons, List.map_nil, e1, e2, e3]
  rw [hcells]
  have hS := Sees.lit w (TS.size3 r.length) (0, 0) (by show 3 ≤ maxLen; unfold maxLen; omega)
  have hb : Below w.heap.size w (w.alloc (.cells ((TS.size3 r.length).map B).toArray 5)) := (Below.refl _ _).alloc (Nat.le_refl _) _
  have HVa := hid (HV.out.below hb)
  have HS : Hid (Sees (w.alloc (.cells ((TS.size3 r.length).map B).toArray 5)) (.slice (some ⟨w.heap.size, 0, none⟩) 3 3) (TS.size3 r.length)) := hid hS
  have HB := hid hb
  generalize w.alloc (.cells ((TS.size3 r.length).map B).toArray 5) = wa at *
  clear hcells hS hb
  have r1 : 0 ≤ Sum.of c (TS.size3 r.length) ∧ Sum.of c (TS.size3 r.length) < 18446744073709551616 := by
    have := Sum.add_range (Sum.start c) (TS.size3 r.length)
    unfold Sum.of; omega
  have r2 : 0 ≤ Sum.add (Sum.of c (TS.size3 r.length)) r ∧ Sum.add (Sum.of c (TS.size3 r.length)) r < 18446744073709551616 := by
    have := Sum.add_range (Sum.of c (TS.size3 r.length)) r
    omega
  refine (rof_any c hc.1 hc.2 _ (TS.size3 r.length) _ HS.out).mono ?_
  rintro e w1 ⟨rfl, rfl⟩
  go_wp2_with (first | (go_at_call 27; refine (radd_any _ r1.1 r1.2 _ r _ HVa.out).mono ?_; rintro e w2 ⟨rfl, rfl⟩))
  have hbB : Below wa.heap.size wa (wa.alloc (.cells #[B k] 5)) := (Below.refl wa.heap.size wa).alloc (Nat.le_refl _) _
  have HVB := hid (HVa.out.below hbB)
  have HSB := hid (HS.out.below hbB)
  have HO0 := hid (own_born wa 5 (B k))
  have HBB := hid hbB
  clear hbB
  generalize wa.alloc (.cells #[B k] 5) = wB at *
  obtain ⟨F, hF⟩ : ∃ F, F = TS.size3 r.length ++ Sum.be8 (Sum.add (Sum.of c (TS.size3 r.length)) r) := ⟨_, rfl⟩
  have hFl : F.length = 11 := by rw [hF, List.length_append, Sum.be8_length]; rfl
  refine (rput_any _ (TS.size3 r.length) _ r2.1 r2.2 wB HSB.out (by show 3 ≤ 1099511627776; omega)).mono ?_
  rw [← hF]
  rintro e w1 ⟨v1, rfl, ho1, hb1⟩
  rw [hFl] at ho1
  obtain ⟨av1, cv1, rfl⟩ := own_form ho1
  have HS1 := hid (own_sees' ho1 hFl)
  have HO1 := hid (own_below HO0.out hb1)
  have HB1 := hid (Ext.trans _ _ _ HBB.out hb1)
  have HF := hid hF
  have HFL := hid hFl
  clear ho1 hb1 HVB HSB HO0 HBB hF hFl r1 r2
  have hs1 : wa.heap.size ≤ w1.heap.size := HB1.out.size
  go_wp2_with (at_builtin; refine wpList_app rfl (.tmp 29) (.tmp 32) 23 rfl wa.heap.size 5 (.int .u8 0) 1 1 Try.underlying23 info5 rfl (by decide) 1 [B k] 11 (F.map B) HO1.out ?src ?h63 ?hb hs1 ?_)
  case src => have := HS1.out.src; rw [HFL.out] at this; exact this
  case h63 => decide
  case hb => omega
  intro v2 w2 hown hgrow hat
  obtain ⟨av2, cv2, rfl⟩ := own_form hown
  have HO2 := hid hown
  have HB2 := hid (HB1.out.grown hgrow hs1 (fun k hk => by have := (own_lt HO1.out k hk).1; omega))
  have HV2 := hid (HVa.out.below HB2.out)
  clear hown hgrow hat HO1 HB1 HS1
  have hs2 : wa.heap.size ≤ w2.heap.size := HB2.out.size
  go_wp2_with (at_builtin; refine wpList_app rfl (.tmp 33) (.tmp 34) 23 rfl wa.heap.size 5 (.int .u8 0) 1 1 Try.underlying23 info5 rfl (by decide) 12 (B k :: F.map B) r.length (r.map B) HO2.out ?src ?h63 ?hb hs2 ?_)
  case src => exact HV2.out.src
  case h63 => unfold maxLen; omega
  case hb => omega
  intro v3 w3 hown hgrow hat
  have HO3 := hid hown
  have HB3 := hid (HB2.out.grown hgrow hs2 (fun k hk => by have := (own_lt HO2.out k hk).1; omega))
  clear hown hgrow hat HO2 HB2 HV2
  go_wp2_with fail
  go_ret
  refine ⟨v3, rfl, own_anew (own_len HO3.out ?_ ?_) (fun k hk => Nat.le_trans HB.out.size (own_lt HO3.out k hk).1), HB.out.trans (HB3.out.mono HB.out.size)⟩
  · rw [HY.out, ← HF.out, List.cons_append, List.length_cons, List.length_append, HFL.out]; omega
  · rw [HY.out, ← HF.out]; simp
theorem rframe_of (w : World) (k : UInt8) (c : Nat) (hc : c ≤ 1000000000) (v : Value) (r : List UInt8) (hv : Sees w v r) (hr : r.length ≤ 65536) : Calls Try.prog 95 #[B k, I c, v] w (Fresh w (k :: TS.framed c r ++ r)) := rframe_any w k c (by omega) v r hv hr
end Go.Proofs.Ytoaeapnkefjpaaa

namespace Go.Proofs.Ytoaeapnkefjpaaa
open Go.RowKit
set_option linter.unusedVariables false
set_option linter.unusedSimpArgs false

/-- The first j bytes laid. -/
def partG (f : Nat → UInt8) (j : Nat) : List UInt8 := (List.range 256).map fun i => if i < j then f i else 0
theorem partG_len (f : Nat → UInt8) (j : Nat) : (partG f j).length = 256 := by simp [partG]
theorem partG_set (f : Nat → UInt8) (j : Nat) (hj : j < 256) : (partG f j).set j (f j) = partG f (j + 1) := by
  apply List.ext_getElem?
  intro i
  unfold partG
  by_cases hi : i < 256
  · by_cases e : j = i
    · subst e
      simp [hi]
    · simp only [List.getElem?_set, e, if_false, List.getElem?_map, List.getElem?_range, hi, Option.map_some]
      congr 1
      by_cases h2 : i < j
      · rw [if_pos h2, if_pos (by omega)]
      · rw [if_neg h2, if_neg (by omega)]
  · simp [hi]
/-- A write's byte. -/
def byteAt (c : UInt8) (j : Nat) : UInt8 := c + UInt8.ofNat (j % 7)
def pageOf (c : UInt8) (short : Bool) : List UInt8 := if short then (partG (byteAt c) 256).take 255 else partG (byteAt c) 256
theorem byteAt_val (c : UInt8) (j : Nat) : ((byteAt c j).toNat : Int) = (((c.toNat : Int) + ((j % 7 : Nat) : Int)) % 256) := by
  unfold byteAt
  rw [UInt8.toNat_add, UInt8.toNat_ofNat']
  have := c.toNat_lt
  omega
theorem own_rebase {w : World} {b b' : Nat} {e : TypeId} {size n : Nat} {v : Value} {xs : List Value} (h : w.ownsRow b e size v n xs) (hb : ∀ k, v.ownBlock = some k → b' ≤ k) : w.ownsRow b' e size v n xs := by
  refine ⟨h.1, ?_⟩
  rcases h.2 with h0 | ⟨g, cap, cur, rfl, _, r⟩
  · exact .inl h0
  · exact .inr ⟨g, cap, cur, rfl, hb g rfl, r⟩
/-- A row's beginning. -/
theorem own_prefix {w : World} {base : Nat} {e : TypeId} {n g cap m : Nat} {xs : List Value} (h : w.ownsRow base e 1 (.slice (some ⟨g, 0, none⟩) n cap) n xs) (hm : m ≤ n) : w.ownsRow base e 1 (.slice (some ⟨g, 0, none⟩) m cap) m (xs.take m) := by
  obtain ⟨h1, h2⟩ := h
  refine ⟨by rw [List.length_take]; omega, ?_⟩
  rcases h2 with ⟨h0, _⟩ | ⟨g', cap', cur, hv, hb, hg, hnc, hcm, hcs, ht⟩
  · cases h0
  · simp only [Value.slice.injEq, Option.some.injEq, Addr.mk.injEq] at hv
    obtain ⟨⟨rfl, _⟩, _, rfl⟩ := hv
    refine .inr ⟨g, cap, cur, rfl, hb, hg, by omega, hcm, hcs, ?_⟩
    rw [← ht, List.take_take]
    congr 1
    omega
set_option maxRecDepth 100000 in
set_option maxHeartbeats 800000 in
theorem page_any (w : World) (k a n : Int) (c : UInt8) (s : Bool) : Calls Try.prog 62 #[.agg #[I k, I a, I n, B c, .bool s]] w (Fresh w (pageOf c s)) := by
  obtain ⟨i5, hi, hz, hs, hb⟩ := info_parts info5'
  have hmk := fun w => run_makeSlice (P := Try.prog) w 23 5 i5 _ Try.underlying23 hi hz .i64 .i64 256 256 (by omega) (by omega) (by rw [hs]; decide) (by rw [hb]; decide) (by omega)
  rw [hs] at hmk
  have hcells : madeCells (Value.int .u8 0).cells ((256 : Int).toNat * 1) = ((partG (byteAt c) 0).map B).toArray := by kernel_rfl
  rw [hcells] at hmk
  have h0 : ∀ w : World, (w.alloc (.cells ((partG (byteAt c) 0).map B).toArray 5)).ownsRow w.heap.size 5 1 (.slice (some ⟨w.heap.size, 0, none⟩) 256 256) 256 ((partG (byteAt c) 0).map B) := fun w => by
    refine ⟨by rw [List.length_map, partG_len], .inr ⟨w.heap.size, 256, _, rfl, Nat.le_refl _, heap_alloc_new w _, Nat.le_refl _, by unfold maxLen; omega, by rw [List.size_toArray, List.length_map, partG_len], ?_⟩⟩
    rw [List.take_of_length_le (by rw [List.length_map, partG_len]; omega)]
  have H0 := hid h0
  clear hi hz hs hb hcells h0
  go_enter Try.func62, Try.ntmps62
  obtain ⟨z0, hz0⟩ : ∃ z, z = partG (byteAt c) 0 := ⟨_, rfl⟩
  rw [← hz0] at hmk H0
  have HZ0 := hid hz0
  clear hz0
  go_wp2
  obtain ⟨wa, hwa⟩ : ∃ wa, wa = w.alloc (.cells #[I k, I a, I n, B c, .bool s] 83) := ⟨_, rfl⟩
  have hz : wa.heap.size = w.heap.size + 1 := by rw [hwa]; simp
  have hba : Below w.heap.size w wa := by rw [hwa]; exact (Below.refl _ _).alloc (Nat.le_refl _) _
  have hca : wa.heap[w.heap.size]? = some (.cells #[I k, I a, I n, B c, .bool s] 83 (0, 0)) := by rw [hwa]; exact heap_alloc_new _ _
  rw [← hwa]
  have H0' := hid (H0.out wa)
  rw [hz] at H0'
  have HBA := hid hba
  have HCA := hid hca
  have HZ := hid hz
  clear hwa hz hba hca hmk H0
  go_loopw [8] (fun i wr => ∃ (j : Nat), j ≤ 256 ∧ i = I j ∧ Hid (wr.ownsRow (w.heap.size + 1) 5 1 (.slice (some ⟨w.heap.size + 1, 0, none⟩) 256 256) 256 ((partG (byteAt c) j).map B)) ∧ Hid (Below (w.heap.size + 1) wa wr)) (fun i _ => 256 - (intOf i).toNat)
  case atStart => exact ⟨0, by omega, rfl, by rw [← HZ0.out]; exact H0', hid ((Below.refl _ _).alloc (by rw [HZ.out]; exact Nat.le_refl _) _)⟩
  case round =>
    obtain ⟨j, hj, rfl, hO, hB⟩ := hrel
    have hblk : wr.heap[w.heap.size]? = some (.cells #[I k, I a, I n, B c, .bool s] 83 (0, 0)) := (hB.out.block _ (by omega)).trans HCA.out
    have c3 : wr.cell? ⟨w.heap.size, 3, none⟩ = some (B c) := by rw [cell_of_row wr _ _ _ _ _ hblk]; rfl
    have c4 : wr.cell? ⟨w.heap.size, 4, none⟩ = some (.bool s) := by rw [cell_of_row wr _ _ _ _ _ hblk]; rfl
    clear hblk
    by_cases hlt : j < 256
    · have hlen := partG_len (byteAt c) j
      have hcell := own_cell hO.out (i := j) (u := B (partG (byteAt c) j)[j]) (by rw [List.getElem?_map, List.getElem?_eq_getElem (by omega)]; rfl)
      have hfr := own_frozen hO.out j
      have hO' := own_set hO.out hlt (B (byteAt c j))
      rw [← List.map_set, partG_set _ j hlt] at hO'
      have HO := hid hO'
      have hv := byteAt_val c j
      have HV := hid hv
      have hcb := byte_bd c
      generalize (partG (byteAt c) j)[j] = u0 at *
      clear hO' hlen hv
      go_wp2
      have e : Value.int .u8 (((c.toNat : Int) + (j : Int) % 7) % 256) = B (byteAt c j) := by
        show _ = Value.int .u8 _
        rw [HV.out]
        congr 2
      rw [e]
      exact ⟨⟨j + 1, by omega, by go_num, HO, hid (hB.out.setCell (p := ⟨w.heap.size + 1, j, none⟩) (Nat.le_refl _) _)⟩, by simp [intOf]; omega⟩
    · obtain rfl : j = 256 := by omega
      have hBB : Below w.heap.size w wr := HBA.out.trans (hB.out.mono (by omega))
      have HBB := hid hBB
      clear hBB
      cases s
      all_goals
        go_wp2
        go_ret
        refine ⟨_, rfl, ?_, HBB.out⟩
        have h1 := hO.out
        refine own_rebase (b := w.heap.size + 1) ?_ (fun k hk => ?_)
        · first
          | exact own_len h1 (partG_len _ _).symm rfl
          | exact own_len (own_prefix h1 (m := 255) (by omega)) (by show 255 = ((partG (byteAt c) 256).take 255).length; rw [List.length_take, partG_len]; rfl) (by show _ = ((partG (byteAt c) 256).take 255).map B; rw [List.map_take])
        · have := (own_lt h1 k (by exact hk)).1; omega
end Go.Proofs.Ytoaeapnkefjpaaa

namespace Go.Proofs.Ytoaeapnkefjpaaa
open Go.RowKit
set_option linter.unusedVariables false
set_option linter.unusedSimpArgs false

/-- The program's drum at pd is D, the document's at pm is M; all their blocks are newer than w0, and none is of both. -/
structure Both (w0 : World) (od : Nat → Prop) (pd : Nat) (om : Nat → Prop) (pm : Nat) (D M : DS) (w : World) : Prop where
  d : DrumAt w pd od D
  m : RefAt w pm om M
  fd : ∀ k, od k → w0.heap.size ≤ k
  fm : ∀ k, om k → w0.heap.size ≤ k
  dis : ∀ k, od k → ¬ om k
  below : Below w0.heap.size w0 w
/-- A block that is neither's. -/
def Held (od om : Nat → Prop) (w : World) (b : Nat) (o : Obj) : Prop := w.heap[b]? = some o ∧ ¬ od b ∧ ¬ om b
theorem Held.lt {od om : Nat → Prop} {w : World} {b : Nat} {o : Obj} (h : Held od om w b o) : b < w.heap.size := (Array.getElem?_eq_some_iff.1 h.1).1
theorem Held.cell {od om : Nat → Prop} {w : World} {b : Nat} {cs : Array Value} {t : TypeId} {fr : Nat × Nat} (h : Held od om w b (.cells cs t fr)) (i : Nat) (v : Value) (hv : cs[i]? = some v) : w.cell? ⟨b, i, none⟩ = some v := by rw [cell_of_row _ _ _ _ _ _ h.1]; exact hv
theorem Held.on {od om : Nat → Prop} {w w' : World} {b : Nat} {o : Obj} (h : Held od om w b o) (hb : Below w.heap.size w w') : Held od om w' b o := ⟨(hb.block b h.lt).trans h.1, h.2⟩
section
variable {w0 : World} {od : Nat → Prop} {pd : Nat} {om : Nat → Prop} {pm : Nat} {D M D' M' : DS} {w w' : World}
theorem Both.on (h : Both w0 od pd om pm D M w) (hb : Below w.heap.size w w') : Both w0 od pd om pm D M w' :=
  ⟨h.d.below hb, h.m.below hb, h.fd, h.fm, h.dis, h.below.trans (hb.mono h.below.size)⟩
theorem Both.dstep (h : Both w0 od pd om pm D M w) (hd : Drummed' od pd w D' w') : ∃ od', Both w0 od' pd om pm D' M w' ∧ ∀ b o, Held od om w b o → Held od' om w' b o := by
  obtain ⟨od', h1, h2, h3⟩ := hd
  refine ⟨od', ⟨h1, h.m.mod h3 (fun k hk hk2 => h.dis k hk2 hk), fun k hk => ?_, h.fm, fun k hk hk2 => ?_, h.below.trans (h3.below h.below.size (fun i hi ho => by have := h.fd i ho; omega))⟩, fun b o hb => ?_⟩
  · rcases h2 k hk with hk | hk
    · exact h.fd k hk
    · have := h.below.size; omega
  · rcases h2 k hk with hk | hk
    · exact h.dis k hk hk2
    · have := h.m.lt k hk2; omega
  · refine ⟨(h3.block b hb.lt hb.2.1).trans hb.1, fun hk => ?_, hb.2.2⟩
    rcases h2 b hk with hk | hk
    · exact hb.2.1 hk
    · have := hb.lt; omega
theorem Both.mstep (h : Both w0 od pd om pm D M w) (hd : Reffed' om pm w M' w') : ∃ om', Both w0 od pd om' pm D M' w' ∧ ∀ b o, Held od om w b o → Held od om' w' b o := by
  obtain ⟨om', h1, h2, h3⟩ := hd
  refine ⟨om', ⟨h.d.mod h3 (fun k hk hk2 => h.dis k hk hk2), h1, h.fd, fun k hk => ?_, fun k hk hk2 => ?_, h.below.trans (h3.below h.below.size (fun i hi ho => by have := h.fm i ho; omega))⟩, fun b o hb => ?_⟩
  · rcases h2 k hk with hk | hk
    · exact h.fm k hk
    · have := h.below.size; omega
  · rcases h2 k hk2 with hk2 | hk2
    · exact h.dis k hk hk2
    · have := h.d.lt k hk; omega
  · refine ⟨(h3.block b hb.lt hb.2.2).trans hb.1, hb.2.1, fun hk => ?_⟩
    rcases h2 b hk with hk | hk
    · exact hb.2.2 hk
    · have := hb.lt; omega
theorem Both.new (h : Both w0 od pd om pm D M w) (b : Nat) (hb : w.heap.size ≤ b) : ¬ od b ∧ ¬ om b :=
  ⟨fun hk => by have := h.d.lt b hk; omega, fun hk => by have := h.m.lt b hk; omega⟩
/-- The document's power comes back. -/
theorem RefAt.on (h : RefAt w pm om M) : Reffed' om pm w M.On (w.setCell ⟨pm, 3, none⟩ (.bool true)) := by
  obtain ⟨sv, wv, xv, ss, xs, pb, h⟩ := h
  exact ⟨om, ⟨sv, wv, xv, ss, xs, pb, h.setp 3 (.bool true) M.On h.ok.On rfl rfl rfl⟩, fun _ hk => .inl hk, Mod.set h.op⟩
theorem RefAt.cells (h : RefAt w pm om M) : ∃ as0 cs, w.cell? ⟨pm, 0, none⟩ = some (.slice as0 M.safe.length cs) ∧ w.cell? ⟨pm, 3, none⟩ = some (.bool (!M.off)) ∧ w.cell? ⟨pm, 4, none⟩ = some (I M.ops) ∧ ∀ i, w.frozen? ⟨pm, i, none⟩ = false := by
  obtain ⟨sv, wv, xv, ss, xs, pb, h⟩ := h
  obtain ⟨as0, cs, rfl⟩ := own_form h.hs
  exact ⟨as0, cs, h.c0, h.c3, h.c4, h.fr⟩
end
/-- Both drums are made. -/
theorem both_new {w w1 w2 : World} {p p2 : Nat} {own own2 : Nat → Prop} {D : DS} (h : St w own p D w1) (h1 : RefAt w2 p2 own2 D) (h2 : ∀ k, own2 k → w1.heap.size ≤ k) (h3 : Below w1.heap.size w1 w2) : Both w own p own2 p2 D D w2 :=
  ⟨h.at'.below h3, h1, h.fresh, fun k hk => Nat.le_trans h.below.size (h2 k hk), fun k hk hk2 => by have := h.at'.lt k hk; have := h2 k hk2; omega, h.below.trans (h3.mono h.below.size)⟩
/-- A drum's rows do not grow by much. -/
theorem DS.Off_waits (D : DS) (k : Int) : (D.Off k).waits.length ≤ D.waits.length := by unfold DS.Off; split <;> simp
theorem DS.op_waits (D : DS) : D.op.waits.length ≤ D.waits.length := by
  unfold DS.op
  split
  · split
    · exact DS.Off_waits _ _
    · exact Nat.le_refl _
  · exact Nat.le_refl _
theorem DS.write_waits (D : DS) (a : Int) (l : List UInt8) : (D.write a l).2.waits.length ≤ D.waits.length + 1 := by
  unfold DS.write
  split
  · simp
  · split
    · simp
    · simp only []
      have := DS.op_waits { D with waits := D.waits ++ [(a.toNat, l)] }
      simp only [List.length_append, List.length_cons, List.length_nil] at this
      split <;> simpa using this
theorem DS.Flush_waitsR (D : DS) : D.Flush.2.waits.length ≤ D.waits.length := by
  unfold DS.Flush
  split
  · exact Nat.le_refl _
  · simp only []
    have := DS.op_waits D
    split
    · exact this
    · simp
theorem Both.drewN {w0 : World} {od : Nat → Prop} {pd : Nat} {om : Nat → Prop} {pm : Nat} {D M : DS} {w : World} (h : Both w0 od pd om pm D M w) (n : Nat) : Both w0 od pd om pm D M (w.drewN n) := h.on ⟨rfl, rfl, rfl, Nat.le_refl _, fun _ _ => rfl⟩
/-- Block b stays. -/
def KeepAt (b : Nat) (w w' : World) : Prop := w'.heap[b]? = w.heap[b]? ∧ w.heap.size ≤ w'.heap.size
theorem KeepAt.refl {b : Nat} (w : World) : KeepAt b w w := ⟨rfl, Nat.le_refl _⟩
theorem KeepAt.trans {b : Nat} (w w' w'' : World) (h : KeepAt b w w') (k : KeepAt b w' w'') : KeepAt b w w'' := ⟨k.1.trans h.1, Nat.le_trans h.2 k.2⟩
end Go.Proofs.Ytoaeapnkefjpaaa

namespace Go.Proofs.Ytoaeapnkefjpaaa
open Go.RowKit
set_option linter.unusedVariables false
set_option linter.unusedSimpArgs false

/-- The document's tape at block t, over its drum at p, of n pages. -/
structure RTapeIn (w : World) (t p n : Nat) (T : TS) : Prop where
  ok : T.Ok n
  n2 : n ≤ 4096
  ht : w.heap[t]? = some (.cells #[.pointer (some ⟨p, 0, none⟩), I T.lo, I T.hi, I T.pos, I T.count, I T.sick] 64 (0, 0))
section
variable {w w' : World} {t p n : Nat} {T : TS}
theorem RTapeIn.lt (h : RTapeIn w t p n T) : t < w.heap.size := (Array.getElem?_eq_some_iff.1 h.ht).1
theorem RTapeIn.keep (h : RTapeIn w t p n T) (hb : w'.heap[t]? = w.heap[t]?) : RTapeIn w' t p n T := ⟨h.ok, h.n2, hb.trans h.ht⟩
theorem RTapeIn.below (h : RTapeIn w t p n T) (hb : Below w.heap.size w w') : RTapeIn w' t p n T := h.keep (hb.block t h.lt)
theorem RTapeIn.mod {own : Nat → Prop} (h : RTapeIn w t p n T) (hm : Mod own w w') (ho : ¬ own t) : RTapeIn w' t p n T := h.keep (hm.block t h.lt ho)
theorem RTapeIn.c0 (h : RTapeIn w t p n T) : w.cell? ⟨t, 0, none⟩ = some (.pointer (some ⟨p, 0, none⟩)) := by rw [cell_of_row w t _ _ _ _ h.ht]; rfl
theorem RTapeIn.c1 (h : RTapeIn w t p n T) : w.cell? ⟨t, 1, none⟩ = some (I T.lo) := by rw [cell_of_row w t _ _ _ _ h.ht]; rfl
theorem RTapeIn.c2 (h : RTapeIn w t p n T) : w.cell? ⟨t, 2, none⟩ = some (I T.hi) := by rw [cell_of_row w t _ _ _ _ h.ht]; rfl
theorem RTapeIn.c3 (h : RTapeIn w t p n T) : w.cell? ⟨t, 3, none⟩ = some (I T.pos) := by rw [cell_of_row w t _ _ _ _ h.ht]; rfl
theorem RTapeIn.c4 (h : RTapeIn w t p n T) : w.cell? ⟨t, 4, none⟩ = some (I T.count) := by rw [cell_of_row w t _ _ _ _ h.ht]; rfl
theorem RTapeIn.c5 (h : RTapeIn w t p n T) : w.cell? ⟨t, 5, none⟩ = some (I T.sick) := by rw [cell_of_row w t _ _ _ _ h.ht]; rfl
theorem RTapeIn.fr (h : RTapeIn w t p n T) : ∀ i, w.frozen? ⟨t, i, none⟩ = false := frozen_row h.ht
theorem RTapeIn.bd (h : RTapeIn w t p n T) : T.lo < T.hi ∧ T.hi ≤ n ∧ n ≤ 4096 ∧ T.pos ≤ T.size ∧ T.size ≤ 1048576 ∧ T.count ≤ T.pos ∧ (T.size : Int) = 256 * ((T.hi : Int) - (T.lo : Int)) := by
  have h1 := h.ok.lt
  have h2 := h.ok.le
  have h3 := h.n2
  have h4 : T.size = (T.hi - T.lo) * 256 := rfl
  refine ⟨h1, h2, h3, h.ok.pos, ?_, h.ok.count, ?_⟩ <;> omega
end
theorem rlook_any (w : World) (p : Nat) (own : Nat → Prop) (D : DS) (a : Nat) (h : RefAt w p own D) (ha : a < D.safe.length) :
    Calls Try.prog 84 #[.pointer (some ⟨p, 0, none⟩), I a] w fun e w' => w = w' ∧ ∃ v, e = .returned v ∧ Sees w v (DS.look D.safe D.waits a) ∧ ∀ k, v.ownBlock = some k → own k := by
  obtain ⟨sv, wv, xv, ss, xs, pb, h⟩ := h
  exact (look_in w p sv wv xv ss xs pb own D a h ha).mono fun e w' ⟨h1, v, h2, h3, h4⟩ => ⟨h1, v, h2, h3, fun k hk => h.pown k (h4 k hk)⟩
theorem TS.stretch_snoc (D : DS) (lo j : Nat) : TS.stretch D lo (j + 1) = TS.stretch D lo j ++ DS.look D.safe D.waits (lo + j) := by
  unfold TS.stretch
  rw [List.range_succ, List.flatMap_append]
  simp
theorem TS.stretch_zero (D : DS) (lo : Nat) : TS.stretch D lo 0 = [] := rfl
set_option maxRecDepth 100000 in
set_option maxHeartbeats 800000 in
theorem rall_any (w : World) (t p : Nat) (own : Nat → Prop) (T : TS) (D : DS) (h : RTapeIn w t p D.safe.length T) (hd : RefAt w p own D) : Calls Try.prog 100 #[.pointer (some ⟨t, 0, none⟩)] w (Fresh w (TS.stretch D T.lo (T.hi - T.lo))) := by
  obtain ⟨b1, b2, b3, b4, b5, b6, b7⟩ := h.bd
  have hok := hd.ok
  have H := hid h
  have HD := hid hd
  obtain ⟨n, hn⟩ : ∃ n, n = T.hi - T.lo := ⟨_, rfl⟩
  rw [← hn]
  have hn1 : T.lo + n ≤ T.hi ∧ T.hi ≤ T.lo + n := by omega
  have HL := hid (fun j (hj : j ≤ n) => TS.stretch_len hok (lo := T.lo) (n := j) (by omega))
  clear h hd hok b7 b4 b5 b6 hn
  go_enter Try.func100, Try.ntmps100
  have c0 := H.out.c0
  have c1 := H.out.c1
  have c2 := H.out.c2
  go_wp2
  go_loopw [3, 4] (fun o i wr => ∃ j : Nat, j ≤ n ∧ i = I ((T.lo + j : Nat) : Int) ∧ Hid (wr.ownsRow w.heap.size 5 1 o (j * 256) ((TS.stretch D T.lo j).map B)) ∧ Hid (Below w.heap.size w wr)) (fun _ i _ => T.hi - (intOf i).toNat)
  case atStart => exact ⟨0, by omega, rfl, hid (by rw [TS.stretch_zero]; exact World.ownsRow_nil _ _ _ _), hid (Below.refl _ _)⟩
  case round =>
    clear c0 c1 c2
    obtain ⟨j, hj, rfl, HO, HB⟩ := hrel
    have c0 := (H.out.below HB.out).c0
    have c1 := (H.out.below HB.out).c1
    have c2 := (H.out.below HB.out).c2
    obtain ⟨k, hk⟩ : ∃ k, k = T.lo + j := ⟨_, rfl⟩
    rw [← hk]
    have hk1 : T.lo + j ≤ k ∧ k ≤ T.lo + j := by omega
    obtain ⟨ao, co, rfl⟩ := own_form HO.out
    by_cases hlt : j < n
    · have f1 : decide ((k : Int) < (T.hi : Int)) = true := decide_eq_true (by omega)
      have hlk := rlook_any wr p own D k (HD.out.below HB.out) (by omega)
      have HLK := hid hlk
      have hll : (DS.look D.safe D.waits k).length = 256 := DS.look_len HD.out.ok.page HD.out.ok.wait (by omega)
      have hsn := TS.stretch_snoc D T.lo j
      rw [← hk] at hsn
      have HSN := hid hsn
      have HKE := hid hk
      generalize DS.look D.safe D.waits k = q at *
      have HLL := hid hll
      clear hlk hll hsn hk
      go_wp2_with (first | (go_at_call 84; refine HLK.out.mono ?_; rintro e w' ⟨rfl, v, rfl, hs, hb⟩; have HS := hid hs; clear hs hb) | (at_builtin; go_must (refine wpList_app rfl (.tmp 17) (.tmp 23) 23 rfl w.heap.size 5 (.int .u8 0) 1 1 Try.underlying23 info5 rfl (by decide) (j * 256) ((TS.stretch D T.lo j).map B) 256 (q.map B) HO.out ?src ?h63 ?hb HB.out.size ?_)))
      case src => have := HS.out.src; rw [HLL.out] at this; exact this
      case h63 => unfold maxLen; omega
      case hb => omega
      intro v' w8 hown hgrow hat
      replace hown : w8.ownsRow w.heap.size 5 1 v' ((j + 1) * 256) ((TS.stretch D T.lo (j + 1)).map B) := own_len hown (by omega) (by rw [HSN.out, List.map_append])
      have HO8 := hid hown
      have HB8 := hid (HB.out.grown hgrow HB.out.size (fun i hi => (own_lt HO.out i hi).1))
      obtain ⟨av', cv', rfl⟩ := own_form hown
      clear hown hgrow hat HS HLK HSN
      go_wp2
      go_roundw
      case rel => exact ⟨j + 1, by omega, by rw [show T.lo + (j + 1) = k + 1 by omega]; go_num, HO8, HB8⟩
      case measure => simp [intOf]; omega
    · have f1 : decide ((k : Int) < (T.hi : Int)) = false := decide_eq_false (by omega)
      have hjn : j = n := by omega
      clear hk
      have HJN := hid hjn
      clear hjn
      go_wp2
      go_ret
      have e := HJN.out
      subst e
      exact ⟨_, rfl, own_len HO.out (HL.out j (Nat.le_refl _)).symm rfl, HB.out⟩
end Go.Proofs.Ytoaeapnkefjpaaa

namespace Go.Proofs.Ytoaeapnkefjpaaa
open Go.RowKit
set_option linter.unusedVariables false
set_option linter.unusedSimpArgs false

/-- Whole pages written one behind the other, then a flush. -/
def TS.rwr (D : DS) (a : Nat) (ps : List (List UInt8)) : Int × DS := if (TS.wr D a ps).1 ≠ 0 then TS.wr D a ps else (TS.wr D a ps).2.Flush
theorem sl_own (a : Option Addr) (cap lo hi q : Nat) (h : (sl a cap lo hi).ownBlock = some q) : ∃ x, a = some x ∧ x.block = q := by
  cases a with
  | none => unfold sl at h; split at h <;> simp [Value.ownBlock] at h
  | some x =>
    refine ⟨x, rfl, ?_⟩
    unfold sl at h
    split at h
    · simpa [Value.ownBlock] using h
    · simp only [Option.map_some, Value.ownBlock, Option.some.injEq] at h
      have e : (x.add lo).block = x.block := by unfold Addr.add; split <;> rfl
      rw [e] at h
      exact h
theorem Reffed'.trans {own : Nat → Prop} {p : Nat} {w w1 w2 : World} {D2 : DS} {own1 : Nat → Prop} (h1 : ∀ k, own1 k → own k ∨ w.heap.size ≤ k) (h2 : Mod own w w1) (h : Reffed' own1 p w1 D2 w2) : Reffed' own p w D2 w2 := by
  obtain ⟨own2, k1, k2, k3⟩ := h
  refine ⟨own2, k1, fun k hk => ?_, h2.then k3 (fun i hi ho => (h1 i ho).elim id (fun h => by omega))⟩
  rcases k2 k hk with h' | h'
  · exact h1 k h'
  · exact .inr (Nat.le_trans h2.size h')
theorem Reffed'.refl {own : Nat → Prop} {p : Nat} {w : World} {D : DS} (h : RefAt w p own D) : Reffed' own p w D w := ⟨own, h, fun _ hk => .inl hk, Mod.refl _ _⟩
theorem Reffed'.below {own : Nat → Prop} {p : Nat} {w w1 w2 : World} {D : DS} (h : Reffed' own p w1 D w2) (hb : Below w.heap.size w w1) : Reffed' own p w D w2 := Reffed'.trans (fun _ hk => .inl hk) (Mod.of_below _ hb) h
/-- Between two pages. -/
structure RW (w : World) (p : Nat) (own : Nat → Prop) (D : DS) (a : Nat) (ps : List (List UInt8)) (i : Nat) (wr : World) : Prop where
  ex : ∃ Di own', TS.wr D a (ps.take i) = (0, Di) ∧ RefAt wr p own' Di ∧ (∀ k, own' k → own k ∨ w.heap.size ≤ k) ∧ Mod own w wr
set_option maxRecDepth 100000 in
set_option maxHeartbeats 1600000 in
theorem rtwrite_any (w : World) (t p : Nat) (own : Nat → Prop) (T : TS) (D : DS) (v : Value) (b : List UInt8) (k fr : Nat) (h : RTapeIn w t p D.safe.length T) (hd : RefAt w p own D) (ht : ¬ own t) (hv : Sees w v b) (hb : b.length = k * 256) (hfr : fr ≤ 4096) (hk : k ≤ 4096) (hvo : ∀ q, v.ownBlock = some q → ¬ own q) (hN : D.waits.length + 5000 ≤ 1000000000) :
    Calls Try.prog 101 #[.pointer (some ⟨t, 0, none⟩), v, I fr] w fun e w' => e = .returned (I (TS.rwr D (T.lo + fr) (TS.pagesOf b k)).1) ∧ Reffed' own p w (TS.rwr D (T.lo + fr) (TS.pagesOf b k)).2 w' := by
  obtain ⟨b1, b2, b3, b4, b5, b6, b7⟩ := h.bd
  obtain ⟨av, cv, rfl, hbl⟩ := hv.form0
  have hcap : b.length ≤ cv ∧ cv ≤ maxLen := by
    obtain ⟨ao, c, e1, e2, e3, -⟩ := hv
    simp only [Value.slice.injEq] at e1
    obtain ⟨-, -, rfl⟩ := e1
    exact ⟨e2, e3⟩
  unfold maxLen at hcap
  obtain ⟨n, hn⟩ : ∃ n, n = b.length := ⟨_, rfl⟩
  rw [← hn] at hv hvo hcap hbl ⊢
  have hnk : n ≤ k * 256 ∧ k * 256 ≤ n := by omega
  have H := hid h
  have HD := hid hd
  have HT := hid ht
  have HV := hid hv
  have HVO := hid hvo
  have HN := hid hn
  have HBK := hid hb
  have hvlt : ∀ q, (0 < n) → (Value.slice av n cv).ownBlock = some q → q < w.heap.size := fun q hq ho => by
    obtain ⟨ao, c, e1, e2, e3, e4⟩ := HV.out
    simp only [Value.slice.injEq] at e1
    obtain ⟨rfl, _, rfl⟩ := e1
    obtain ⟨g, off, rfl, hc⟩ := e4 (by rw [← HN.out]; exact hq)
    have e : g = q := Option.some.inj ho
    subst e
    exact cell_lt (hc 0 _ (List.getElem?_eq_getElem (by rw [← HN.out]; exact hq)))
  have HVL := hid hvlt
  clear h hd ht hv hvo hn hb b4 b5 b6 b7 hvlt
  go_enter Try.func101, Try.ntmps101
  go_wp2
  go_loopw [7] (fun i wr => ∃ j : Nat, j ≤ k ∧ i = I j ∧ Hid (RW w p own D (T.lo + fr) (TS.pagesOf b k) j wr)) (fun i _ => k - (intOf i).toNat)
  case atStart => exact ⟨0, by omega, rfl, hid ⟨D, own, by simp [TS.wr], HD.out, fun _ hk => .inl hk, Mod.refl _ _⟩⟩
  case round =>
    obtain ⟨i, hi, rfl, HW⟩ := hrel
    obtain ⟨Di, own', x1, x2, x3, x4⟩ := HW.out.ex
    have hto : ¬ own' t := fun ho => (x3 t ho).elim HT.out (fun h' => by have := H.out.lt; omega)
    have HTA := hid (H.out.mod x4 HT.out)
    have hwt : Di.waits.length ≤ D.waits.length + i := by
      have := TS.wr_waits ((TS.pagesOf b k).take i) D (T.lo + fr)
      rw [x1, List.length_take] at this
      simp only at this
      omega
    have hsl : Di.safe.length = D.safe.length := by
      have := TS.wr_len ((TS.pagesOf b k).take i) D (T.lo + fr)
      rw [x1] at this
      exact this
    by_cases hlt : i < k
    · have f1 : decide ((256 : Int) * (i : Int) < (n : Int)) = true := decide_eq_true (by omega)
      have HX1 := hid x1
      have HX2 := hid (x2.below (Ext.drew wr))
      have HX3 := hid x3
      have HX4 := hid (x4.trans (Mod.drew wr))
      have hvis : Sees wr.drew (.slice av n cv) b := HV.out.keep (fun q hq => HX4.out.block q (HVL.out q (by omega) hq) (HVO.out q hq))
      have hno : ∀ q, (Value.slice av n cv).ownBlock = some q → ¬ own' q := fun q hq ho => (x3 q ho).elim (HVO.out q hq) (fun h' => by have := HVL.out q (by omega) hq; omega)
      obtain ⟨a1, c1, hs⟩ : ∃ a1 c1, sl av cv (256 * i) (256 * i + 256) = .slice a1 256 c1 := ⟨_, _, by unfold sl; rw [show 256 * i + 256 - 256 * i = 256 by omega]⟩
      have hS1 := hvis.sl (lo := 256 * i) (hi := 256 * i + 256) (by omega) (by omega)
      rw [hs] at hS1
      have hno1 : ∀ q, (Value.slice a1 256 c1).ownBlock = some q → ¬ own' q := fun q hq => by
        rw [← hs] at hq
        obtain ⟨x, rfl, rfl⟩ := sl_own av cv _ _ q hq
        exact hno _ rfl
      have e5 : ∀ w', (Instr.sliceAt 23 (.slice av n cv) (some (.int .i64 (256 * (i : Int)))) (some (.int .i64 (256 * (i : Int) + 256))) none).run Try.prog w' = .ok (.slice a1 256 c1) w' := fun w' => by
        have := run_sl av n cv (256 * i) (256 * i + 256) (by omega) (by omega) w'
        rw [hs, show ((256 * i : Nat) : Int) = 256 * (i : Int) by omega, show ((256 * i + 256 : Nat) : Int) = 256 * (i : Int) + 256 by omega] at this
        exact this
      obtain ⟨pg, hpg⟩ : ∃ pg, pg = (b.take (256 * i + 256)).drop (256 * i) := ⟨_, rfl⟩
      rw [← hpg] at hS1
      have hpl : pg.length = 256 := by rw [hpg, List.length_drop, List.length_take, ← HN.out]; omega
      have hpe : (TS.pagesOf b k)[i]? = some pg := by
        rw [(page_of b k i HBK.out hlt).1, hpg, List.drop_take, show 256 * i + 256 - 256 * i = 256 by omega, Nat.mul_comm i 256]
      have hwr := rwrite_any wr.drew p own' Di ((T.lo : Int) + (fr : Int) + (i : Int)) (.slice a1 256 c1) pg HX2.out hS1 (by omega) hno1 (by omega)
      have hcast : ((T.lo : Int) + (fr : Int) + (i : Int)) = ((T.lo + fr + i : Nat) : Int) := by omega
      obtain ⟨X, hX⟩ : ∃ X, X = Di.write ((T.lo : Int) + (fr : Int) + (i : Int)) pg := ⟨_, rfl⟩
      rw [← hX] at hwr
      obtain ⟨c, D2⟩ := X
      simp only at hwr
      have HX := hid hX
      have HCT := hid hcast
      have HWR := hid hwr
      have HPE := hid hpe
      have k0 : ∀ w', Ext wr.drew w' → w'.cell? ⟨t, 0, none⟩ = some (.pointer (some ⟨p, 0, none⟩)) := fun w' hh => (Ext.trans _ _ _ (Ext.drew wr) hh).cell HTA.out.c0
      have k1 : ∀ w', Ext wr.drew w' → w'.cell? ⟨t, 1, none⟩ = some (I T.lo) := fun w' hh => (Ext.trans _ _ _ (Ext.drew wr) hh).cell HTA.out.c1
      have hw1 : IntKind.i64.wrap ((T.lo : Int) + (fr : Int)) = (T.lo : Int) + (fr : Int) := IntWalk.i64_in _ (by omega)
      have hw2 : IntKind.i64.wrap ((T.lo : Int) + (fr : Int) + (i : Int)) = (T.lo : Int) + (fr : Int) + (i : Int) := IntWalk.i64_in _ (by omega)
      have hw3 : IntKind.i64.wrap ((256 : Int) * (i : Int)) = 256 * (i : Int) := IntWalk.i64_in _ (by omega)
      have hw4 : IntKind.i64.wrap ((256 : Int) * (i : Int) + 256) = 256 * (i : Int) + 256 := IntWalk.i64_in _ (by omega)
      have hlen : (TS.wr D (T.lo + fr) ((TS.pagesOf b k).take (i + 1))) = (c, D2) := by
        rw [take_snoc HPE.out, TS.wr_snoc D _ _ _ HX1.out, List.length_take, HX.out, HCT.out]
        congr 2
        have : (TS.pagesOf b k).length = k := by unfold TS.pagesOf; simp
        rw [this]
        omega
      have HLE := hid hlen
      clear x1 x2 x3 x4 hvis hno hs hS1 hno1 hpg hpe hwr hX hcast hlen hpl hwt hsl
      go_wp2
      refine wp_region_order Ext [19] [(0,0),(1,0),(2,0),(3,0),(4,0),(5,0),(6,0),(7,0),(8,0),(9,0),(10,0),(11,0),(12,0),(13,0),(14,0),(15,0),(16,0),(17,0),(18,0),(19,2),(20,0)] _ (by kernel_rfl) rfl Ext.refl Ext.trans (by kernel_rfl) (by simp only [pick, List.getElem?_toArray, List.getElem?_cons_zero, List.getElem?_cons_succ]; rfl) (fun c a d v w h => by cases d <;> exact h) ?_
      refine wpK_q (v := ?_) (a' := ?_) (by rfl) (fun w' hR => ?_) ?_ ?_
      rotate_left 2
      · go_simp; with_reducible rfl
      · simp only [Act.put, List.setIfInBounds_toArray, List.set_cons_zero, List.set_cons_succ]; rfl
      refine wpK_q (v := ?_) (a' := ?_) (by rfl) (fun w' hR => ?_) ?_ ?_
      rotate_left 2
      · go_simp; with_reducible rfl
      · simp only [Act.put, List.setIfInBounds_toArray, List.set_cons_zero, List.set_cons_succ]; rfl
      refine wpK_q (v := ?_) (a' := ?_) (by rfl) (fun w' hR => ?_) ?_ ?_
      rotate_left 2
      · go_simp; with_reducible rfl
      · simp only [Act.put, List.setIfInBounds_toArray, List.set_cons_zero, List.set_cons_succ]; rfl
      refine wpK_q (v := ?_) (a' := ?_) (by rfl) (fun w' hR => ?_) ?_ ?_
      rotate_left 2
      · go_simp; with_reducible rfl
      · simp only [Act.put, List.setIfInBounds_toArray, List.set_cons_zero, List.set_cons_succ]; rfl
      refine wpK_q (v := ?_) (a' := ?_) (by rfl) (fun w' hR => ?_) ?_ ?_
      rotate_left 2
      · go_simp; with_reducible rfl
      · simp only [Act.put, List.setIfInBounds_toArray, List.set_cons_zero, List.set_cons_succ]; rfl
      refine wpK_q (v := ?_) (a' := ?_) (by rfl) (fun w' hR => ?_) ?_ ?_
      rotate_left 2
      · go_simp; with_reducible rfl
      · simp only [Act.put, List.setIfInBounds_toArray, List.set_cons_zero, List.set_cons_succ]; rfl
      refine wpK_q (v := ?_) (a' := ?_) (by rfl) (fun w' hR => ?_) ?_ ?_
      rotate_left 2
      · go_simp; with_reducible rfl
      · simp only [Act.put, List.setIfInBounds_toArray, List.set_cons_zero, List.set_cons_succ]; rfl
      refine wpK_q (v := ?_) (a' := ?_) (by rfl) (fun w' hR => ?_) ?_ ?_
      rotate_left 2
      · go_simp; with_reducible rfl
      · simp only [Act.put, List.setIfInBounds_toArray, List.set_cons_zero, List.set_cons_succ]; rfl
      refine wpK_q (v := ?_) (a' := ?_) (by rfl) (fun w' hR => ?_) ?_ ?_
      rotate_left 2
      · go_simp; with_reducible rfl
      · simp only [Act.put, List.setIfInBounds_toArray, List.set_cons_zero, List.set_cons_succ]; rfl
      refine wpK_q (v := ?_) (a' := ?_) (by rfl) (fun w' hR => ?_) ?_ ?_
      rotate_left 2
      · go_simp; with_reducible rfl
      · simp only [Act.put, List.setIfInBounds_toArray, List.set_cons_zero, List.set_cons_succ]; rfl
      refine wpK_q (v := ?_) (a' := ?_) (by rfl) (fun w' hR => ?_) ?_ ?_
      rotate_left 2
      · go_simp; with_reducible rfl
      · simp only [Act.put, List.setIfInBounds_toArray, List.set_cons_zero, List.set_cons_succ]; rfl
      refine wpK_q (v := ?_) (a' := ?_) (by rfl) (fun w' hR => ?_) ?_ ?_
      rotate_left 2
      · go_simp; with_reducible rfl
      · simp only [Act.put, List.setIfInBounds_toArray, List.set_cons_zero, List.set_cons_succ]; rfl
      refine wpK_q (v := ?_) (a' := ?_) (by rfl) (fun w' hR => ?_) ?_ ?_
      rotate_left 2
      · go_simp; with_reducible rfl
      · simp only [Act.put, List.setIfInBounds_toArray, List.set_cons_zero, List.set_cons_succ]; rfl
      refine wpK_q (v := ?_) (a' := ?_) (by rfl) (fun w' hR => ?_) ?_ ?_
      rotate_left 2
      · go_simp; with_reducible rfl
      · simp only [Act.put, List.setIfInBounds_toArray, List.set_cons_zero, List.set_cons_succ]; rfl
      refine wpK_q (v := ?_) (a' := ?_) (by rfl) (fun w' hR => ?_) ?_ ?_
      rotate_left 2
      · go_simp; with_reducible rfl
      · simp only [Act.put, List.setIfInBounds_toArray, List.set_cons_zero, List.set_cons_succ]; rfl
      refine wpK_q (v := ?_) (a' := ?_) (by rfl) (fun w' hR => ?_) ?_ ?_
      rotate_left 2
      · go_simp; with_reducible rfl
      · simp only [Act.put, List.setIfInBounds_toArray, List.set_cons_zero, List.set_cons_succ]; rfl
      refine wpK_q (v := ?_) (a' := ?_) (by rfl) (fun w' hR => ?_) ?_ ?_
      rotate_left 2
      · go_simp; with_reducible rfl
      · simp only [Act.put, List.setIfInBounds_toArray, List.set_cons_zero, List.set_cons_succ]; rfl
      refine wpK_q (v := ?_) (a' := ?_) (by rfl) (fun w' hR => ?_) ?_ ?_
      rotate_left 2
      · go_simp; with_reducible rfl
      · simp only [Act.put, List.setIfInBounds_toArray, List.set_cons_zero, List.set_cons_succ]; rfl
      refine wpK_q (v := ?_) (a' := ?_) (by rfl) (fun w' hR => ?_) ?_ ?_
      rotate_left 2
      · go_simp; with_reducible rfl
      · simp only [Act.put, List.setIfInBounds_toArray, List.set_cons_zero, List.set_cons_succ]; rfl
      refine wpK_call Try.func51 (by kernel_rfl) rfl rfl (by rfl) #[.pointer (some ⟨p, 0, none⟩), .int .i64 ((T.lo : Int) + (fr : Int) + (i : Int)), .slice a1 256 c1] (by simp only [List.map_toArray, List.map_cons, List.map_nil]; rfl) ?_
      refine HWR.out.mono ?_
      rintro e w5 ⟨rfl, hre⟩
      refine ⟨_, rfl, fun hh => (by cases hh), ?_⟩
      refine wpK_q (v := ?_) (a' := ?_) (by rfl) (fun w' hR => ?_) ?_ ?_
      rotate_left 2
      · go_simp; with_reducible rfl
      · simp only [Act.put, List.setIfInBounds_toArray, List.set_cons_zero, List.set_cons_succ]; rfl
      refine wpK_done ?_
      have HRE := hid (Reffed'.trans HX3.out HX4.out hre)
      clear k0 k1 hw1 hw2 hw3 hw4 hre e5
      by_cases hc : c = 0
      · subst hc
        obtain ⟨own2, y1, y2, y3⟩ := HRE.out
        have HNX : Hid (RW w p own D (T.lo + fr) (TS.pagesOf b k) (i + 1) w5) := hid ⟨D2, own2, HLE.out, y1, y2, y3⟩
        clear y1 y2 y3 HRE HWR
        go_wp2
        go_roundw
        case rel => exact ⟨i + 1, by omega, by go_num, HNX⟩
        case measure => simp [intOf]; omega
      · have hcb : (c == 0) = false := by simpa using hc
        have HC := hid hc
        clear hc HWR
        go_wp2
        go_ret
        have hst := TS.wr_stop D (T.lo + fr) ((TS.pagesOf b k).take (i + 1)) ((TS.pagesOf b k).drop (i + 1)) (by rw [HLE.out]; exact HC.out)
        rw [List.take_append_drop] at hst
        have e : TS.rwr D (T.lo + fr) (TS.pagesOf b k) = (c, D2) := by
          unfold TS.rwr
          rw [hst, HLE.out, if_pos HC.out]
        rw [e]
        exact ⟨rfl, HRE.out⟩
    · have f1 : decide ((256 : Int) * (i : Int) < (n : Int)) = false := decide_eq_false (by omega)
      have c0 := HTA.out.c0
      have HX1 := hid x1
      have HX2 := hid x2
      have HX3 := hid x3
      have HX4 := hid x4
      have HIK := hid (show i = k by omega)
      clear x1 x2 x3 x4 hwt hsl
      go_wp2_with (go_at_call 53; refine (rflush_any _ p own' Di HX2.out).mono ?_; rintro e w5 ⟨rfl, hre⟩; have HRE := hid (Reffed'.trans HX3.out HX4.out hre); clear hre)
      go_ret
      have e : TS.rwr D (T.lo + fr) (TS.pagesOf b k) = Di.Flush := by
        have h1 := HX1.out
        rw [HIK.out, List.take_of_length_le (by unfold TS.pagesOf; simp)] at h1
        unfold TS.rwr
        rw [h1, if_neg (by simp)]
      rw [e]
      exact ⟨rfl, HRE.out⟩
end Go.Proofs.Ytoaeapnkefjpaaa

namespace Go.Proofs.Ytoaeapnkefjpaaa
open Go.RowKit
set_option linter.unusedVariables false
set_option linter.unusedSimpArgs false

theorem drop_cons {α : Type} {S : List α} {a : Nat} {x : α} (h : S[a]? = some x) : S.drop a = x :: S.drop (a + 1) := by
  obtain ⟨hlt, rfl⟩ := List.getElem?_eq_some_iff.1 h
  exact List.drop_eq_getElem_cons hlt
theorem TS.lenAt_three {S : List UInt8} {a : Nat} {x y z : UInt8} (h1 : S[a + 1]? = some x) (h2 : S[a + 2]? = some y) (h3 : S[a + 3]? = some z) : (x.toNat : Int) * 65536 + (y.toNat : Int) * 256 + (z.toNat : Int) = (TS.lenAt S a : Int) := by
  unfold TS.lenAt
  rw [drop_cons h1, drop_cons h2, drop_cons h3]
  simp only [List.take_succ_cons, List.take_zero, Sum.num, Sum.nst, List.foldl_cons, List.foldl_nil]
  omega
theorem TS.full_rec {S : List UInt8} {a n0 : Nat} (h : S[a]? = some 1) : (S.take (a + 12 + n0)).drop a = (1 :: (S.drop (a + 1)).take 11) ++ (S.drop (a + 12)).take n0 := by
  rw [List.drop_take, show a + 12 + n0 - a = (11 + n0) + 1 by omega, drop_cons h, List.take_succ_cons, List.take_add, List.drop_drop, List.cons_append]
/-- Between two rounds of the document's opening. -/
structure RO (w0 w : World) (u p n lo hi g cap bs : Nat) (S : List UInt8) (X : Int × List (List UInt8) × Nat × Nat) (v : Value) (T : TS) : Prop where
  tl : T.lo = lo
  th : T.hi = hi
  ts : T.sick = 0
  tape : RTapeIn w u p n T
  row : Sees w (.slice (some ⟨g, 0, none⟩) S.length cap) S
  lt : u < bs ∧ g < bs ∧ bs ≤ w.heap.size
  ne : u ≠ g
  ex : ∃ k acc vs pb, RecsIn w bs v vs pb acc ∧ X = TS.opened S k T.pos T.count acc ∧ S.length + 1 ≤ k + T.pos ∧ acc.length = T.count
  below : Below w0.heap.size w0 w
  fresh : w0.heap.size ≤ u
theorem RO.on {w0 w w' : World} {u p n lo hi g cap bs : Nat} {S : List UInt8} {X : Int × List (List UInt8) × Nat × Nat} {v : Value} {T : TS} (h : RO w0 w u p n lo hi g cap bs S X v T) (hb : Below w.heap.size w w') : RO w0 w' u p n lo hi g cap bs S X v T := by
  obtain ⟨k, acc, vs, pb, h1, h2⟩ := h.ex
  exact ⟨h.tl, h.th, h.ts, h.tape.below hb, h.row.below hb, ⟨h.lt.1, h.lt.2.1, Nat.le_trans h.lt.2.2 hb.size⟩, h.ne, ⟨k, acc, vs, pb, h1.keep (fun k _ hk => hb.block k hk) hb.size, h2⟩, h.below.trans (hb.mono h.below.size), h.fresh⟩
theorem RO.pos {w0 w : World} {u p n lo hi g cap bs : Nat} {S : List UInt8} {X : Int × List (List UInt8) × Nat × Nat} {v : Value} {T : TS} (h : RO w0 w u p n lo hi g cap bs S X v T) : posOf u w = T.pos := by unfold posOf; rw [h.tape.c3]; rfl
/-- What stands at the place decides. -/
theorem RO.no {w0 w : World} {u p n lo hi g cap bs : Nat} {S : List UInt8} {X : Int × List (List UInt8) × Nat × Nat} {v : Value} {T : TS} (h : RO w0 w u p n lo hi g cap bs S X v T) (hp : T.pos ≤ S.length) (hf : TS.found S T.pos T.count = .no) : ∃ acc, X = (0, acc, T.pos, T.count) ∧ Shows w v acc := by
  obtain ⟨k, acc, vs, pb, h1, h2, h3, h4⟩ := h.ex
  obtain ⟨k, rfl⟩ : ∃ j, k = j + 1 := ⟨k - 1, by omega⟩
  rw [TS.opened, hf] at h2
  exact ⟨acc, h2, Recs.shows ⟨vs, pb, h1⟩⟩
theorem RO.bad {w0 w : World} {u p n lo hi g cap bs : Nat} {S : List UInt8} {X : Int × List (List UInt8) × Nat × Nat} {v : Value} {T : TS} (h : RO w0 w u p n lo hi g cap bs S X v T) (hp : T.pos ≤ S.length) {e : Int} (hf : TS.found S T.pos T.count = .bad e) : X = (e, [], 0, 0) := by
  obtain ⟨k, acc, vs, pb, h1, h2, h3, h4⟩ := h.ex
  obtain ⟨k, rfl⟩ : ∃ j, k = j + 1 := ⟨k - 1, by omega⟩
  rw [TS.opened, hf] at h2
  exact h2
/-- A record is taken. -/
theorem RO.push {w0 w w1 : World} {u p n lo hi g cap bs : Nat} {S : List UInt8} {X : Int × List (List UInt8) × Nat × Nat} {v v' x : Value} {T : TS} {r : List UInt8} {o : Obj} (h : RO w0 w u p n lo hi g cap bs S X v T)
    {k : Nat} {acc : List (List UInt8)} {vs : List Value} {pb : Nat → Prop} (h1 : RecsIn w bs v vs pb acc) (h2 : X = TS.opened S k T.pos T.count acc) (h3 : S.length + 1 ≤ k + T.pos) (h4 : acc.length = T.count) (hS : T.size = S.length) (hf : TS.found S T.pos T.count = .yes r)
    (hx : w.ownsRow bs 5 1 x r.length (r.map B)) (hxn : ∀ q, x.ownBlock = some q → ¬ pb q ∧ v.ownBlock ≠ some q) (hown : w1.ownsRow bs 23 1 v' (acc.length + 1) (vs ++ [x])) (hgrow : (w.alloc o).grownBy w1 v.ownBlock) (hat : v'.ownBlock = v.ownBlock ∨ v'.ownBlock = some (w.heap.size + 1))
    {y3 y4 : Int} (e3 : y3 = ((T.pos + 12 + r.length : Nat) : Int)) (e4 : y4 = ((T.count + 1 : Nat) : Int)) :
    RO w0 ((w1.setCell ⟨u, 3, none⟩ (I y3)).setCell ⟨u, 4, none⟩ (I y4)) u p n lo hi g cap bs S X v' { T with pos := T.pos + 12 + r.length, count := T.count + 1 } := by
  subst e3 e4
  obtain ⟨l1, l2, l3⟩ := h.lt
  have hz : (w.alloc o).heap.size = w.heap.size + 1 := by simp
  have hk1 : ∀ q, q < w.heap.size → v.ownBlock ≠ some q → w1.heap[q]? = w.heap[q]? := fun q hq hv => (hgrow.block q (by omega) (fun e => hv e.symm)).trans (Below.heap_alloc w o q hq)
  have hvb : ∀ q, v.ownBlock = some q → bs ≤ q := fun q hq => (own_lt h1.row q hq).1
  have hu1 : w1.heap[u]? = w.heap[u]? := hk1 u (by omega) (fun e => by have := hvb u e; omega)
  have hsz := hgrow.size
  obtain ⟨f1, f2, f3, f4⟩ := TS.found_yes hf
  have hpush := h1.push hx hxn hown (fun q hq hq2 hv => hk1 q hq2 hv) (by omega) (fun q hq => by
    rcases hat with e | e
    · exact .inl (by rw [← e]; exact hq)
    · rw [e] at hq; have := Option.some.inj hq; exact .inr (by omega))
  have e1 : ∀ q, q ≠ u → ((w1.setCell ⟨u, 3, none⟩ (I ((T.pos + 12 + r.length : Nat) : Int))).setCell ⟨u, 4, none⟩ (I ((T.count + 1 : Nat) : Int))).heap[q]? = w1.heap[q]? := fun q hq => (heap_setCell_other _ ⟨u, 4, none⟩ q _ hq).trans (heap_setCell_other _ ⟨u, 3, none⟩ q _ hq)
  have hcells : ((w1.setCell ⟨u, 3, none⟩ (I ((T.pos + 12 + r.length : Nat) : Int))).setCell ⟨u, 4, none⟩ (I ((T.count + 1 : Nat) : Int))).heap[u]? = some (.cells #[.pointer (some ⟨p, 0, none⟩), I T.lo, I T.hi, I ((T.pos + 12 + r.length : Nat) : Int), I ((T.count + 1 : Nat) : Int), I T.sick] 64 (0, 0)) := by
    rw [heap_setCell_same _ u 4 _ _ _ (heap_setCell_same w1 u 3 _ _ _ (hu1.trans h.tape.ht))]
    rfl
  have hb1 : Below w0.heap.size w0 w1 := h.below.trans ⟨hgrow.os, hgrow.tape, hgrow.output, by omega, fun q hq => hk1 q (by have := h.below.size; omega) (fun e => by have := hvb q e; have := h.fresh; omega)⟩
  have hok := h.tape.ok
  refine ⟨h.tl, h.th, h.ts, ⟨⟨hok.lt, hok.le, by show T.pos + 12 + r.length ≤ T.size; omega, by show T.count + 1 ≤ T.pos + 12 + r.length; have := hok.count; omega, hok.sick⟩, h.tape.n2, hcells⟩, ?_, ⟨l1, l2, by simp; omega⟩, h.ne, ?_, ?_, h.fresh⟩
  · refine h.row.keep (fun q hq => ?_)
    have e : g = q := Option.some.inj hq
    subst e
    exact (e1 g (Ne.symm h.ne)).trans (hk1 g (by omega) (fun e => by have := hvb g e; omega))
  · refine ⟨k - 1, acc ++ [r], _, _, hpush.keep (fun q hq hq2 => e1 q (by omega)) (by simp), ?_, by show S.length + 1 ≤ k - 1 + (T.pos + 12 + r.length); omega, by rw [List.length_append, h4]; rfl⟩
    obtain ⟨j, rfl⟩ : ∃ j, k = j + 1 := ⟨k - 1, by have := hok.pos; omega⟩
    rw [TS.opened, hf] at h2
    exact h2
  · exact (hb1.setCell (p := ⟨u, 3, none⟩) h.fresh _).setCell (p := ⟨u, 4, none⟩) h.fresh _
theorem RO.cell {w0 w : World} {u p n lo hi g cap bs : Nat} {S : List UInt8} {X : Int × List (List UInt8) × Nat × Nat} {v : Value} {T : TS} (h : RO w0 w u p n lo hi g cap bs S X v T) {i : Nat} {c : UInt8} (hi : S[i]? = some c) : w.cell? ⟨g, i, none⟩ = some (B c) := by
  obtain ⟨ao, cp, e1, -, -, e4⟩ := h.row
  simp only [Value.slice.injEq] at e1
  obtain ⟨rfl, -, rfl⟩ := e1
  obtain ⟨g', off, e5, hc⟩ := e4 (by have := (List.getElem?_eq_some_iff.1 hi).1; omega)
  simp only [Option.some.injEq, Addr.mk.injEq, and_true] at e5
  obtain ⟨rfl, rfl⟩ := e5
  have := hc i c hi
  rwa [Nat.zero_add] at this
/-- What the document's Open comes to. -/
def ROpened (w0 : World) (p n lo hi : Nat) (x : Int × List (List UInt8) × Nat × Nat) (e : Ending) (w' : World) : Prop :=
  ((x.1 ≠ 0 ∧ e = .returned (.tuple #[.pointer none, .slice none 0 0, I x.1])) ∨
  (x.1 = 0 ∧ ∃ t v, e = .returned (.tuple #[.pointer (some ⟨t, 0, none⟩), v, I 0]) ∧ w0.heap.size ≤ t ∧ RTapeIn w' t p n ⟨lo, hi, x.2.2.1, x.2.2.2, 0⟩ ∧ Shows w' v x.2.1)) ∧ Below w0.heap.size w0 w'
theorem RO.fin {w0 w : World} {u p n lo hi g cap bs : Nat} {S : List UInt8} {X : Int × List (List UInt8) × Nat × Nat} {v : Value} {T : TS} (h : RO w0 w u p n lo hi g cap bs S X v T) (hp : T.pos ≤ S.length) (hf : TS.found S T.pos T.count = .no) : ROpened w0 p n lo hi X (.returned (.tuple #[.pointer (some ⟨u, 0, none⟩), v, I 0])) w := by
  obtain ⟨acc, rfl, hs⟩ := h.no hp hf
  refine ⟨.inr ⟨rfl, u, v, rfl, h.fresh, ?_, hs⟩, h.below⟩
  have ht := h.tape
  have e : T = ⟨lo, hi, T.pos, T.count, 0⟩ := by
    have h1 := h.tl
    have h2 := h.th
    have h3 := h.ts
    cases T
    simp only at h1 h2 h3
    subst h1 h2 h3
    rfl
  rw [e] at ht
  exact ht
theorem RO.gave {w0 w w' : World} {u p n lo hi g cap bs : Nat} {S : List UInt8} {X : Int × List (List UInt8) × Nat × Nat} {v : Value} {T : TS} (h : RO w0 w u p n lo hi g cap bs S X v T) (hp : T.pos ≤ S.length) {e : Int} (hf : TS.found S T.pos T.count = .bad e) (hb : Below w0.heap.size w0 w') : ROpened w0 p n lo hi X (.returned (.tuple #[.pointer none, .slice none 0 0, I e])) w' := by
  have := h.bad hp hf
  subst this
  exact ⟨.inl ⟨found_bad hf, rfl⟩, hb⟩
set_option maxRecDepth 100000 in
set_option maxHeartbeats 800000 in
theorem ropen_bad (w : World) (p : Nat) (own : Nat → Prop) (D : DS) (lo hi : Int) (hd : RefAt w p own D) (hl : -9223372036854775808 ≤ lo ∧ lo ≤ 9223372036854775807) (hh : -9223372036854775808 ≤ hi ∧ hi ≤ 9223372036854775807) (hb : lo < 0 ∨ (D.safe.length : Int) < hi ∨ hi ≤ lo) :
    Calls Try.prog 71 #[.pointer (some ⟨p, 0, none⟩), I lo, I hi] w fun e w' => e = .returned (.tuple #[.pointer none, .slice none 0 0, I 1]) ∧ w = w' := by
  obtain ⟨as0, cs, c0, c3, c4, fr⟩ := hd.cells
  have hn := hd.ok.n2
  clear hd fr
  have e1 : decide (lo < 0) = true ∨ (decide (lo < 0) = false ∧ decide ((D.safe.length : Int) < hi) = true) ∨ (decide (lo < 0) = false ∧ decide ((D.safe.length : Int) < hi) = false ∧ decide (hi ≤ lo) = true) := by
    simp only [decide_eq_true_eq, decide_eq_false_iff_not]; omega
  clear hb
  rcases e1 with e1 | ⟨e1, e2⟩ | ⟨e1, e2, e3⟩
  all_goals
    go_enter Try.func71, Try.ntmps71
    go_wp2
    go_ret3
    exact ⟨rfl, rfl⟩
set_option maxRecDepth 100000 in
set_option maxHeartbeats 800000 in
theorem ropen_down (w : World) (p : Nat) (own : Nat → Prop) (D : DS) (lo hi : Nat) (hd : RefAt w p own D) (h2 : hi ≤ D.safe.length) (h3 : lo < hi) (ho : D.off = true) :
    Calls Try.prog 71 #[.pointer (some ⟨p, 0, none⟩), I lo, I hi] w fun e w' => e = .returned (.tuple #[.pointer none, .slice none 0 0, I 20]) ∧ w = w' := by
  obtain ⟨as0, cs, c0, c3, c4, fr⟩ := hd.cells
  have hn := hd.ok.n2
  have e1 : decide ((lo : Int) < 0) = false := decide_eq_false (by omega)
  have e2 : decide ((D.safe.length : Int) < (hi : Int)) = false := decide_eq_false (by omega)
  have e3 : decide ((hi : Int) ≤ (lo : Int)) = false := decide_eq_false (by omega)
  rw [ho] at c3
  clear hd fr
  go_enter Try.func71, Try.ntmps71
  go_wp2
  go_ret3
  exact ⟨rfl, rfl⟩
set_option maxRecDepth 100000 in
set_option maxHeartbeats 3200000 in
theorem ropen_on (w : World) (p : Nat) (own : Nat → Prop) (D : DS) (lo hi : Nat) (hd : RefAt w p own D) (h2 : hi ≤ D.safe.length) (h3 : lo < hi) (ho : D.off = false) :
    Calls Try.prog 71 #[.pointer (some ⟨p, 0, none⟩), I lo, I hi] w (ROpened w p D.safe.length lo hi (TS.opened (TS.stretch D lo (hi - lo)) ((hi - lo) * 256 + 1) 0 0 [])) := by
  obtain ⟨as0, cs, c0, c3, c4, fr⟩ := hd.cells
  have hn := hd.ok.n2
  have e1 : decide ((lo : Int) < 0) = false := decide_eq_false (by omega)
  have e2 : decide ((D.safe.length : Int) < (hi : Int)) = false := decide_eq_false (by omega)
  have e3 : decide ((hi : Int) ≤ (lo : Int)) = false := decide_eq_false (by omega)
  rw [ho] at c3
  obtain ⟨S, hS⟩ : ∃ S, S = TS.stretch D lo (hi - lo) := ⟨_, rfl⟩
  have hSl : S.length = (hi - lo) * 256 := by rw [hS]; exact TS.stretch_len hd.ok (by omega)
  rw [← hS]
  obtain ⟨X, hX⟩ : ∃ X, X = TS.opened S ((hi - lo) * 256 + 1) 0 0 [] := ⟨_, rfl⟩
  rw [← hX]
  obtain ⟨T0, hT0⟩ : ∃ T0 : TS, T0 = ⟨lo, hi, 0, 0, 0⟩ := ⟨_, rfl⟩
  have htape : RTapeIn (w.alloc (.cells #[.pointer (some ⟨p, 0, none⟩), I lo, I hi, I 0, I 0, I 0] 64)) w.heap.size p D.safe.length T0 := by
    rw [hT0]
    exact ⟨⟨h3, h2, Nat.zero_le _, Nat.le_refl _, by show (-9223372036854775808 : Int) ≤ 0 ∧ (0 : Int) ≤ 9223372036854775807; omega⟩, hn, heap_alloc_new _ _⟩
  have hb0 : Below w.heap.size w (w.alloc (.cells #[.pointer (some ⟨p, 0, none⟩), I lo, I hi, I 0, I 0, I 0] 64)) := (Below.refl _ _).alloc (Nat.le_refl _) _
  have hall := rall_any _ w.heap.size p own T0 D htape (hd.below hb0)
  have hst : TS.stretch D T0.lo (T0.hi - T0.lo) = S := by rw [hT0, hS]
  rw [hst] at hall
  have HT := hid (And.intro htape (And.intro hb0 (And.intro hT0 hX)))
  have HALL := hid hall
  have HSL := hid hSl
  have hsb : S.length ≤ 1048576 := by omega
  have hs0 : 0 < S.length := by omega
  clear hd fr hS hSl hX hT0 htape hb0 hall hst c4
  go_enter Try.func71, Try.ntmps71
  go_wp2_with (go_at_call 100; go_must (refine HALL.out.mono ?_); rintro e w1 ⟨v, rfl, ho1, hb1⟩; obtain ⟨g, cap, rfl, q1, q2, q3, q4⟩ := own_slice ho1 hs0; have HO1 := hid ho1; have HB1 := hid hb1; clear ho1 hb1)
  clear HALL e1 e2 e3 c0 c3
  have hstart : RO w w1 w.heap.size p D.safe.length lo hi g cap w1.heap.size S X (.slice none 0 0) T0 := by
    obtain ⟨t1, t2, t3, t4⟩ := HT.out
    have z : (w.alloc (.cells #[.pointer (some ⟨p, 0, none⟩), I lo, I hi, I 0, I 0, I 0] 64)).heap.size = w.heap.size + 1 := by simp
    have hz1 := HB1.out.size
    refine ⟨by rw [t3], by rw [t3], by rw [t3], t1.below HB1.out, own_sees' HO1.out rfl, ⟨by omega, q4, Nat.le_refl _⟩, by omega, ⟨_, [], [], fun _ => False, RecsIn.nil _ _, by rw [t4, t3], by rw [t3]; show S.length + 1 ≤ (hi - lo) * 256 + 1 + 0; have := HSL.out; omega, by rw [t3]; rfl⟩, t2.trans (HB1.out.mono (by omega)), Nat.le_refl _⟩
  have HST := hid hstart
  have hcp : S.length ≤ cap ∧ cap ≤ 9223372036854775807 := ⟨q1, by unfold maxLen at q2; omega⟩
  clear hstart HT HO1 HB1 q1 q2 q3 q4
  generalize hu : w.heap.size = u at HST ⊢
  have HU := hid hu
  clear hu
  generalize hbs : w1.heap.size = bs at HST
  clear hbs
  go_loopw [12] (fun o wr => ∃ T, Hid (RO w wr u p D.safe.length lo hi g cap bs S X o T)) (fun _ wr => S.length - posOf u wr)
  case atStart => exact ⟨T0, HST⟩
  case round =>
    clear HST
    obtain ⟨T, HR⟩ := hrel
    have hsz : T.size = S.length := by unfold TS.size; rw [HR.out.tl, HR.out.th, HSL.out]
    have hpos : T.pos ≤ S.length := by rw [← hsz]; exact HR.out.tape.ok.pos
    have hcnt : T.count ≤ S.length := Nat.le_trans HR.out.tape.ok.count hpos
    have HSZ := hid hsz
    have c3 := HR.out.tape.c3
    clear hsz
    by_cases hA : S.length < T.pos + 12
    · have f1 : decide ((T.pos : Int) + 12 ≤ (S.length : Int)) = false := decide_eq_false (by omega)
      have HF : Hid (TS.found S T.pos T.count = .no) := hid (by unfold TS.found; rw [if_pos hA])
      clear hA
      go_wp2
      go_ret3
      exact HR.out.fin hpos HF.out
    have f1 : decide ((T.pos : Int) + 12 ≤ (S.length : Int)) = true := decide_eq_true (by omega)
    obtain ⟨b0, hb0⟩ : ∃ b0, S[T.pos]? = some b0 := ⟨_, List.getElem?_eq_getElem (by omega)⟩
    have g0 := HR.out.cell hb0
    have hgd : S.getD T.pos 0 = b0 := by rw [List.getD_eq_getElem?_getD, hb0]; rfl
    have HGD := hid hgd
    have HB0 := hid hb0
    clear hgd hb0
    by_cases hB : b0 = 0
    · have f2 : ((b0.toNat : Int) == 0) = true := by rw [hB]; rfl
      have HF : Hid (TS.found S T.pos T.count = .no) := hid (by unfold TS.found; rw [if_neg hA, if_pos (by rw [HGD.out, hB])])
      clear hB
      have hlt : T.pos < S.length := by omega
      clear hA
      go_wp2
      go_ret3
      exact HR.out.fin hpos HF.out
    have f2 : ((b0.toNat : Int) == 0) = false := by
      rw [beq_eq_false_iff_ne]
      intro e
      apply hB
      have : b0.toNat = 0 := by omega
      exact UInt8.toNat_inj.1 this
    obtain ⟨b1, hb1⟩ : ∃ b1, S[T.pos + 1]? = some b1 := ⟨_, List.getElem?_eq_getElem (by omega)⟩
    obtain ⟨b2, hb2⟩ : ∃ b2, S[T.pos + 2]? = some b2 := ⟨_, List.getElem?_eq_getElem (by omega)⟩
    obtain ⟨b3, hb3⟩ : ∃ b3, S[T.pos + 3]? = some b3 := ⟨_, List.getElem?_eq_getElem (by omega)⟩
    have hn0 := TS.lenAt_three hb1 hb2 hb3
    obtain ⟨n0, hn0e⟩ : ∃ n0, n0 = TS.lenAt S T.pos := ⟨_, rfl⟩
    rw [← hn0e] at hn0
    have hn0b : n0 < 16777216 := by rw [hn0e]; exact TS.lenAt_lt _ _
    have HN0 := hid hn0e
    have l1 := b1.toNat_lt
    have l2 := b2.toNat_lt
    have l3 := b3.toNat_lt
    have k0 : ∀ w', Ext wr.drew w' → w'.cell? ⟨u, 3, none⟩ = some (I T.pos) := fun w' hh => (Ext.trans _ _ _ (Ext.drew wr) hh).cell c3
    have k1 : ∀ w', Ext wr.drew w' → w'.cell? ⟨g, T.pos + 1, none⟩ = some (B b1) := fun w' hh => (Ext.trans _ _ _ (Ext.drew wr) hh).cell (HR.out.cell hb1)
    have k2 : ∀ w', Ext wr.drew w' → w'.cell? ⟨g, T.pos + 2, none⟩ = some (B b2) := fun w' hh => (Ext.trans _ _ _ (Ext.drew wr) hh).cell (HR.out.cell hb2)
    have k3 : ∀ w', Ext wr.drew w' → w'.cell? ⟨g, T.pos + 3, none⟩ = some (B b3) := fun w' hh => (Ext.trans _ _ _ (Ext.drew wr) hh).cell (HR.out.cell hb3)
    have HBN := hid hB
    have x1 : IntKind.i64.wrap ((T.pos : Int) + 1) = (T.pos : Int) + 1 := IntWalk.i64_in _ (by omega)
    have x2 : IntKind.i64.wrap ((T.pos : Int) + 2) = (T.pos : Int) + 2 := IntWalk.i64_in _ (by omega)
    have x3 : IntKind.i64.wrap ((T.pos : Int) + 3) = (T.pos : Int) + 3 := IntWalk.i64_in _ (by omega)
    have y1 : (0 : Int) ≤ (T.pos : Int) + 1 ∧ (T.pos : Int) + 1 < (S.length : Int) := by omega
    have y2 : (0 : Int) ≤ (T.pos : Int) + 2 ∧ (T.pos : Int) + 2 < (S.length : Int) := by omega
    have y3 : (0 : Int) ≤ (T.pos : Int) + 3 ∧ (T.pos : Int) + 3 < (S.length : Int) := by omega
    have t1 : ((T.pos : Int) + 1).toNat = T.pos + 1 := by omega
    have t2 : ((T.pos : Int) + 2).toNat = T.pos + 2 := by omega
    have t3 : ((T.pos : Int) + 3).toNat = T.pos + 3 := by omega
    have z1 : IntKind.i64.wrap (b1.toNat : Int) = (b1.toNat : Int) := IntWalk.i64_in _ (by omega)
    have z2 : IntKind.i64.wrap (b2.toNat : Int) = (b2.toNat : Int) := IntWalk.i64_in _ (by omega)
    have z3 : IntKind.i64.wrap (b3.toNat : Int) = (b3.toNat : Int) := IntWalk.i64_in _ (by omega)
    have z4 : IntKind.i64.wrap ((b1.toNat : Int) * 65536) = (b1.toNat : Int) * 65536 := IntWalk.i64_in _ (by omega)
    have z5 : IntKind.i64.wrap ((b2.toNat : Int) * 256) = (b2.toNat : Int) * 256 := IntWalk.i64_in _ (by omega)
    have z6 : IntKind.i64.wrap ((b1.toNat : Int) * 65536 + (b2.toNat : Int) * 256) = (b1.toNat : Int) * 65536 + (b2.toNat : Int) * 256 := IntWalk.i64_in _ (by omega)
    have z7 : IntKind.i64.wrap ((b1.toNat : Int) * 65536 + (b2.toNat : Int) * 256 + (b3.toNat : Int)) = (n0 : Int) := by rw [hn0]; exact IntWalk.i64_in _ (by omega)
    clear hb1 hb2 hb3 hn0e hB hn0
    go_wp2
    refine wp_region_order Ext [] [(0,0),(1,0),(2,0),(3,0),(4,0),(5,0),(6,0),(7,0),(8,0),(9,0),(10,0),(11,0),(12,0),(13,0),(14,0),(15,0),(16,0),(17,0),(18,0),(19,0),(20,0),(21,0),(22,0),(23,0),(24,0),(25,0),(26,0),(27,0),(28,0),(29,0),(30,0),(31,0)] _ (by kernel_rfl) rfl Ext.refl Ext.trans (by kernel_rfl) (by simp only [pick, List.getElem?_toArray, List.getElem?_cons_zero, List.getElem?_cons_succ]; rfl) (fun c a d v w h => by cases d <;> exact h) ?_
    refine wpK_q (v := ?_) (a' := ?_) (by rfl) (fun w' hR => ?_) ?_ ?_
    rotate_left 2
    · go_simp; with_reducible rfl
    · simp only [Act.put, List.setIfInBounds_toArray, List.set_cons_zero, List.set_cons_succ]; rfl
    refine wpK_q (v := ?_) (a' := ?_) (by rfl) (fun w' hR => ?_) ?_ ?_
    rotate_left 2
    · go_simp; with_reducible rfl
    · simp only [Act.put, List.setIfInBounds_toArray, List.set_cons_zero, List.set_cons_succ]; rfl
    refine wpK_q (v := ?_) (a' := ?_) (by rfl) (fun w' hR => ?_) ?_ ?_
    rotate_left 2
    · go_simp; with_reducible rfl
    · simp only [Act.put, List.setIfInBounds_toArray, List.set_cons_zero, List.set_cons_succ]; rfl
    refine wpK_q (v := ?_) (a' := ?_) (by rfl) (fun w' hR => ?_) ?_ ?_
    rotate_left 2
    · go_simp; with_reducible rfl
    · simp only [Act.put, List.setIfInBounds_toArray, List.set_cons_zero, List.set_cons_succ]; rfl
    refine wpK_q (v := ?_) (a' := ?_) (by rfl) (fun w' hR => ?_) ?_ ?_
    rotate_left 2
    · go_simp; with_reducible rfl
    · simp only [Act.put, List.setIfInBounds_toArray, List.set_cons_zero, List.set_cons_succ]; rfl
    refine wpK_q (v := ?_) (a' := ?_) (by rfl) (fun w' hR => ?_) ?_ ?_
    rotate_left 2
    · go_simp; with_reducible rfl
    · simp only [Act.put, List.setIfInBounds_toArray, List.set_cons_zero, List.set_cons_succ]; rfl
    refine wpK_q (v := ?_) (a' := ?_) (by rfl) (fun w' hR => ?_) ?_ ?_
    rotate_left 2
    · go_simp; with_reducible rfl
    · simp only [Act.put, List.setIfInBounds_toArray, List.set_cons_zero, List.set_cons_succ]; rfl
    refine wpK_q (v := ?_) (a' := ?_) (by rfl) (fun w' hR => ?_) ?_ ?_
    rotate_left 2
    · go_simp; with_reducible rfl
    · simp only [Act.put, List.setIfInBounds_toArray, List.set_cons_zero, List.set_cons_succ]; rfl
    refine wpK_q (v := ?_) (a' := ?_) (by rfl) (fun w' hR => ?_) ?_ ?_
    rotate_left 2
    · go_simp; with_reducible rfl
    · simp only [Act.put, List.setIfInBounds_toArray, List.set_cons_zero, List.set_cons_succ]; rfl
    refine wpK_q (v := ?_) (a' := ?_) (by rfl) (fun w' hR => ?_) ?_ ?_
    rotate_left 2
    · go_simp; with_reducible rfl
    · simp only [Act.put, List.setIfInBounds_toArray, List.set_cons_zero, List.set_cons_succ]; rfl
    refine wpK_q (v := ?_) (a' := ?_) (by rfl) (fun w' hR => ?_) ?_ ?_
    rotate_left 2
    · go_simp; with_reducible rfl
    · simp only [Act.put, List.setIfInBounds_toArray, List.set_cons_zero, List.set_cons_succ]; rfl
    refine wpK_q (v := ?_) (a' := ?_) (by rfl) (fun w' hR => ?_) ?_ ?_
    rotate_left 2
    · go_simp; with_reducible rfl
    · simp only [Act.put, List.setIfInBounds_toArray, List.set_cons_zero, List.set_cons_succ]; rfl
    refine wpK_q (v := ?_) (a' := ?_) (by rfl) (fun w' hR => ?_) ?_ ?_
    rotate_left 2
    · go_simp; with_reducible rfl
    · simp only [Act.put, List.setIfInBounds_toArray, List.set_cons_zero, List.set_cons_succ]; rfl
    refine wpK_q (v := ?_) (a' := ?_) (by rfl) (fun w' hR => ?_) ?_ ?_
    rotate_left 2
    · go_simp; with_reducible rfl
    · simp only [Act.put, List.setIfInBounds_toArray, List.set_cons_zero, List.set_cons_succ]; rfl
    refine wpK_q (v := ?_) (a' := ?_) (by rfl) (fun w' hR => ?_) ?_ ?_
    rotate_left 2
    · go_simp; with_reducible rfl
    · simp only [Act.put, List.setIfInBounds_toArray, List.set_cons_zero, List.set_cons_succ]; rfl
    refine wpK_q (v := ?_) (a' := ?_) (by rfl) (fun w' hR => ?_) ?_ ?_
    rotate_left 2
    · go_simp; with_reducible rfl
    · simp only [Act.put, List.setIfInBounds_toArray, List.set_cons_zero, List.set_cons_succ]; rfl
    refine wpK_q (v := ?_) (a' := ?_) (by rfl) (fun w' hR => ?_) ?_ ?_
    rotate_left 2
    · go_simp; with_reducible rfl
    · simp only [Act.put, List.setIfInBounds_toArray, List.set_cons_zero, List.set_cons_succ]; rfl
    refine wpK_q (v := ?_) (a' := ?_) (by rfl) (fun w' hR => ?_) ?_ ?_
    rotate_left 2
    · go_simp; with_reducible rfl
    · simp only [Act.put, List.setIfInBounds_toArray, List.set_cons_zero, List.set_cons_succ]; rfl
    refine wpK_q (v := ?_) (a' := ?_) (by rfl) (fun w' hR => ?_) ?_ ?_
    rotate_left 2
    · go_simp; with_reducible rfl
    · simp only [Act.put, List.setIfInBounds_toArray, List.set_cons_zero, List.set_cons_succ]; rfl
    refine wpK_q (v := ?_) (a' := ?_) (by rfl) (fun w' hR => ?_) ?_ ?_
    rotate_left 2
    · go_simp; with_reducible rfl
    · simp only [Act.put, List.setIfInBounds_toArray, List.set_cons_zero, List.set_cons_succ]; rfl
    refine wpK_q (v := ?_) (a' := ?_) (by rfl) (fun w' hR => ?_) ?_ ?_
    rotate_left 2
    · go_simp; with_reducible rfl
    · simp only [Act.put, List.setIfInBounds_toArray, List.set_cons_zero, List.set_cons_succ]; rfl
    refine wpK_q (v := ?_) (a' := ?_) (by rfl) (fun w' hR => ?_) ?_ ?_
    rotate_left 2
    · go_simp; with_reducible rfl
    · simp only [Act.put, List.setIfInBounds_toArray, List.set_cons_zero, List.set_cons_succ]; rfl
    refine wpK_q (v := ?_) (a' := ?_) (by rfl) (fun w' hR => ?_) ?_ ?_
    rotate_left 2
    · go_simp; with_reducible rfl
    · simp only [Act.put, List.setIfInBounds_toArray, List.set_cons_zero, List.set_cons_succ]; rfl
    refine wpK_q (v := ?_) (a' := ?_) (by rfl) (fun w' hR => ?_) ?_ ?_
    rotate_left 2
    · go_simp; with_reducible rfl
    · simp only [Act.put, List.setIfInBounds_toArray, List.set_cons_zero, List.set_cons_succ]; rfl
    refine wpK_q (v := ?_) (a' := ?_) (by rfl) (fun w' hR => ?_) ?_ ?_
    rotate_left 2
    · go_simp; with_reducible rfl
    · simp only [Act.put, List.setIfInBounds_toArray, List.set_cons_zero, List.set_cons_succ]; rfl
    refine wpK_q (v := ?_) (a' := ?_) (by rfl) (fun w' hR => ?_) ?_ ?_
    rotate_left 2
    · go_simp; with_reducible rfl
    · simp only [Act.put, List.setIfInBounds_toArray, List.set_cons_zero, List.set_cons_succ]; rfl
    refine wpK_q (v := ?_) (a' := ?_) (by rfl) (fun w' hR => ?_) ?_ ?_
    rotate_left 2
    · go_simp; with_reducible rfl
    · simp only [Act.put, List.setIfInBounds_toArray, List.set_cons_zero, List.set_cons_succ]; rfl
    refine wpK_q (v := ?_) (a' := ?_) (by rfl) (fun w' hR => ?_) ?_ ?_
    rotate_left 2
    · go_simp; with_reducible rfl
    · simp only [Act.put, List.setIfInBounds_toArray, List.set_cons_zero, List.set_cons_succ]; rfl
    refine wpK_q (v := ?_) (a' := ?_) (by rfl) (fun w' hR => ?_) ?_ ?_
    rotate_left 2
    · go_simp; with_reducible rfl
    · simp only [Act.put, List.setIfInBounds_toArray, List.set_cons_zero, List.set_cons_succ]; rfl
    refine wpK_q (v := ?_) (a' := ?_) (by rfl) (fun w' hR => ?_) ?_ ?_
    rotate_left 2
    · go_simp; with_reducible rfl
    · simp only [Act.put, List.setIfInBounds_toArray, List.set_cons_zero, List.set_cons_succ]; rfl
    refine wpK_q (v := ?_) (a' := ?_) (by rfl) (fun w' hR => ?_) ?_ ?_
    rotate_left 2
    · go_simp; with_reducible rfl
    · simp only [Act.put, List.setIfInBounds_toArray, List.set_cons_zero, List.set_cons_succ]; rfl
    refine wpK_q (v := ?_) (a' := ?_) (by rfl) (fun w' hR => ?_) ?_ ?_
    rotate_left 2
    · go_simp; with_reducible rfl
    · simp only [Act.put, List.setIfInBounds_toArray, List.set_cons_zero, List.set_cons_succ]; rfl
    refine wpK_done ?_
    clear k0 k1 k2 k3 l1 l2 l3 f1 f2 x1 x2 x3 y1 y2 y3 t1 t2 t3 z1 z2 z3 z4 z5 z6 z7
    have HRd := hid (HR.out.on (Ext.drew wr))
    have g0' : wr.drew.cell? ⟨g, T.pos, none⟩ = some (B b0) := g0
    have c3' : wr.drew.cell? ⟨u, 3, none⟩ = some (I T.pos) := c3
    have HP0 := hid HR.out.pos
    have HBW0 : Hid (bs ≤ wr.drew.heap.size) := hid HR.out.lt.2.2
    have HWD : Hid (Below wr.heap.size wr wr.drew ∧ wr.drew.heap.size = wr.heap.size) := hid ⟨Ext.drew wr, rfl⟩
    clear g0 c3
    generalize wr.drew = wd at *
    by_cases hbad : ¬ (b0 = 1 ∧ n0 ≤ 65536 ∧ T.pos + 12 + n0 ≤ S.length)
    · have HF : Hid (TS.found S T.pos T.count = .bad 11) := hid (by
        unfold TS.found
        rw [if_neg hA, if_neg (by rw [HGD.out]; exact HBN.out), HGD.out, ← HN0.out, if_neg hbad])
      have hw1 : IntKind.i64.wrap ((T.pos : Int) + 12 + (n0 : Int)) = (T.pos : Int) + 12 + (n0 : Int) := IntWalk.i64_in _ (by omega)
      have e1 : ((b0.toNat : Int) == 1) = false ∨ (((b0.toNat : Int) == 1) = true ∧ decide ((65536 : Int) < (n0 : Int)) = true) ∨ (((b0.toNat : Int) == 1) = true ∧ decide ((65536 : Int) < (n0 : Int)) = false ∧ decide ((S.length : Int) < (T.pos : Int) + 12 + (n0 : Int)) = true) := by
        by_cases h1 : b0 = 1
        · have e : ((b0.toNat : Int) == 1) = true := by rw [h1]; rfl
          by_cases h2 : n0 ≤ 65536
          · have h3 : ¬ (T.pos + 12 + n0 ≤ S.length) := fun h => hbad ⟨h1, h2, h⟩
            exact .inr (.inr ⟨e, decide_eq_false (by omega), decide_eq_true (by omega)⟩)
          · exact .inr (.inl ⟨e, decide_eq_true (by omega)⟩)
        · refine .inl ?_
          rw [beq_eq_false_iff_ne]
          intro e
          apply h1
          have : b0.toNat = 1 := by omega
          exact UInt8.toNat_inj.1 this
      clear hbad
      simp only [beq_eq_false_iff_ne, ne_eq, beq_iff_eq, decide_eq_true_eq, decide_eq_false_iff_not] at e1
      rcases e1 with e1 | ⟨e1, e2⟩ | ⟨e1, e2, e3⟩
      all_goals
        go_wp2
        go_ret3
        exact HRd.out.gave hpos HF.out HRd.out.below
    obtain ⟨hb1, hn1, hn2⟩ := Classical.not_not.1 hbad
    clear hbad
    have e1 : (b0.toNat : Int) = 1 := by rw [hb1]; rfl
    have HB1 := hid hb1
    clear hb1
    have e2 : ¬ ((65536 : Int) < (n0 : Int)) := by omega
    have e3 : ¬ ((S.length : Int) < (T.pos : Int) + 12 + (n0 : Int)) := by omega
    have w12 : IntKind.i64.wrap ((T.pos : Int) + 12) = (T.pos : Int) + 12 := IntWalk.i64_in _ (by omega)
    have w12n : IntKind.i64.wrap ((T.pos : Int) + 12 + (n0 : Int)) = (T.pos : Int) + 12 + (n0 : Int) := IntWalk.i64_in _ (by omega)
    go_upto_region 13 with (fail)
    obtain ⟨r, hr⟩ : ∃ r, r = (S.drop (T.pos + 12)).take n0 := ⟨_, rfl⟩
    have hrl : r.length = n0 := by rw [hr, List.length_take, List.length_drop]; omega
    obtain ⟨a1, q1, hs1⟩ : ∃ a1 q1, sl (some ⟨g, 0, none⟩) cap (T.pos + 12) (T.pos + 12 + n0) = .slice a1 n0 q1 := ⟨_, _, by unfold sl; rw [show T.pos + 12 + n0 - (T.pos + 12) = n0 by omega]⟩
    have hS1 := HRd.out.row.sl (lo := T.pos + 12) (hi := T.pos + 12 + n0) (by omega) (by omega)
    rw [hs1, List.drop_take, show T.pos + 12 + n0 - (T.pos + 12) = n0 by omega, ← hr] at hS1
    have e5 : ∀ w', (Instr.sliceAt 23 (.slice (some ⟨g, 0, none⟩) S.length cap) (some (.int .i64 ((T.pos : Int) + 12))) (some (.int .i64 ((T.pos : Int) + 12 + (n0 : Int)))) none).run Try.prog w' = .ok (.slice a1 n0 q1) w' := fun w' => by
      have := run_sl (some ⟨g, 0, none⟩) S.length cap (T.pos + 12) (T.pos + 12 + n0) (by omega) (by omega) w'
      rw [hs1, show ((T.pos + 12 : Nat) : Int) = (T.pos : Int) + 12 by omega, show ((T.pos + 12 + n0 : Nat) : Int) = (T.pos : Int) + 12 + (n0 : Int) by omega] at this
      exact this
    have k0 : ∀ w', Ext wd.drew w' → w'.cell? ⟨u, 3, none⟩ = some (I T.pos) := fun w' hh => (Ext.trans _ _ _ (Ext.drew wd) hh).cell c3'
    have HS1 := hid hS1
    have HRR := hid (And.intro hr hrl)
    clear hS1 hr hs1 hrl g0' c3'
    refine wp_region_order Ext [15] [(1,0),(2,0),(3,0),(4,0),(5,0),(6,0),(7,0),(8,0),(9,0),(10,0),(11,0),(12,0),(13,0),(14,0),(0,1),(15,2),(16,0)] _ (by kernel_rfl) rfl Ext.refl Ext.trans (by kernel_rfl) (by simp only [pick, List.getElem?_toArray, List.getElem?_cons_zero, List.getElem?_cons_succ]; rfl) (fun c a d v w h => by cases d <;> exact h) ?_
    refine wpK_q (v := ?_) (a' := ?_) (by rfl) (fun w' hR => ?_) ?_ ?_
    rotate_left 2
    · go_simp; with_reducible rfl
    · simp only [Act.put, List.setIfInBounds_toArray, List.set_cons_zero, List.set_cons_succ]; rfl
    refine wpK_q (v := ?_) (a' := ?_) (by rfl) (fun w' hR => ?_) ?_ ?_
    rotate_left 2
    · go_simp; with_reducible rfl
    · simp only [Act.put, List.setIfInBounds_toArray, List.set_cons_zero, List.set_cons_succ]; rfl
    refine wpK_q (v := ?_) (a' := ?_) (by rfl) (fun w' hR => ?_) ?_ ?_
    rotate_left 2
    · go_simp; with_reducible rfl
    · simp only [Act.put, List.setIfInBounds_toArray, List.set_cons_zero, List.set_cons_succ]; rfl
    refine wpK_q (v := ?_) (a' := ?_) (by rfl) (fun w' hR => ?_) ?_ ?_
    rotate_left 2
    · go_simp; with_reducible rfl
    · simp only [Act.put, List.setIfInBounds_toArray, List.set_cons_zero, List.set_cons_succ]; rfl
    refine wpK_q (v := ?_) (a' := ?_) (by rfl) (fun w' hR => ?_) ?_ ?_
    rotate_left 2
    · go_simp; with_reducible rfl
    · simp only [Act.put, List.setIfInBounds_toArray, List.set_cons_zero, List.set_cons_succ]; rfl
    refine wpK_q (v := ?_) (a' := ?_) (by rfl) (fun w' hR => ?_) ?_ ?_
    rotate_left 2
    · go_simp; with_reducible rfl
    · simp only [Act.put, List.setIfInBounds_toArray, List.set_cons_zero, List.set_cons_succ]; rfl
    refine wpK_q (v := ?_) (a' := ?_) (by rfl) (fun w' hR => ?_) ?_ ?_
    rotate_left 2
    · go_simp; with_reducible rfl
    · simp only [Act.put, List.setIfInBounds_toArray, List.set_cons_zero, List.set_cons_succ]; rfl
    refine wpK_q (v := ?_) (a' := ?_) (by rfl) (fun w' hR => ?_) ?_ ?_
    rotate_left 2
    · go_simp; with_reducible rfl
    · simp only [Act.put, List.setIfInBounds_toArray, List.set_cons_zero, List.set_cons_succ]; rfl
    refine wpK_q (v := ?_) (a' := ?_) (by rfl) (fun w' hR => ?_) ?_ ?_
    rotate_left 2
    · go_simp; with_reducible rfl
    · simp only [Act.put, List.setIfInBounds_toArray, List.set_cons_zero, List.set_cons_succ]; rfl
    refine wpK_q (v := ?_) (a' := ?_) (by rfl) (fun w' hR => ?_) ?_ ?_
    rotate_left 2
    · go_simp; with_reducible rfl
    · simp only [Act.put, List.setIfInBounds_toArray, List.set_cons_zero, List.set_cons_succ]; rfl
    refine wpK_q (v := ?_) (a' := ?_) (by rfl) (fun w' hR => ?_) ?_ ?_
    rotate_left 2
    · go_simp; with_reducible rfl
    · simp only [Act.put, List.setIfInBounds_toArray, List.set_cons_zero, List.set_cons_succ]; rfl
    refine wpK_q (v := ?_) (a' := ?_) (by rfl) (fun w' hR => ?_) ?_ ?_
    rotate_left 2
    · go_simp; with_reducible rfl
    · simp only [Act.put, List.setIfInBounds_toArray, List.set_cons_zero, List.set_cons_succ]; rfl
    refine wpK_q (v := ?_) (a' := ?_) (by rfl) (fun w' hR => ?_) ?_ ?_
    rotate_left 2
    · go_simp; with_reducible rfl
    · simp only [Act.put, List.setIfInBounds_toArray, List.set_cons_zero, List.set_cons_succ]; rfl
    refine wpK_q (v := ?_) (a' := ?_) (by rfl) (fun w' hR => ?_) ?_ ?_
    rotate_left 2
    · go_simp; with_reducible rfl
    · simp only [Act.put, List.setIfInBounds_toArray, List.set_cons_zero, List.set_cons_succ]; rfl
    refine wpK_v (v := .slice (some ⟨wd.heap.size, 0, none⟩) 0 0) (w' := wd.drew.alloc (.cells #[] 5)) (by rfl) (by go_simp) (fun _ => (Below.refl _ _).alloc (Nat.le_refl _) _) (by simp only [Act.put, List.setIfInBounds_toArray, List.set_cons_zero, List.set_cons_succ]; rfl) ?_
    have hown0 : (wd.drew.alloc (.cells #[] 5)).ownsRow wd.heap.size 5 1 (.slice (some ⟨wd.heap.size, 0, none⟩) 0 0) 0 [] := World.ownsRow_made wd.drew #[] 0 (Nat.le_refl _) (Nat.zero_le _) rfl
    have hsrc : Src (wd.drew.alloc (.cells #[] 5)) 1 (.slice a1 n0 q1) n0 (r.map B) := by
      have := (HS1.out.below (Ext.trans _ _ _ (Ext.drew wd) ((Below.refl _ _).alloc (Nat.le_refl _) (.cells #[] 5)))).src
      rw [HRR.out.2] at this
      exact this
    obtain ⟨v5, w3, hr3, ho3, hg3, hb3⟩ := run_app (P := Try.prog) _ wd.heap.size 23 23 5 _ 1 1 Try.underlying23 info5 rfl (by decide) _ 0 [] hown0 (.slice a1 n0 q1) n0 (r.map B) hsrc (by unfold maxLen; omega) (by omega) (by simp)
    refine wpK_v (by rfl) (exec_append rfl _ (by simp only [List.map_toArray, List.map_cons, List.map_nil]; rfl) hr3) (fun h => by cases h) (by simp only [Act.put, List.setIfInBounds_toArray, List.set_cons_zero, List.set_cons_succ]; rfl) ?_
    refine wpK_q (v := ?_) (a' := ?_) (by rfl) (fun w' hR => ?_) ?_ ?_
    rotate_left 2
    · go_simp; with_reducible rfl
    · simp only [Act.put, List.setIfInBounds_toArray, List.set_cons_zero, List.set_cons_succ]; rfl
    refine wpK_done ?_
    have hb30 : Below wd.heap.size wd w3 := (Ext.trans _ _ _ (Ext.drew wd) ((Below.refl _ _).alloc (Nat.le_refl _) _)).below.grown hg3 (by simp) (fun k hk => by cases hk; exact Nat.le_refl _)
    have ho30 := own_len ho3 (show 0 + n0 = n0 by omega) (show [] ++ r.map B = r.map B from rfl)
    obtain ⟨a5, q5, rfl⟩ := own_form ho30
    have HO3 := hid ho30
    have HB3 := hid hb30
    have HBW := HBW0
    have HR3 := hid (HRd.out.on hb30)
    have e6 := run_sl (some ⟨g, 0, none⟩) S.length cap T.pos (T.pos + 12 + n0) (by omega) (by omega)
    obtain ⟨m0, hm0⟩ : ∃ m0, m0 = 12 + n0 := ⟨_, rfl⟩
    obtain ⟨a2, q2, hs2⟩ : ∃ a2 q2, sl (some ⟨g, 0, none⟩) cap T.pos (T.pos + 12 + n0) = .slice a2 m0 q2 := ⟨_, _, by unfold sl; rw [show T.pos + 12 + n0 - T.pos = m0 by omega]⟩
    rw [hs2, show ((T.pos + 12 + n0 : Nat) : Int) = (T.pos : Int) + 12 + (n0 : Int) by omega] at e6
    have hS2 := HR3.out.row.sl (lo := T.pos) (hi := T.pos + 12 + n0) (by omega) (by omega)
    rw [hs2, TS.full_rec (by rw [HB0.out, HB1.out]), ← HRR.out.1] at hS2
    obtain ⟨X2, hX2⟩ : ∃ X2, X2 = 1 :: (S.drop (T.pos + 1)).take 11 ++ r := ⟨_, rfl⟩
    rw [← hX2] at hS2
    obtain ⟨X1, hX1⟩ : ∃ X1, X1 = 1 :: TS.framed T.count r ++ r := ⟨_, rfl⟩
    have hfr : Calls Try.prog 95 #[.int .u8 1, I T.count, .slice a5 n0 q5] w3.drew (Fresh w3.drew X1) := by
      rw [hX1]
      exact rframe_of w3.drew 1 T.count (by omega) (.slice a5 n0 q5) r ((own_sees' HO3.out HRR.out.2).drew) (by rw [HRR.out.2]; exact hn1)
    have HXX := hid (And.intro hX1 hX2)
    have k3 : ∀ w', Ext w3.drew w' → w'.cell? ⟨u, 3, none⟩ = some (I T.pos) := fun w' hh => (Ext.trans _ _ _ (Ext.drew w3) hh).cell HR3.out.tape.c3
    have k4 : ∀ w', Ext w3.drew w' → w'.cell? ⟨u, 4, none⟩ = some (I T.count) := fun w' hh => (Ext.trans _ _ _ (Ext.drew w3) hh).cell HR3.out.tape.c4
    have k5 : ∀ w', Ext w3.drew w' → (convert 23 9 (.slice a2 m0 q2)).run Try.prog w' = .ok (.string (str X2)) w' := fun w' hh => run_str Try.underlying23 Try.underlying5 Try.underlying9 (hS2.below (Ext.trans _ _ _ (Ext.drew w3) hh))
    have HFR := hid hfr
    clear k0 e5 hb3 hg3 ho3 hr3 hown0 hsrc hb30 ho30 hs2 hS2 HS1 HRd hX1 hX2 hfr hm0 e1 e2 e3
    go_upto_region 14 with (fail)
    refine wp_region_order Ext [] [(0,0),(1,0),(2,0),(3,0),(4,0),(7,0),(8,0),(9,0),(10,0),(11,0),(12,0),(13,0),(14,0),(15,0),(16,0),(17,0),(18,0),(19,0),(20,0),(5,1),(6,0),(21,0)] _ (by kernel_rfl) rfl Ext.refl Ext.trans (by kernel_rfl) (by simp only [pick, List.getElem?_toArray, List.getElem?_cons_zero, List.getElem?_cons_succ]; rfl) (fun c a d v w h => by cases d <;> exact h) ?_
    refine wpK_q (v := ?_) (a' := ?_) (by rfl) (fun w' hR => ?_) ?_ ?_
    rotate_left 2
    · go_simp; with_reducible rfl
    · simp only [Act.put, List.setIfInBounds_toArray, List.set_cons_zero, List.set_cons_succ]; rfl
    refine wpK_q (v := ?_) (a' := ?_) (by rfl) (fun w' hR => ?_) ?_ ?_
    rotate_left 2
    · go_simp; with_reducible rfl
    · simp only [Act.put, List.setIfInBounds_toArray, List.set_cons_zero, List.set_cons_succ]; rfl
    refine wpK_q (v := ?_) (a' := ?_) (by rfl) (fun w' hR => ?_) ?_ ?_
    rotate_left 2
    · go_simp; with_reducible rfl
    · simp only [Act.put, List.setIfInBounds_toArray, List.set_cons_zero, List.set_cons_succ]; rfl
    refine wpK_q (v := ?_) (a' := ?_) (by rfl) (fun w' hR => ?_) ?_ ?_
    rotate_left 2
    · go_simp; with_reducible rfl
    · simp only [Act.put, List.setIfInBounds_toArray, List.set_cons_zero, List.set_cons_succ]; rfl
    refine wpK_q (v := ?_) (a' := ?_) (by rfl) (fun w' hR => ?_) ?_ ?_
    rotate_left 2
    · go_simp; with_reducible rfl
    · simp only [Act.put, List.setIfInBounds_toArray, List.set_cons_zero, List.set_cons_succ]; rfl
    refine wpK_q (v := ?_) (a' := ?_) (by rfl) (fun w' hR => ?_) ?_ ?_
    rotate_left 2
    · go_simp; with_reducible rfl
    · simp only [Act.put, List.setIfInBounds_toArray, List.set_cons_zero, List.set_cons_succ]; rfl
    refine wpK_q (v := ?_) (a' := ?_) (by rfl) (fun w' hR => ?_) ?_ ?_
    rotate_left 2
    · go_simp; with_reducible rfl
    · simp only [Act.put, List.setIfInBounds_toArray, List.set_cons_zero, List.set_cons_succ]; rfl
    refine wpK_q (v := ?_) (a' := ?_) (by rfl) (fun w' hR => ?_) ?_ ?_
    rotate_left 2
    · go_simp; with_reducible rfl
    · simp only [Act.put, List.setIfInBounds_toArray, List.set_cons_zero, List.set_cons_succ]; rfl
    refine wpK_q (v := ?_) (a' := ?_) (by rfl) (fun w' hR => ?_) ?_ ?_
    rotate_left 2
    · go_simp; with_reducible rfl
    · simp only [Act.put, List.setIfInBounds_toArray, List.set_cons_zero, List.set_cons_succ]; rfl
    refine wpK_q (v := ?_) (a' := ?_) (by rfl) (fun w' hR => ?_) ?_ ?_
    rotate_left 2
    · go_simp; with_reducible rfl
    · simp only [Act.put, List.setIfInBounds_toArray, List.set_cons_zero, List.set_cons_succ]; rfl
    refine wpK_q (v := ?_) (a' := ?_) (by rfl) (fun w' hR => ?_) ?_ ?_
    rotate_left 2
    · go_simp; with_reducible rfl
    · simp only [Act.put, List.setIfInBounds_toArray, List.set_cons_zero, List.set_cons_succ]; rfl
    refine wpK_q (v := ?_) (a' := ?_) (by rfl) (fun w' hR => ?_) ?_ ?_
    rotate_left 2
    · go_simp; with_reducible rfl
    · simp only [Act.put, List.setIfInBounds_toArray, List.set_cons_zero, List.set_cons_succ]; rfl
    refine wpK_q (v := ?_) (a' := ?_) (by rfl) (fun w' hR => ?_) ?_ ?_
    rotate_left 2
    · go_simp; with_reducible rfl
    · simp only [Act.put, List.setIfInBounds_toArray, List.set_cons_zero, List.set_cons_succ]; rfl
    refine wpK_q (v := ?_) (a' := ?_) (by rfl) (fun w' hR => ?_) ?_ ?_
    rotate_left 2
    · go_simp; with_reducible rfl
    · simp only [Act.put, List.setIfInBounds_toArray, List.set_cons_zero, List.set_cons_succ]; rfl
    refine wpK_q (v := ?_) (a' := ?_) (by rfl) (fun w' hR => ?_) ?_ ?_
    rotate_left 2
    · go_simp; with_reducible rfl
    · simp only [Act.put, List.setIfInBounds_toArray, List.set_cons_zero, List.set_cons_succ]; rfl
    refine wpK_q (v := ?_) (a' := ?_) (by rfl) (fun w' hR => ?_) ?_ ?_
    rotate_left 2
    · go_simp; with_reducible rfl
    · simp only [Act.put, List.setIfInBounds_toArray, List.set_cons_zero, List.set_cons_succ]; rfl
    refine wpK_q (v := ?_) (a' := ?_) (by rfl) (fun w' hR => ?_) ?_ ?_
    rotate_left 2
    · go_simp; with_reducible rfl
    · simp only [Act.put, List.setIfInBounds_toArray, List.set_cons_zero, List.set_cons_succ]; rfl
    refine wpK_q (v := ?_) (a' := ?_) (by rfl) (fun w' hR => ?_) ?_ ?_
    rotate_left 2
    · go_simp; with_reducible rfl
    · simp only [Act.put, List.setIfInBounds_toArray, List.set_cons_zero, List.set_cons_succ]; rfl
    refine wpK_q (v := ?_) (a' := ?_) (by rfl) (fun w' hR => ?_) ?_ ?_
    rotate_left 2
    · go_simp; with_reducible rfl
    · simp only [Act.put, List.setIfInBounds_toArray, List.set_cons_zero, List.set_cons_succ]; rfl
    refine wpK_call Try.func95 (by kernel_rfl) rfl rfl (by rfl) #[.int .u8 1, .int .i64 (T.count : Int), .slice a5 n0 q5] (by simp only [List.map_toArray, List.map_cons, List.map_nil]; rfl) ?_
    refine HFR.out.mono ?_
    rintro e w6 ⟨v6, rfl, ho6, hb6⟩
    refine ⟨_, rfl, fun _ => hb6, ?_⟩
    have k6 : ∀ w', Ext w6 w' → (convert 23 9 v6).run Try.prog w' = .ok (.string (str X1)) w' := fun w' hh => run_str Try.underlying23 Try.underlying5 Try.underlying9 ((own_sees ho6).below hh)
    refine wpK_q (v := ?_) (a' := ?_) (by rfl) (fun w' hR => ?_) ?_ ?_
    rotate_left 2
    · go_simp; with_reducible rfl
    · simp only [Act.put, List.setIfInBounds_toArray, List.set_cons_zero, List.set_cons_succ]; rfl
    refine wpK_q (v := ?_) (a' := ?_) (by rfl) (fun w' hR => ?_) ?_ ?_
    rotate_left 2
    · go_simp; with_reducible rfl
    · simp only [Act.put, List.setIfInBounds_toArray, List.set_cons_zero, List.set_cons_succ]; rfl
    refine wpK_done ?_
    have HB6 := hid (Ext.trans _ _ _ (Ext.drew w3) hb6)
    have hRow6 := own_below HO3.out HB6.out
    have HRow6 := hid hRow6
    have HR6 := hid (HR3.out.on HB6.out)
    clear k3 k4 k5 k6 e6 ho6 hb6 hRow6 HFR
    by_cases hEq : X1 = X2
    rotate_left
    · have hb : ¬ ((str X1).toList = (str X2).toList) := by rw [str_toList, str_toList]; exact hEq
      have hb2 : ((str X1).toList == (str X2).toList) = false := by rw [beq_eq_false_iff_ne]; exact hb
      have HF : Hid (TS.found S T.pos T.count = .bad 12) := hid (by
        unfold TS.found
        rw [if_neg hA, if_neg (by rw [HGD.out]; exact HBN.out), HGD.out, ← HN0.out, if_pos ⟨HB1.out, hn1, hn2⟩, ← HRR.out.1, if_neg (fun e => hEq (by rw [HXX.out.1, HXX.out.2, e]))])
      clear hEq hb
      rw [hb2]
      clear hb2
      go_wp2
      go_ret3
      exact HR6.out.gave hpos HF.out HR6.out.below
    have hb2 : ((str X1).toList == (str X2).toList) = true := by rw [str_toList, str_toList, hEq]; exact beq_self_eq_true X2
    rw [hb2]
    clear hb2
    have HF : Hid (TS.found S T.pos T.count = .yes r) := hid (by
      have e := hEq
      rw [HXX.out.1, HXX.out.2] at e
      have e2 := List.append_cancel_right e
      unfold TS.found
      rw [if_neg hA, if_neg (by rw [HGD.out]; exact HBN.out), HGD.out, ← HN0.out, if_pos ⟨HB1.out, hn1, hn2⟩, ← HRR.out.1, if_pos (by simpa using e2)])
    clear hEq
    obtain ⟨kf, acc, vs, pb, h1, h2', h3', h4'⟩ := HR.out.ex
    have hbel : Below wr.heap.size wr w6 := HWD.out.1.trans ((HB3.out.trans (HB6.out.mono HB3.out.size)).mono (by rw [HWD.out.2]; exact Nat.le_refl _))
    have hpb := h1.pb1
    have hvb := own_lt h1.row
    replace h1 := h1.keep (fun k _ hk => hbel.block k hk) hbel.size
    obtain ⟨a12, q12, rfl⟩ := own_form h1.row
    have hal : acc.length ≤ 1048576 := by omega
    have HEX := hid (And.intro h1 (And.intro h2' (And.intro h3' h4')))
    have hbs : bs ≤ w6.heap.size := HR6.out.lt.2.2
    have HXN : Hid (∀ q, (Value.slice a5 n0 q5).ownBlock = some q → ¬ pb q ∧ (Value.slice a12 acc.length q12).ownBlock ≠ some q) := hid (fun q hq => by
      have h9 := (own_lt HRow6.out q hq).1
      rw [HWD.out.2] at h9
      exact ⟨fun h => by have := (hpb q h).2; omega, fun h => by have := (hvb q h).2; omega⟩)
    clear h1 h2' h3' h4' hpb hvb hbel
    go_wp2_with (at_builtin; go_must (refine wpList_app rfl (.tmp 158) (.tmp 160) 45 rfl bs 23 (.slice none 0 0) 1 24 Try.underlying45 info23t rfl (by decide) acc.length vs 1 [.slice a5 n0 q5] (HEX.out.1.row.alloc _) (Src.new w6 1 23 [_] rfl (fun x hx => by obtain rfl := List.mem_singleton.1 hx; rfl)) ?h63 ?hb ?hbase ?_))
    case h63 => unfold maxLen; omega
    case hb => omega
    case hbase => simp; omega
    intro v' w8 hown hgrow hat
    have hxn : ∀ q, (Value.slice a5 n0 q5).ownBlock = some q → ¬ pb q ∧ (Value.slice a12 acc.length q12).ownBlock ≠ some q := HXN.out
    have ht8 : w8.heap[u]? = w6.heap[u]? := by
      have hl := HR6.out.lt
      refine (hgrow.block u (by simp; omega) (fun e => ?_)).trans (Below.heap_alloc w6 _ u (by omega))
      have := (own_lt HEX.out.1.row u e.symm).1
      omega
    have htp8 := HR6.out.tape.keep ht8
    have c3 := htp8.c3
    have c4 := htp8.c4
    have f3 := htp8.fr 3
    have f4 := htp8.fr 4
    have hw4 : IntKind.i64.wrap ((T.count : Int) + 1) = (T.count : Int) + 1 := IntWalk.i64_in _ (by omega)
    have hrow := own_anew HRow6.out (b' := bs) (fun q hq => Nat.le_trans HBW.out (own_lt HRow6.out q hq).1)
    have hrl := HRR.out.2
    have HNX := hid (HR6.out.push (y3 := (T.pos : Int) + 12 + (n0 : Int)) (y4 := (T.count : Int) + 1) HEX.out.1 HEX.out.2.1 HEX.out.2.2.1 HEX.out.2.2.2 HSZ.out HF.out (by rw [hrl]; exact hrow) hxn hown hgrow hat (by rw [hrl]; omega) (by omega))
    obtain ⟨a8, q8, rfl⟩ := own_form hown
    have hps := HNX.out.pos
    have HPS : Hid (posOf u ((w8.setCell ⟨u, 3, none⟩ (I ((T.pos : Int) + 12 + (n0 : Int)))).setCell ⟨u, 4, none⟩ (I ((T.count : Int) + 1))) = T.pos + 12 + n0) := hid (by rw [hps, hrl])
    clear hxn ht8 htp8 hrow hrl hown hgrow hat hps
    go_wp2
    go_roundw
    case rel => exact ⟨_, HNX⟩
    case measure =>
      have e1 := HPS.out
      have e2 := HP0.out
      show S.length - posOf u ((w8.setCell ⟨u, 3, none⟩ (I ((T.pos : Int) + 12 + (n0 : Int)))).setCell ⟨u, 4, none⟩ (I ((T.count : Int) + 1))) < S.length - posOf u wr
      rw [e1, e2]
      omega
theorem ropen_any (w : World) (p : Nat) (own : Nat → Prop) (D : DS) (lo hi : Int) (hd : RefAt w p own D) (hl : -9223372036854775808 ≤ lo ∧ lo ≤ 9223372036854775807) (hh : -9223372036854775808 ≤ hi ∧ hi ≤ 9223372036854775807) :
    Calls Try.prog 71 #[.pointer (some ⟨p, 0, none⟩), I lo, I hi] w (ROpened w p D.safe.length lo.toNat hi.toNat (TS.opn D lo hi)) := by
  unfold TS.opn
  by_cases hb : lo < 0 ∨ (D.safe.length : Int) < hi ∨ hi ≤ lo
  · rw [if_pos hb]
    exact (ropen_bad w p own D lo hi hd hl hh hb).mono fun e w' h => ⟨.inl ⟨by simp, h.1⟩, h.2 ▸ Below.refl _ _⟩
  · rw [if_neg hb]
    have e1 : ((lo.toNat : Nat) : Int) = lo := by omega
    have e2 : ((hi.toNat : Nat) : Int) = hi := by omega
    cases ho : D.off with
    | true =>
      rw [if_pos rfl]
      have := ropen_down w p own D lo.toNat hi.toNat hd (by omega) (by omega) ho
      rw [e1, e2] at this
      exact this.mono fun e w' h => ⟨.inl ⟨by simp, h.1⟩, h.2 ▸ Below.refl _ _⟩
    | false =>
      rw [if_neg (by simp)]
      have := ropen_on w p own D lo.toNat hi.toNat hd (by omega) (by omega) ho
      rw [e1, e2] at this
      exact this
end Go.Proofs.Ytoaeapnkefjpaaa

namespace Go.Proofs.Ytoaeapnkefjpaaa
open Go.RowKit
set_option linter.unusedVariables false
set_option linter.unusedSimpArgs false

theorem TS.doIt_len (D : DS) (T : TS) (r : List UInt8) : (TS.doIt D T r).2.1.safe.length = D.safe.length := by
  rw [TS.doIt_eq]
  have h1 := TS.layR_len D T T.pos (TS.body T r)
  generalize TS.layR D T T.pos (TS.body T r) = X1 at *
  obtain ⟨e1, D1⟩ := X1
  simp only at h1 ⊢
  have h2 := DS.Flush_len D1
  generalize D1.Flush = X2 at *
  obtain ⟨e2, D2⟩ := X2
  have h3 := DS.write_len D2 (T.lo + T.pos / 256 : Nat) (TS.marked D2 T)
  simp only at h2 ⊢
  generalize D2.write (T.lo + T.pos / 256 : Nat) (TS.marked D2 T) = X3 at *
  obtain ⟨e3, D3⟩ := X3
  have h4 := DS.Flush_len D3
  simp only at h3 ⊢
  generalize D3.Flush = X4 at *
  obtain ⟨e4, D4⟩ := X4
  simp only at h4 ⊢
  split
  · exact h1
  · split
    · exact h2.trans h1
    · split
      · exact h3.trans (h2.trans h1)
      · split
        · exact h4.trans (h3.trans (h2.trans h1))
        · exact h4.trans (h3.trans (h2.trans h1))
theorem TS.append_len (D : DS) (T : TS) (r : List UInt8) : (TS.append D T r).2.1.safe.length = D.safe.length := by
  unfold TS.append
  split
  · rfl
  · split
    · rfl
    · split
      · rfl
      · exact TS.doIt_len D T r
theorem TS.doIt_waits (D : DS) (T : TS) (r : List UInt8) (hr : r.length ≤ 65536) : (TS.doIt D T r).2.1.waits.length ≤ D.waits.length + 400 := by
  rw [TS.doIt_eq]
  have h1 := TS.layR_waits D T T.pos (TS.body T r) (by have := TS.body_len T r; omega)
  generalize TS.layR D T T.pos (TS.body T r) = X1 at *
  obtain ⟨e1, D1⟩ := X1
  simp only at h1 ⊢
  have h2 := DS.Flush_waits D1
  generalize D1.Flush = X2 at *
  obtain ⟨e2, D2⟩ := X2
  have h3 := DS.write_waits' D2 (T.lo + T.pos / 256 : Nat) (TS.marked D2 T)
  simp only at h2 ⊢
  generalize D2.write (T.lo + T.pos / 256 : Nat) (TS.marked D2 T) = X3 at *
  obtain ⟨e3, D3⟩ := X3
  have h4 := DS.Flush_waits D3
  simp only at h3 ⊢
  generalize D3.Flush = X4 at *
  obtain ⟨e4, D4⟩ := X4
  simp only at h4 ⊢
  split
  · simp only; omega
  · split
    · simp only; omega
    · split
      · simp only; omega
      · split <;> (simp only; omega)
theorem TS.append_waits (D : DS) (T : TS) (r : List UInt8) : (TS.append D T r).2.1.waits.length ≤ D.waits.length + 400 := by
  unfold TS.append
  split
  · simp
  · split
    · simp
    · split
      · simp
      · exact TS.doIt_waits D T r (by omega)
/-- A drum and a tape over it, newer than w0. -/
structure TSt (w0 : World) (own : Nat → Prop) (p t : Nat) (T : TS) (D : DS) (w : World) : Prop where
  drum : St w0 own p D w
  tape : TapeIn w t p D.safe.length T
  nt : ¬ own t
  tf : w0.heap.size ≤ t
theorem TSt.on {w0 w w' : World} {own : Nat → Prop} {p t : Nat} {T : TS} {D : DS} (h : TSt w0 own p t T D w) (hb : Below w.heap.size w w') : TSt w0 own p t T D w' := ⟨h.drum.on hb, h.tape.below hb, h.nt, h.tf⟩
theorem tst_open {w0 w : World} {own : Nat → Prop} {p : Nat} {D : DS} (h : St w0 own p D w) (lo hi : Int) (hl : -9223372036854775808 ≤ lo ∧ lo ≤ 9223372036854775807) (hh : -9223372036854775808 ≤ hi ∧ hi ≤ 9223372036854775807) :
    Calls Try.prog 65 #[.pointer (some ⟨p, 0, none⟩), I lo, I hi] w fun e w' =>
      ((TS.opn D lo hi).1 ≠ 0 ∧ e = .returned (.tuple #[.pointer none, .slice none 0 0, I (TS.opn D lo hi).1]) ∧ Below w.heap.size w w') ∨
      ((TS.opn D lo hi).1 = 0 ∧ ∃ t v, e = .returned (.tuple #[.pointer (some ⟨t, 0, none⟩), v, I 0]) ∧ TSt w0 own p t ⟨lo.toNat, hi.toNat, (TS.opn D lo hi).2.2.1, (TS.opn D lo hi).2.2.2, 0⟩ D w' ∧ w.heap.size ≤ t ∧ Recs w' (t + 1) v (TS.opn D lo hi).2.1 ∧ Below w.heap.size w w') := by
  refine (open_any w p own D lo hi h.at' hl hh).mono fun e w' hx => ?_
  rcases hx with ⟨h1, h2, h3⟩ | ⟨h1, t, v, h2, h3, h4, h5, h6⟩
  · exact .inl ⟨h1, h2, h3⟩
  · exact .inr ⟨h1, t, v, h2, ⟨h.on h6, h4, fun e => by have := h.at'.lt t e; omega, Nat.le_trans h.below.size h3⟩, h3, h5, h6⟩
theorem tst_append {w0 w : World} {own : Nat → Prop} {p t : Nat} {T : TS} {D : DS} (h : TSt w0 own p t T D w) {v : Value} {r : List UInt8} (hv : Sees w v r) (hN : D.waits.length ≤ 800000000) :
    Calls Try.prog 66 #[.pointer (some ⟨t, 0, none⟩), v] w fun e w' => e = .returned (I (TS.append D T r).1) ∧ ∃ own', TSt w0 own' p t (TS.append D T r).2.2 (TS.append D T r).2.1 w' ∧ (∀ k, own' k → own k ∨ w.heap.size ≤ k) ∧ Mod (fun k => own k ∨ k = t) w w' := by
  refine (tappend_any w t p own T D v r h.tape h.drum.at' h.nt hv hN).mono fun e w' hx => ?_
  obtain ⟨h1, h2, own', h3, h4, h5⟩ := hx
  have htl := h.tape.lt
  refine ⟨h1, own', ⟨⟨h3, fun k hk => ?_, h.drum.below.trans (h5.below h.drum.below.size (fun i hi ho => ?_))⟩, by rw [TS.append_len]; exact h2, fun e => ?_, h.tf⟩, h4, h5⟩
  · rcases h4 k hk with h' | h'
    · exact h.drum.fresh k h'
    · exact Nat.le_trans h.drum.below.size h'
  · rcases ho with ho | ho
    · have := h.drum.fresh i ho; omega
    · have := h.tf; omega
  · rcases h4 t e with h' | h'
    · exact h.nt h'
    · omega
namespace Wk4
def D0 : DS := DS.new 3
def T0 : TS := ⟨1, 3, 0, 0, 0⟩
def hi2 : List UInt8 := [104, 105]
def X1 : Int × DS × TS := TS.append D0 T0 hi2
def D1 : DS := X1.2.1
def T1 : TS := X1.2.2
def P1 : List UInt8 := (D1.read 1).2
set_option maxRecDepth 100000
theorem opn0 : TS.opn D0 1 3 = (0, [], 0, 0) := by kernel_rfl
theorem x1 : X1.1 = 0 := by kernel_rfl
theorem ops1 : D1.ops = 4 := by kernel_rfl
theorem rd1 : (D1.read 1).1 = 0 := by kernel_rfl
theorem len1 : P1.length = 256 := by kernel_rfl
theorem frame1 : P1.take 14 = 1 :: TS.framed 0 hi2 ++ hi2 := by kernel_rfl
end Wk4
end Go.Proofs.Ytoaeapnkefjpaaa

namespace Go.Proofs.Ytoaeapnkefjpaaa
open Go.RowKit
set_option linter.unusedVariables false
set_option linter.unusedSimpArgs false
namespace TS
/-- A drum whose power is on and stays on. -/
structure Live (D : DS) : Prop where
  ok : D.Ok
  on : D.off = false
  un : D.armed = 0
theorem stretch_get {D : DS} (h : D.Ok) {lo n : Nat} (hn : lo + n ≤ D.safe.length) {j : Nat} (hj : j < n * 256) : (stretch D lo n)[j]? = (DS.look D.safe D.waits (lo + j / 256))[j % 256]? := by
  have := rows_get (stretch_page h hn) (k := j / 256) (x := j / 256) (by rw [List.getElem?_range (by omega)]) (j := j % 256) (by omega)
  rw [← this]
  unfold stretch
  congr 1
  omega
theorem wr_live : ∀ (pages : List (List UInt8)) (D : DS) (a : Nat), Live D → (∀ p ∈ pages, p.length = 256) → a + pages.length ≤ D.safe.length →
    (wr D a pages).1 = 0 ∧ Live (wr D a pages).2 ∧ (wr D a pages).2.safe = D.safe ∧ ∀ k, DS.look (wr D a pages).2.safe (wr D a pages).2.waits k = if a ≤ k ∧ k < a + pages.length then pages.getD (k - a) [] else DS.look D.safe D.waits k
  | [], D, a, h, _, _ => ⟨rfl, h, rfl, fun k => by rw [if_neg (by simp)]; rfl⟩
  | p :: ps, D, a, h, hp, ha => by
    rw [List.length_cons] at ha
    have hw := DS.write_ok h.on h.un (a := a) (by omega) (hp p (by simp))
    have hok := h.ok.write (a : Int) p
    rw [wr, hw]
    simp only [if_true]
    rw [hw] at hok
    obtain ⟨h1, h2, h3, h4⟩ := wr_live ps _ (a + 1) ⟨hok, h.on, h.un⟩ (fun q hq => hp q (by simp [hq])) (by simp only; omega)
    refine ⟨h1, h2, h3, fun k => ?_⟩
    rw [h4 k]
    simp only
    rw [DS.look_snoc, List.length_cons]
    by_cases e : a = k
    · subst e
      rw [if_neg (by omega), if_pos rfl, if_pos (by omega), Nat.sub_self]
      rfl
    · rw [if_neg e]
      by_cases e2 : a + 1 ≤ k ∧ k < a + 1 + ps.length
      · rw [if_pos e2, if_pos (by omega)]
        have : k - a = (k - (a + 1)) + 1 := by omega
        rw [this, List.getD_cons_succ]
      · rw [if_neg e2, if_neg (by omega)]
theorem flush_live {D : DS} (h : Live D) : D.Flush.1 = 0 ∧ Live D.Flush.2 ∧ D.Flush.2.safe.length = D.safe.length ∧ ∀ k, k < D.safe.length → DS.look D.Flush.2.safe D.Flush.2.waits k = DS.look D.safe D.waits k := by
  have hf := DS.flush_ok h.on h.un
  have hok := h.ok.Flush
  rw [hf] at hok ⊢
  exact ⟨rfl, ⟨hok, h.on, h.un⟩, DS.flush_len _ _, fun k hk => DS.look_flush _ _ k hk⟩
theorem write_live {D : DS} (h : Live D) {a : Nat} (ha : a < D.safe.length) {l : List UInt8} (hl : l.length = 256) : (D.write a l).1 = 0 ∧ Live (D.write a l).2 ∧ (D.write a l).2.safe = D.safe ∧ ∀ k, DS.look (D.write a l).2.safe (D.write a l).2.waits k = if a = k then l else DS.look D.safe D.waits k := by
  have hw := DS.write_ok h.on h.un ha hl
  have hok := h.ok.write (a : Int) l
  rw [hw] at hok ⊢
  exact ⟨rfl, ⟨hok, h.on, h.un⟩, rfl, fun k => DS.look_snoc _ _ _ _ _⟩
set_option maxRecDepth 100000 in
/-- Where a piece of the stretch is laid anew. -/
theorem stretch_over {D D' : DS} (h : D.Ok) (h' : D'.Ok) {lo n q K : Nat} (hn : lo + n ≤ D.safe.length) (hn' : lo + n ≤ D'.safe.length) (hq : q + K ≤ n) {X : List UInt8} (hX : X.length = K * 256)
    (hin : ∀ i, i < K → DS.look D'.safe D'.waits (lo + (q + i)) = (X.drop (i * 256)).take 256) (hout : ∀ i, i < n → i < q ∨ q + K ≤ i → DS.look D'.safe D'.waits (lo + i) = DS.look D.safe D.waits (lo + i)) :
    stretch D' lo n = (stretch D lo n).take (q * 256) ++ X ++ (stretch D lo n).drop ((q + K) * 256) := by
  have l1 := stretch_len h hn
  have l2 := stretch_len h' hn'
  have hm : (q + K) * 256 ≤ n * 256 := Nat.mul_le_mul_right _ hq
  have hd : (q + K) * 256 = q * 256 + K * 256 := Nat.add_mul _ _ _
  apply List.ext_getElem?
  intro j
  by_cases hj : j < n * 256
  · rw [stretch_get h' hn' hj]
    have hlen1 : ((stretch D lo n).take (q * 256)).length = q * 256 := by rw [List.length_take, l1]; omega
    by_cases h1 : j < q * 256
    · rw [List.append_assoc, List.getElem?_append_left (by omega), List.getElem?_take, if_pos h1, stretch_get h hn hj, hout (j / 256) (by omega) (.inl (by omega))]
    · by_cases h2 : j < (q + K) * 256
      · rw [List.append_assoc, List.getElem?_append_right (by omega), hlen1, List.getElem?_append_left (by omega)]
        have := hin (j / 256 - q) (by omega)
        rw [show lo + (q + (j / 256 - q)) = lo + j / 256 from by omega] at this
        have e : (j / 256 - q) * 256 + j % 256 = j - q * 256 := by omega
        rw [this, List.getElem?_take, if_pos (Nat.mod_lt _ (by decide)), List.getElem?_drop, e]
      · rw [List.getElem?_append_right (by rw [List.length_append]; omega), List.length_append, hlen1, hX, List.getElem?_drop, hout (j / 256) (by omega) (.inr (by omega)), ← stretch_get h hn hj]
        have e : (q + K) * 256 + (j - (q * 256 + K * 256)) = j := by omega
        rw [e]
  · rw [List.getElem?_eq_none (by omega), List.getElem?_eq_none]
    simp only [List.length_append, List.length_take, List.length_drop, l1, hX]
    omega
/-- What stands behind a record: nothing, or a nought first. -/
def Stop (rest : List UInt8) : Prop := rest = [] ∨ rest.head? = some 0
set_option maxRecDepth 100000 in
set_option maxHeartbeats 800000 in
theorem doIt_live {D : DS} {T : TS} {r : List UInt8} (h : Live D) (hT : T.Ok D.safe.length) (hs : T.pos + 12 + r.length ≤ T.size) :
    (doIt D T r).1 = 0 ∧ (doIt D T r).2.2 = { T with pos := T.pos + 12 + r.length, count := T.count + 1 } ∧ Live (doIt D T r).2.1 ∧ (doIt D T r).2.1.safe.length = D.safe.length ∧
    ∃ rest, stretch (doIt D T r).2.1 T.lo (T.hi - T.lo) = (stretch D T.lo (T.hi - T.lo)).take T.pos ++ (1 :: (framed T.count r ++ r)) ++ rest ∧ Stop rest := by
  obtain ⟨t1, t2, t3, t4, -⟩ := hT
  obtain ⟨n, hn⟩ : ∃ n, n = T.hi - T.lo := ⟨_, rfl⟩
  have hsz : T.size = n * 256 := by rw [hn]; rfl
  obtain ⟨S, hS⟩ : ∃ S, S = stretch D T.lo n := ⟨_, rfl⟩
  have hSl : S.length = n * 256 := by rw [hS]; exact stretch_len h.ok (by omega)
  obtain ⟨q, hq⟩ : ∃ q, q = T.pos / 256 := ⟨_, rfl⟩
  obtain ⟨j, hj⟩ : ∃ j, j = T.pos % 256 := ⟨_, rfl⟩
  have hpos : T.pos = q * 256 + j := by omega
  have hj2 : j < 256 := by omega
  obtain ⟨P, hP⟩ : ∃ P, P = padded D T T.pos (body T r) := ⟨_, rfl⟩
  obtain ⟨tail, htail⟩ : ∃ tail, tail = (if T.pos + (12 + r.length) < T.size then [(0 : UInt8)] else []) := ⟨_, rfl⟩
  obtain ⟨Y, hY⟩ : ∃ Y, Y = framed T.count r ++ r := ⟨_, rfl⟩
  have hYl : Y.length = 11 + r.length := by rw [hY, List.length_append, framed_len]
  have hbody : body T r = 0 :: Y ++ tail := by unfold body; rw [hY, htail]
  obtain ⟨ah, hah⟩ : ∃ ah, ah = (S.drop (q * 256)).take j := ⟨_, rfl⟩
  have hahl : ah.length = j := by rw [hah, List.length_take, List.length_drop, hSl]; omega
  obtain ⟨z, hz⟩ : ∃ z, z = (256 - (ah ++ (0 :: Y ++ tail)).length % 256) % 256 := ⟨_, rfl⟩
  have hPe : P = ah ++ (0 :: Y ++ tail) ++ List.replicate z 0 := by
    rw [hP]
    unfold padded
    simp only []
    rw [← hn, ← hS, ← hq, ← hj, ← hah, hbody, ← hz]
  have htl : tail.length ≤ 1 ∧ (T.pos + (12 + r.length) < T.size → tail = [0]) ∧ (¬ T.pos + (12 + r.length) < T.size → tail = []) := by
    rw [htail]
    split
    · exact ⟨by simp, fun _ => rfl, fun h => absurd (by assumption) h⟩
    · exact ⟨by simp, fun h => absurd h (by assumption), fun _ => rfl⟩
  have hal : (ah ++ (0 :: Y ++ tail)).length = j + (12 + r.length) + tail.length := by
    rw [List.length_append, List.length_append, List.length_cons, hahl, hYl]; omega
  have hPl : P.length = j + (12 + r.length) + tail.length + z := by rw [hPe, List.length_append, hal, List.length_replicate]
  obtain ⟨K, hK⟩ : ∃ K, P.length = K * 256 := ⟨P.length / 256, by rw [hPl]; rw [hal] at hz; omega⟩
  have htl1 := htl.1
  have hroom : q * 256 + P.length ≤ n * 256 := by
    have h1 : T.pos + (12 + r.length) + tail.length ≤ n * 256 := by
      by_cases hr : T.pos + (12 + r.length) < T.size
      · rw [htl.2.1 hr]; simp only [List.length_cons, List.length_nil]; omega
      · rw [htl.2.2 hr]; simp only [List.length_nil]; omega
    rw [hPl]; rw [hal] at hz; omega
  have hqK : q + K ≤ n := by omega
  have hKpos : 0 < K := by omega
  have hpg : ∀ p ∈ pagesOf P K, p.length = 256 := by
    intro p hp
    unfold pagesOf at hp
    rw [List.mem_map] at hp
    obtain ⟨i, hi, rfl⟩ := hp
    rw [List.mem_range] at hi
    have := (page_of P K i hK hi).2
    rwa [Nat.mul_comm i 256] at this
  have hpl : (pagesOf P K).length = K := by unfold pagesOf; simp
  have hget : ∀ i, i < K → (pagesOf P K).getD i [] = (P.drop (i * 256)).take 256 := fun i hi => by
    rw [List.getD_eq_getElem?_getD, (page_of P K i hK hi).1]; rfl
  -- laid
  have hlay : layR D T T.pos (body T r) = wr D (T.lo + q) (pagesOf P K) := by
    unfold layR laid
    rw [if_neg (by simp [h.on]), ← hP, hK, Nat.mul_div_cancel _ (by decide), ← hq]
  obtain ⟨a1, a2, a3, a4⟩ := wr_live (pagesOf P K) D (T.lo + q) h hpg (by rw [hpl]; omega)
  rw [hpl] at a4
  rw [doIt_eq, hlay]
  generalize wr D (T.lo + q) (pagesOf P K) = X1 at *
  obtain ⟨e1, D1⟩ := X1
  simp only at a1 a2 a3 a4 ⊢
  subst a1
  obtain ⟨f1, f2, f3, f4⟩ := flush_live a2
  rw [if_neg (by simp)]
  generalize D1.Flush = X2 at *
  obtain ⟨e2, D2⟩ := X2
  simp only at f1 f2 f3 f4 ⊢
  subst f1
  rw [if_neg (by simp), ← hq]
  have hs2 : D2.safe.length = D.safe.length := by rw [f3, a3]
  have hmk : marked D2 T = (P.take 256).set j 1 := by
    unfold marked
    rw [← hq, ← hj, f4 _ (by rw [a3]; omega), a4, if_pos (by omega), Nat.sub_self, hget 0 hKpos]
    simp
  have hml : (marked D2 T).length = 256 := by rw [hmk, List.length_set, List.length_take]; omega
  obtain ⟨g1, g2, g3, g4⟩ := write_live f2 (a := T.lo + q) (by rw [hs2]; omega) hml
  generalize D2.write (T.lo + q : Nat) (marked D2 T) = X3 at *
  obtain ⟨e3, D3⟩ := X3
  simp only at g1 g2 g3 g4 ⊢
  subst g1
  rw [if_neg (by simp)]
  obtain ⟨k1, k2, k3, k4⟩ := flush_live g2
  generalize D3.Flush = X4 at *
  obtain ⟨e4, D4⟩ := X4
  simp only at k1 k2 k3 k4 ⊢
  subst k1
  rw [if_neg (by simp)]
  have hs4 : D4.safe.length = D.safe.length := by rw [k3, g3, hs2]
  refine ⟨rfl, rfl, k2, hs4, ?_⟩
  -- what each page reads
  have hlook : ∀ i, i < n → DS.look D4.safe D4.waits (T.lo + i) = if i = q then (P.take 256).set j 1 else if q ≤ i ∧ i < q + K then (P.drop ((i - q) * 256)).take 256 else DS.look D.safe D.waits (T.lo + i) := fun i hi => by
    rw [k4 _ (by rw [g3, hs2]; omega), g4]
    by_cases e : i = q
    · rw [if_pos e, if_pos (by omega), hmk]
    · rw [if_neg e, if_neg (by omega), f4 _ (by rw [a3]; omega), a4]
      by_cases e2 : q ≤ i ∧ i < q + K
      · rw [if_pos e2, if_pos (by omega), show T.lo + i - (T.lo + q) = i - q from by omega, hget _ (by omega)]
      · rw [if_neg e2, if_neg (by omega)]
  have hov := stretch_over (D := D) (D' := D4) (lo := T.lo) (n := n) (q := q) (K := K) h.ok k2.ok (by omega) (by rw [hs4]; omega) hqK (X := P.set j 1) (by rw [List.length_set]; exact hK)
    (fun i hi => by
      rw [hlook _ (by omega)]
      by_cases e : i = 0
      · subst e
        rw [if_pos (by omega), Nat.zero_mul, List.drop_zero, List.take_set]
      · rw [if_neg (by omega), if_pos (by omega), show q + i - q = i from by omega, List.drop_set_of_lt (by omega)])
    (fun i hi ho => by rw [hlook _ hi, if_neg (by omega), if_neg (by omega)])
  rw [← hS] at hov
  have hPs : P.set j 1 = ah ++ (1 :: Y ++ tail) ++ List.replicate z 0 := by
    rw [hPe, List.append_assoc, List.set_append_right _ _ (by omega), hahl, Nat.sub_self]
    simp
  have hcat : S.take (q * 256) ++ ah = S.take T.pos := by rw [hah, hpos, List.take_add]
  rw [← hn, ← hS, hov, hPs, ← hY]
  refine ⟨tail ++ List.replicate z 0 ++ S.drop ((q + K) * 256), ?_, ?_⟩
  · rw [← hcat]; simp
  · by_cases hr : T.pos + (12 + r.length) < T.size
    · rw [htl.2.1 hr]; exact .inr rfl
    · left
      have h0 := htl.2.2 hr
      rw [hal, h0] at hz
      rw [h0] at hPl
      rw [h0]
      simp only [List.length_nil, Nat.add_zero] at hPl hz
      have hz0 : z = 0 := by omega
      subst hz0
      rw [List.drop_of_length_le (by rw [hSl]; omega)]
      rfl
/-- Records one behind the other, as they are laid. -/
def encs : Nat → List (List UInt8) → List UInt8
  | _, [] => []
  | c, r :: rs => (1 :: (framed c r ++ r)) ++ encs (c + 1) rs
theorem encs_snoc : ∀ (rs : List (List UInt8)) (c : Nat) (r : List UInt8), encs c (rs ++ [r]) = encs c rs ++ (1 :: (framed (c + rs.length) r ++ r))
  | [], c, r => by simp [encs]
  | x :: rs, c, r => by
    rw [List.cons_append, encs, encs_snoc rs (c + 1) r, encs, List.append_assoc, List.length_cons, show c + 1 + rs.length = c + (rs.length + 1) from by omega]
theorem num_size3 {n : Nat} (hn : n < 16777216) : (Sum.num (size3 n)).toNat = n := by
  unfold size3
  simp only [Sum.num, Sum.nst, List.foldl_cons, List.foldl_nil, UInt8.toNat_ofNat']
  omega
theorem found_enc {A rest r : List UInt8} {c : Nat} (hr : r.length ≤ 65536) : found (A ++ (1 :: (framed c r ++ r)) ++ rest) A.length c = .yes r := by
  obtain ⟨S, hS⟩ : ∃ S, S = A ++ (1 :: (framed c r ++ r)) ++ rest := ⟨_, rfl⟩
  rw [← hS]
  have hl : S.length = A.length + 12 + r.length + rest.length := by
    rw [hS]; simp only [List.length_append, List.length_cons, framed_len]; omega
  have hd : S.drop (A.length + 1) = framed c r ++ (r ++ rest) := by
    rw [hS, List.append_assoc, ← List.drop_drop, List.drop_left]
    simp
  have h1 : S.getD A.length 0 = 1 := by
    rw [hS, List.append_assoc, List.getD_eq_getElem?_getD, List.getElem?_append_right (Nat.le_refl _), Nat.sub_self]
    rfl
  have h11 : (S.drop (A.length + 1)).take 11 = framed c r := by
    rw [hd]
    exact List.take_left' (framed_len c r)
  have h3 : (S.drop (A.length + 1)).take 3 = size3 r.length := by
    rw [hd, List.take_append_of_le_length (by rw [framed_len]; omega)]
    unfold framed
    exact List.take_left' (size3_len _)
  have hla : lenAt S A.length = r.length := by
    unfold lenAt
    rw [h3, num_size3 (by omega)]
  have h12 : (S.drop (A.length + 12)).take r.length = r := by
    have : S.drop (A.length + 12) = r ++ rest := by
      rw [show A.length + 12 = A.length + 1 + 11 from rfl, ← List.drop_drop, hd]
      exact List.drop_left' (framed_len c r)
    rw [this]
    exact List.take_left' rfl
  unfold found
  rw [if_neg (by omega), if_neg (by rw [h1]; decide), hla, if_pos ⟨h1, hr, by omega⟩, h12, h11, if_pos rfl]
theorem found_stop {A rest : List UInt8} {c : Nat} (h : Stop rest) : found (A ++ rest) A.length c = .no := by
  unfold found
  by_cases hl : (A ++ rest).length < A.length + 12
  · rw [if_pos hl]
  · rw [if_neg hl, if_pos]
    rcases h with rfl | h
    · rw [List.append_nil] at hl; omega
    · rw [List.getD_eq_getElem?_getD, List.getElem?_append_right (Nat.le_refl _), Nat.sub_self, ← List.head?_eq_getElem?, h]
      rfl
theorem opened_enc : ∀ (recs : List (List UInt8)) (A rest : List UInt8) (c fuel : Nat) (acc : List (List UInt8)), Stop rest → (∀ r ∈ recs, r.length ≤ 65536) → recs.length + 1 ≤ fuel →
    opened (A ++ encs c recs ++ rest) fuel A.length c acc = (0, acc ++ recs, (A ++ encs c recs).length, c + recs.length)
  | [], A, rest, c, fuel, acc, h, _, hf => by
    obtain ⟨k, rfl⟩ : ∃ k, fuel = k + 1 := ⟨fuel - 1, by simp only [List.length_nil] at hf; omega⟩
    simp only [encs, List.append_nil]
    rw [opened, found_stop h]
    rfl
  | r :: rs, A, rest, c, fuel, acc, h, hr, hf => by
    obtain ⟨k, rfl⟩ : ∃ k, fuel = k + 1 := ⟨fuel - 1, by rw [List.length_cons] at hf; omega⟩
    have e1 : A ++ encs c (r :: rs) ++ rest = A ++ (1 :: (framed c r ++ r)) ++ (encs (c + 1) rs ++ rest) := by rw [encs]; simp
    have e2 : A ++ encs c (r :: rs) ++ rest = (A ++ (1 :: (framed c r ++ r))) ++ encs (c + 1) rs ++ rest := by rw [encs]; simp
    have e3 : A.length + 12 + r.length = (A ++ (1 :: (framed c r ++ r))).length := by simp only [List.length_append, List.length_cons, framed_len]; omega
    rw [opened, e1, found_enc (hr r (by simp)), ← e1]
    simp only
    rw [e3, e2, opened_enc rs _ rest (c + 1) k (acc ++ [r]) h (fun x hx => hr x (by simp [hx])) (by rw [List.length_cons] at hf; omega)]
    rw [encs, List.length_cons]
    refine Prod.ext rfl (Prod.ext ?_ (Prod.ext ?_ ?_))
    · simp
    · simp only [List.append_assoc]
    · simp only; omega
end TS
end Go.Proofs.Ytoaeapnkefjpaaa

namespace Go.Proofs.Ytoaeapnkefjpaaa
open Go.RowKit
set_option linter.unusedVariables false
set_option linter.unusedSimpArgs false

theorem DS.op_on {D : DS} (h : D.op.off = false) : D.op.safe = D.safe ∧ D.op.waits = D.waits ∧ D.off = false := by
  have hoff : ∀ (E : DS) (k : Int), (E.Off k).off = true := fun E k => by
    unfold DS.Off
    cases e : E.off with
    | true => simp [e]
    | false => simp
  unfold DS.op at h ⊢
  split at h
  · rename_i h1
    rw [if_pos h1]
    split at h
    · rw [hoff] at h; cases h
    · rename_i h2
      rw [if_neg h2]
      exact ⟨rfl, rfl, h⟩
  · rename_i h1
    rw [if_neg h1]
    exact ⟨rfl, rfl, h⟩
theorem DS.write_done {D : DS} {a : Int} {l : List UInt8} (h : (D.write a l).1 = 0) : (D.write a l).2.safe = D.safe ∧ (D.write a l).2.waits = D.waits ++ [(a.toNat, l)] ∧ (D.write a l).2.off = false := by
  unfold DS.write at h ⊢
  split at h
  · cases h
  · rename_i h1
    rw [if_neg h1]
    split at h
    · cases h
    · rename_i h2
      rw [if_neg h2]
      simp only [] at h ⊢
      split at h
      · cases h
      · rename_i h3
        rw [if_neg h3]
        have h4 : (DS.op { D with waits := D.waits ++ [(a.toNat, l)] }).off = false := by simpa using h3
        obtain ⟨e1, e2, -⟩ := DS.op_on h4
        exact ⟨e1, e2, h4⟩
theorem DS.Flush_done {D : DS} (h : D.Flush.1 = 0) : D.Flush.2.safe = DS.flush D.safe D.waits ∧ D.Flush.2.waits = [] ∧ D.Flush.2.off = false := by
  unfold DS.Flush at h ⊢
  split at h
  · cases h
  · rename_i h1
    rw [if_neg h1]
    simp only [] at h ⊢
    split at h
    · cases h
    · rename_i h2
      rw [if_neg h2]
      have h3 : D.op.off = false := by simpa using h2
      obtain ⟨e1, e2, -⟩ := DS.op_on h3
      simp only [e1, e2]
      exact ⟨trivial, trivial, h3⟩
theorem DS.look_done {D : DS} {a : Nat} {l : List UInt8} (h : (D.write (a : Int) l).1 = 0) (k : Nat) : DS.look (D.write (a : Int) l).2.safe (D.write (a : Int) l).2.waits k = if a = k then l else DS.look D.safe D.waits k := by
  obtain ⟨e1, e2, -⟩ := DS.write_done h
  rw [e1, e2, Int.toNat_natCast]
  exact DS.look_snoc _ _ _ _ _
theorem DS.look_Flush {D : DS} (h : D.Flush.1 = 0) {k : Nat} (hk : k < D.safe.length) : DS.look D.Flush.2.safe D.Flush.2.waits k = DS.look D.safe D.waits k := by
  obtain ⟨e1, e2, -⟩ := DS.Flush_done h
  rw [e1, e2]
  exact DS.look_flush _ _ _ hk
theorem TS.look_wr_first : ∀ {ps : List (List UInt8)} {D : DS} {a : Nat}, (TS.wr D a ps).1 = 0 → ∀ k, k < a → DS.look (TS.wr D a ps).2.safe (TS.wr D a ps).2.waits k = DS.look D.safe D.waits k
  | [], D, a, h, k, hk => rfl
  | p :: ps, D, a, h, k, hk => by
    rw [TS.wr] at h ⊢
    by_cases e : (D.write (a : Int) p).1 = 0
    · rw [if_pos e] at h ⊢
      rw [TS.look_wr_first h k (by omega), DS.look_done e k, if_neg (by omega)]
    · rw [if_neg e] at h
      exact absurd h e
theorem TS.look_wr {D : DS} {a : Nat} {p : List UInt8} {ps : List (List UInt8)} (h : (TS.wr D a (p :: ps)).1 = 0) : DS.look (TS.wr D a (p :: ps)).2.safe (TS.wr D a (p :: ps)).2.waits a = p := by
  rw [TS.wr] at h ⊢
  by_cases e : (D.write (a : Int) p).1 = 0
  · rw [if_pos e] at h ⊢
    rw [TS.look_wr_first h a (by omega), DS.look_done e a, if_pos rfl]
  · rw [if_neg e] at h
    exact absurd h e
theorem TS.wr_one (D : DS) (a : Nat) (p : List UInt8) : TS.wr D a [p] = D.write (a : Int) p := by
  rw [TS.wr]
  by_cases e : (D.write (a : Int) p).1 = 0
  · rw [if_pos e, TS.wr]
    exact Prod.ext e.symm rfl
  · rw [if_neg e]
/-- The two writes of the document's Append. -/
def TS.ref2 (D : DS) (T : TS) (r : List UInt8) (b : List UInt8) (K : Nat) : Int × DS × TS :=
  let y1 := TS.rwr D (T.lo + T.pos / 256) (TS.pagesOf b K)
  if y1.1 ≠ 0 then (y1.1, y1.2, { T with sick := y1.1 }) else
  let y2 := TS.rwr y1.2 (T.lo + T.pos / 256) (TS.pagesOf ((b.set (T.pos % 256) 1).take 256) 1)
  if y2.1 ≠ 0 then (y2.1, y2.2, { T with sick := y2.1 }) else (0, y2.2, { T with pos := T.pos + 12 + r.length, count := T.count + 1 })
theorem TS.doIt_ref {D : DS} {T : TS} {r : List UInt8} (ho : D.off = false) (hlen : T.lo + T.pos / 256 < D.safe.length) {K : Nat} (hK : (TS.padded D T T.pos (TS.body T r)).length = K * 256) (hK0 : 0 < K) : TS.doIt D T r = TS.ref2 D T r (TS.padded D T T.pos (TS.body T r)) K := by
  obtain ⟨b, hb⟩ : ∃ b, b = TS.padded D T T.pos (TS.body T r) := ⟨_, rfl⟩
  have hlay : TS.layR D T T.pos (TS.body T r) = TS.wr D (T.lo + T.pos / 256) (TS.pagesOf b K) := by
    unfold TS.layR TS.laid
    rw [if_neg (by simp [ho]), ← hb]
    rw [← hb] at hK
    rw [hK, Nat.mul_div_cancel _ (by decide)]
  rw [← hb] at hK ⊢
  rw [TS.doIt_eq, hlay]
  clear hlay hb
  obtain ⟨p, ps, hps⟩ : ∃ p ps, TS.pagesOf b K = p :: ps := by
    obtain ⟨k, rfl⟩ : ∃ k, K = k + 1 := ⟨K - 1, by omega⟩
    unfold TS.pagesOf
    rw [List.range_succ_eq_map, List.map_cons]
    exact ⟨_, _, rfl⟩
  have hp : p = b.take 256 := by
    have := (page_of b K 0 hK hK0).1
    rw [hps] at this
    simpa using this
  unfold TS.ref2 TS.rwr
  rw [hps]
  by_cases e1 : (TS.wr D (T.lo + T.pos / 256) (p :: ps)).1 = 0
  rotate_left
  · simp only [e1, ne_eq, not_false_eq_true, if_true]
  have hlk := TS.look_wr e1
  have hl1 : (TS.wr D (T.lo + T.pos / 256) (p :: ps)).2.safe.length = D.safe.length := TS.wr_len _ _ _
  generalize TS.wr D (T.lo + T.pos / 256) (p :: ps) = X1 at *
  obtain ⟨c1, D1⟩ := X1
  simp only at e1 hlk hl1
  subst e1
  simp only [ne_eq, not_true_eq_false, if_false]
  by_cases e2 : D1.Flush.1 = 0
  rotate_left
  · simp only [e2, ne_eq, not_false_eq_true, if_true]
  have hlf := DS.look_Flush e2 (k := T.lo + T.pos / 256) (by rw [hl1]; exact hlen)
  generalize D1.Flush = X2 at *
  obtain ⟨c2, D2⟩ := X2
  simp only at e2 hlf
  subst e2
  simp only [ne_eq, not_true_eq_false, if_false]
  have hmk : TS.marked D2 T = (b.set (T.pos % 256) 1).take 256 := by
    unfold TS.marked
    rw [hlf, hlk, hp, List.take_set]
  have hpg : TS.pagesOf ((b.set (T.pos % 256) 1).take 256) 1 = [(b.set (T.pos % 256) 1).take 256] := by
    unfold TS.pagesOf
    simp [List.range_succ, List.take_take]
  rw [hmk, hpg, TS.wr_one]
  by_cases e3 : (D2.write (((T.lo + T.pos / 256 : Nat)) : Int) ((b.set (T.pos % 256) 1).take 256)).1 = 0
  · simp only [e3, not_true_eq_false, if_false]
  · simp only [e3, not_false_eq_true, if_true]
set_option maxRecDepth 100000 in
/-- The bytes that the document's Append lays are the program's. -/
theorem TS.padded_ref {D : DS} {T : TS} {r : List UInt8} (h : D.Ok) (hT : T.Ok D.safe.length) (hs : T.pos + 12 + r.length ≤ T.size) {K : Nat}
    (hK : K = (if T.pos + 12 + r.length = T.size then (T.pos + 12 + r.length - 1) / 256 else (T.pos + 12 + r.length) / 256) + 1 - T.pos / 256) :
    0 < K ∧ T.pos / 256 + K ≤ T.hi - T.lo ∧ (TS.padded D T T.pos (TS.body T r)).length = K * 256 ∧
    TS.padded D T T.pos (TS.body T r) = (TS.stretch D (T.lo + T.pos / 256) K).take (T.pos % 256) ++ (0 :: TS.framed T.count r ++ r) ++ List.replicate (K * 256 - (T.pos % 256 + 12 + r.length)) 0 := by
  obtain ⟨t1, t2, t3, t4, -⟩ := hT
  have hsz : T.size = (T.hi - T.lo) * 256 := rfl
  have hKp : 0 < K ∧ T.pos / 256 + K ≤ T.hi - T.lo ∧ T.pos % 256 + 12 + r.length ≤ K * 256 := by
    rw [hK]
    split <;> omega
  have hah : ((TS.stretch D T.lo (T.hi - T.lo)).drop (T.pos / 256 * 256)).take (T.pos % 256) = (TS.stretch D (T.lo + T.pos / 256) K).take (T.pos % 256) := by
    have e1 := TS.stretch_piece h (lo := T.lo) (n := T.hi - T.lo) (by omega) (a := T.pos / 256 * 256) (m := T.pos % 256) (by omega) (by omega)
    have e2 := TS.stretch_piece h (lo := T.lo + T.pos / 256) (n := K) (by omega) (a := 0) (m := T.pos % 256) (by omega) (by omega)
    rw [e1]
    rw [List.drop_zero, Nat.zero_div, Nat.add_zero, Nat.zero_mod, List.drop_zero] at e2
    rw [e2, show T.pos / 256 * 256 / 256 = T.pos / 256 by omega, show T.pos / 256 * 256 % 256 = 0 by omega, List.drop_zero]
  have hahl : ((TS.stretch D (T.lo + T.pos / 256) K).take (T.pos % 256)).length = T.pos % 256 := by
    rw [List.length_take, TS.stretch_len h (by omega)]
    omega
  have hbl := TS.body_len' T r
  obtain ⟨z, hz⟩ : ∃ z, TS.padded D T T.pos (TS.body T r) = (TS.stretch D (T.lo + T.pos / 256) K).take (T.pos % 256) ++ TS.body T r ++ List.replicate z 0 ∧ z = (256 - (T.pos % 256 + (TS.body T r).length) % 256) % 256 := by
    refine ⟨_, ?_, rfl⟩
    unfold TS.padded
    simp only
    rw [hah, List.length_append, hahl]
  obtain ⟨hz1, hz2⟩ := hz
  have hlen : (TS.padded D T T.pos (TS.body T r)).length = K * 256 := by
    rw [hz1, List.length_append, List.length_append, hahl, List.length_replicate, hz2, hK]
    split at hbl <;> split <;> omega
  refine ⟨hKp.1, hKp.2.1, hlen, ?_⟩
  have hbody : ∃ tl : Nat, TS.body T r = (0 :: TS.framed T.count r ++ r) ++ List.replicate tl 0 := by
    unfold TS.body
    by_cases e : T.pos + (12 + r.length) < T.size
    · rw [if_pos e]; exact ⟨1, rfl⟩
    · rw [if_neg e]; exact ⟨0, by simp⟩
  obtain ⟨tl, htl⟩ := hbody
  have hFl : (0 :: TS.framed T.count r ++ r).length = 12 + r.length := by
    rw [List.cons_append, List.length_cons, List.length_append, TS.framed_len]; omega
  rw [hz1, htl] at hlen ⊢
  simp only [List.length_append, List.length_replicate, hahl] at hlen
  rw [List.length_append] at hFl
  rw [show K * 256 - (T.pos % 256 + 12 + r.length) = tl + z by omega, ← List.replicate_append_replicate]
  simp only [List.append_assoc]
end Go.Proofs.Ytoaeapnkefjpaaa

namespace Go.Proofs.Ytoaeapnkefjpaaa
open Go.RowKit
set_option linter.unusedVariables false
set_option linter.unusedSimpArgs false

theorem seg_take {α : Type} (A ys : List α) (j n : Nat) (h1 : j + ys.length ≤ n) (h2 : n ≤ A.length) : (A.take j ++ ys ++ A.drop (j + ys.length)).take n = (A.take n).take j ++ ys ++ (A.take n).drop (j + ys.length) := by
  have e1 : A.drop (j + ys.length) = (A.take n).drop (j + ys.length) ++ A.drop n := by
    conv => lhs; rw [← List.take_append_drop n A]
    rw [List.drop_append_of_le_length (by rw [List.length_take]; omega)]
  have e2 : A.take j = (A.take n).take j := by rw [List.take_take, Nat.min_eq_left (by omega)]
  rw [e1, e2, ← List.append_assoc]
  refine List.take_left' ?_
  simp only [List.length_append, List.length_take, List.length_drop]
  omega
/-- copy into a row of one's own. -/
theorem own_copy {P : Program} {w : World} {base : Nat} {e : TypeId} {n g cap : Nat} {xs ys : List Value} (h : w.ownsRow base e 1 (.slice (some ⟨g, 0, none⟩) n cap) n xs) {j : Nat} (hj : j + ys.length ≤ n) {a : Addr} {sc : Nat} {dT sT ty : TypeId}
    (hu : P.underlying dT = some (.slice e)) (hs : (P.info? e).map (·.size) = some 1) (hsrc : ∀ i v, ys[i]? = some v → w.cell? (a.add i) = some v) (h1 : ∀ v ∈ ys, v.oneCell' = true) :
    ∃ w', (Builtin.copy_ #[dT, sT] ty #[.slice (some ⟨g, j, none⟩) (n - j) (cap - j), .slice (some a) ys.length sc]).run P w = .ok (goInt ys.length) w' ∧
      w'.ownsRow base e 1 (.slice (some ⟨g, 0, none⟩) n cap) n (xs.take j ++ ys ++ xs.drop (j + ys.length)) ∧ Mod (fun k => k = g) w w' := by
  obtain ⟨hl, h2⟩ := h
  rcases h2 with ⟨h0, _⟩ | ⟨g', cap', cur, hv, hb, hg, hnc, hcm, hcs, ht⟩
  · cases h0
  simp only [Value.slice.injEq, Option.some.injEq, Addr.mk.injEq] at hv
  obtain ⟨⟨rfl, _⟩, _, rfl⟩ := hv
  have hcp := run_copy_row (P := P) w dT sT ty e g j (n - j) (cap - j) a ys.length sc cur e ys hu hs hg (by show ys.length = min ys.length (n - j); omega) hsrc (by omega) h1
  refine ⟨_, hcp, ⟨by simp only [List.length_append, List.length_take, List.length_drop]; omega, .inr ⟨g, cap, _, rfl, by simpa using hb, setRow_heap w g cur _ e (0, 0) hg, hnc, hcm, ?_, ?_⟩⟩, Mod.setRow rfl⟩
  · simp only [List.size_toArray, List.length_append, List.length_take, List.length_drop, Array.length_toList]
    omega
  · rw [Nat.mul_one] at ht ⊢
    rw [List.toList_toArray, seg_take _ _ _ _ hj (by rw [Array.length_toList]; omega), ht]
/-- What the document's Append comes to. -/
def RDone (w0 : World) (t p n : Nat) (own0 : Nat → Prop) (X : Int × DS × TS) (e : Ending) (w' : World) : Prop :=
  e = .returned (I X.1) ∧ RTapeIn w' t p n X.2.2 ∧ ∃ own', RefAt w' p own' X.2.1 ∧ (∀ k, own' k → own0 k ∨ w0.heap.size ≤ k) ∧ Mod (fun k => own0 k ∨ k = t) w0 w'
theorem RTapeIn.set {w : World} {t p n : Nat} {T : TS} (h : RTapeIn w t p n T) (i : Nat) (u : Value) (T' : TS) (hok : T'.Ok n)
    (hc : (#[.pointer (some ⟨p, 0, none⟩), I T.lo, I T.hi, I T.pos, I T.count, I T.sick] : Array Value).setIfInBounds i u = #[.pointer (some ⟨p, 0, none⟩), I T'.lo, I T'.hi, I T'.pos, I T'.count, I T'.sick]) : RTapeIn (w.setCell ⟨t, i, none⟩ u) t p n T' :=
  ⟨hok, h.n2, by rw [heap_setCell_same w t i _ _ u h.ht, hc]⟩
set_option maxRecDepth 100000 in
set_option maxHeartbeats 3200000 in
theorem rtappend_small (w : World) (t p : Nat) (own : Nat → Prop) (T : TS) (D : DS) (v : Value) (r : List UInt8) (h : RTapeIn w t p D.safe.length T) (hd : RefAt w p own D) (ht : ¬ own t) (hv : Sees w v r) (hx : 65536 < r.length ∨ T.sick ≠ 0 ∨ T.size < T.pos + 12 + r.length ∨ D.off = true) :
    Calls Try.prog 73 #[.pointer (some ⟨t, 0, none⟩), v] w (RDone w t p D.safe.length own (TS.append D T r)) := by
  obtain ⟨b1, b2, b3, b4, b5, b6, b7⟩ := h.bd
  have same : ∀ (c : Int) (w1 : World), Below w.heap.size w w1 → RDone w t p D.safe.length own (c, D, T) (.returned (I c)) w1 := fun c w1 hb => ⟨rfl, h.below hb, own, hd.below hb, fun k hk => .inl hk, Mod.of_below _ hb⟩
  obtain ⟨av, cv, rfl, hrl⟩ := hv.form0
  have c5 := h.c5
  have c3 := h.c3
  have c2 := h.c2
  have c1 := h.c1
  have c0 := h.c0
  obtain ⟨as0, cs, d0, d3, d4, dfr⟩ := hd.cells
  have hfr := h.fr 5
  obtain ⟨Z, hZ⟩ : ∃ Z, Z = TS.append D T r := ⟨_, rfl⟩
  rw [← hZ]
  have HZ := hid hZ
  have SAME := hid same
  have H := hid h
  have HD := hid hd
  have HT := hid ht
  clear hZ same h hd ht hv dfr
  by_cases h1 : 65536 < r.length
  · have h1'' : decide ((65536 : Int) < (r.length : Int)) = true := decide_eq_true (by omega)
    have hz : Z = (3, D, T) := by rw [HZ.out]; unfold TS.append; rw [if_pos h1]
    clear HZ hx
    go_enter Try.func73, Try.ntmps73
    go_wp2_with fail
    go_ret
    rw [hz]
    exact SAME.out 3 w (Below.refl _ _)
  have h1' : decide ((65536 : Int) < (r.length : Int)) = false := decide_eq_false (by omega)
  by_cases h2 : T.sick = 0
  rotate_left
  · have h2b : (T.sick == 0) = false := by simpa using h2
    have hz : Z = (T.sick, D, T) := by rw [HZ.out]; unfold TS.append; rw [if_neg h1, if_pos h2]
    clear HZ h2 hx
    go_enter Try.func73, Try.ntmps73
    go_wp2_with fail
    go_ret
    rw [hz]
    exact SAME.out T.sick w (Below.refl _ _)
  rw [h2] at c5
  have hw0 : IntKind.i64.wrap ((T.hi : Int) - (T.lo : Int)) = (T.hi : Int) - (T.lo : Int) := IntWalk.i64_in _ (by omega)
  have hw00 : IntKind.i64.wrap (256 * ((T.hi : Int) - (T.lo : Int))) = (T.size : Int) := by rw [← b7]; exact IntWalk.i64_in _ (by omega)
  have hw1 : IntKind.i64.wrap ((T.pos : Int) + 12) = (T.pos : Int) + 12 := IntWalk.i64_in _ (by omega)
  have hw2 : IntKind.i64.wrap ((T.pos : Int) + 12 + (r.length : Int)) = (T.pos : Int) + 12 + (r.length : Int) := IntWalk.i64_in _ (by omega)
  have k1 : ∀ w', Ext w.drew w' → w'.cell? ⟨t, 1, none⟩ = some (I T.lo) := fun w' hh => (Ext.trans _ _ _ (Ext.drew w) hh).cell c1
  have k2 : ∀ w', Ext w.drew w' → w'.cell? ⟨t, 2, none⟩ = some (I T.hi) := fun w' hh => (Ext.trans _ _ _ (Ext.drew w) hh).cell c2
  by_cases h3 : T.size < T.pos + 12 + r.length
  · have h3' : decide ((T.size : Int) < (T.pos : Int) + 12 + (r.length : Int)) = true := decide_eq_true (by omega)
    have hz : Z = (22, D, T) := by rw [HZ.out]; unfold TS.append; rw [if_neg h1, if_neg (by simp [h2]), if_pos h3]
    clear HZ h2 hx b7
    go_enter Try.func73, Try.ntmps73
    go_wp2_with fail
    refine wp_region_order Ext [] [(0,0),(1,0),(2,0),(3,0),(4,0),(5,0),(6,0),(7,0),(8,0),(9,0),(10,0)] _ (by kernel_rfl) rfl Ext.refl Ext.trans (by kernel_rfl) (by simp only [pick, List.getElem?_toArray, List.getElem?_cons_zero, List.getElem?_cons_succ]; rfl) (fun c a d v w h => by cases d <;> exact h) ?_
    refine wpK_q (v := ?_) (a' := ?_) (by rfl) (fun w' hR => ?_) ?_ ?_
    rotate_left 2
    · go_simp; with_reducible rfl
    · simp only [Act.put, List.setIfInBounds_toArray, List.set_cons_zero, List.set_cons_succ]; rfl
    refine wpK_q (v := ?_) (a' := ?_) (by rfl) (fun w' hR => ?_) ?_ ?_
    rotate_left 2
    · go_simp; with_reducible rfl
    · simp only [Act.put, List.setIfInBounds_toArray, List.set_cons_zero, List.set_cons_succ]; rfl
    refine wpK_q (v := ?_) (a' := ?_) (by rfl) (fun w' hR => ?_) ?_ ?_
    rotate_left 2
    · go_simp; with_reducible rfl
    · simp only [Act.put, List.setIfInBounds_toArray, List.set_cons_zero, List.set_cons_succ]; rfl
    refine wpK_q (v := ?_) (a' := ?_) (by rfl) (fun w' hR => ?_) ?_ ?_
    rotate_left 2
    · go_simp; with_reducible rfl
    · simp only [Act.put, List.setIfInBounds_toArray, List.set_cons_zero, List.set_cons_succ]; rfl
    refine wpK_q (v := ?_) (a' := ?_) (by rfl) (fun w' hR => ?_) ?_ ?_
    rotate_left 2
    · go_simp; with_reducible rfl
    · simp only [Act.put, List.setIfInBounds_toArray, List.set_cons_zero, List.set_cons_succ]; rfl
    refine wpK_q (v := ?_) (a' := ?_) (by rfl) (fun w' hR => ?_) ?_ ?_
    rotate_left 2
    · go_simp; with_reducible rfl
    · simp only [Act.put, List.setIfInBounds_toArray, List.set_cons_zero, List.set_cons_succ]; rfl
    refine wpK_q (v := ?_) (a' := ?_) (by rfl) (fun w' hR => ?_) ?_ ?_
    rotate_left 2
    · go_simp; with_reducible rfl
    · simp only [Act.put, List.setIfInBounds_toArray, List.set_cons_zero, List.set_cons_succ]; rfl
    refine wpK_q (v := ?_) (a' := ?_) (by rfl) (fun w' hR => ?_) ?_ ?_
    rotate_left 2
    · go_simp; with_reducible rfl
    · simp only [Act.put, List.setIfInBounds_toArray, List.set_cons_zero, List.set_cons_succ]; rfl
    refine wpK_q (v := ?_) (a' := ?_) (by rfl) (fun w' hR => ?_) ?_ ?_
    rotate_left 2
    · go_simp; with_reducible rfl
    · simp only [Act.put, List.setIfInBounds_toArray, List.set_cons_zero, List.set_cons_succ]; rfl
    refine wpK_q (v := ?_) (a' := ?_) (by rfl) (fun w' hR => ?_) ?_ ?_
    rotate_left 2
    · go_simp; with_reducible rfl
    · simp only [Act.put, List.setIfInBounds_toArray, List.set_cons_zero, List.set_cons_succ]; rfl
    refine wpK_q (v := ?_) (a' := ?_) (by rfl) (fun w' hR => ?_) ?_ ?_
    rotate_left 2
    · go_simp; with_reducible rfl
    · simp only [Act.put, List.setIfInBounds_toArray, List.set_cons_zero, List.set_cons_succ]; rfl
    refine wpK_done ?_
    clear k1 k2
    go_wp2_with fail
    go_ret
    rw [hz]
    exact SAME.out 22 w.drew (Ext.drew w)
  have ho : D.off = true := by
    rcases hx with h | h | h | h
    · exact absurd h h1
    · exact absurd h2 h
    · exact absurd h h3
    · exact h
  have h3' : decide ((T.size : Int) < (T.pos : Int) + 12 + (r.length : Int)) = false := decide_eq_false (by omega)
  have hz : Z = (20, D, { T with sick := 20 }) := by rw [HZ.out]; unfold TS.append; rw [if_neg h1, if_neg (by simp [h2]), if_neg h3]; unfold TS.doIt; rw [if_pos ho]
  rw [ho] at d3
  clear HZ h2 hx b7 ho
  go_enter Try.func73, Try.ntmps73
  go_wp2_with fail
  refine wp_region_order Ext [] [(0,0),(1,0),(2,0),(3,0),(4,0),(5,0),(6,0),(7,0),(8,0),(9,0),(10,0)] _ (by kernel_rfl) rfl Ext.refl Ext.trans (by kernel_rfl) (by simp only [pick, List.getElem?_toArray, List.getElem?_cons_zero, List.getElem?_cons_succ]; rfl) (fun c a d v w h => by cases d <;> exact h) ?_
  refine wpK_q (v := ?_) (a' := ?_) (by rfl) (fun w' hR => ?_) ?_ ?_
  rotate_left 2
  · go_simp; with_reducible rfl
  · simp only [Act.put, List.setIfInBounds_toArray, List.set_cons_zero, List.set_cons_succ]; rfl
  refine wpK_q (v := ?_) (a' := ?_) (by rfl) (fun w' hR => ?_) ?_ ?_
  rotate_left 2
  · go_simp; with_reducible rfl
  · simp only [Act.put, List.setIfInBounds_toArray, List.set_cons_zero, List.set_cons_succ]; rfl
  refine wpK_q (v := ?_) (a' := ?_) (by rfl) (fun w' hR => ?_) ?_ ?_
  rotate_left 2
  · go_simp; with_reducible rfl
  · simp only [Act.put, List.setIfInBounds_toArray, List.set_cons_zero, List.set_cons_succ]; rfl
  refine wpK_q (v := ?_) (a' := ?_) (by rfl) (fun w' hR => ?_) ?_ ?_
  rotate_left 2
  · go_simp; with_reducible rfl
  · simp only [Act.put, List.setIfInBounds_toArray, List.set_cons_zero, List.set_cons_succ]; rfl
  refine wpK_q (v := ?_) (a' := ?_) (by rfl) (fun w' hR => ?_) ?_ ?_
  rotate_left 2
  · go_simp; with_reducible rfl
  · simp only [Act.put, List.setIfInBounds_toArray, List.set_cons_zero, List.set_cons_succ]; rfl
  refine wpK_q (v := ?_) (a' := ?_) (by rfl) (fun w' hR => ?_) ?_ ?_
  rotate_left 2
  · go_simp; with_reducible rfl
  · simp only [Act.put, List.setIfInBounds_toArray, List.set_cons_zero, List.set_cons_succ]; rfl
  refine wpK_q (v := ?_) (a' := ?_) (by rfl) (fun w' hR => ?_) ?_ ?_
  rotate_left 2
  · go_simp; with_reducible rfl
  · simp only [Act.put, List.setIfInBounds_toArray, List.set_cons_zero, List.set_cons_succ]; rfl
  refine wpK_q (v := ?_) (a' := ?_) (by rfl) (fun w' hR => ?_) ?_ ?_
  rotate_left 2
  · go_simp; with_reducible rfl
  · simp only [Act.put, List.setIfInBounds_toArray, List.set_cons_zero, List.set_cons_succ]; rfl
  refine wpK_q (v := ?_) (a' := ?_) (by rfl) (fun w' hR => ?_) ?_ ?_
  rotate_left 2
  · go_simp; with_reducible rfl
  · simp only [Act.put, List.setIfInBounds_toArray, List.set_cons_zero, List.set_cons_succ]; rfl
  refine wpK_q (v := ?_) (a' := ?_) (by rfl) (fun w' hR => ?_) ?_ ?_
  rotate_left 2
  · go_simp; with_reducible rfl
  · simp only [Act.put, List.setIfInBounds_toArray, List.set_cons_zero, List.set_cons_succ]; rfl
  refine wpK_q (v := ?_) (a' := ?_) (by rfl) (fun w' hR => ?_) ?_ ?_
  rotate_left 2
  · go_simp; with_reducible rfl
  · simp only [Act.put, List.setIfInBounds_toArray, List.set_cons_zero, List.set_cons_succ]; rfl
  refine wpK_done ?_
  clear k1 k2
  go_wp2_with fail
  go_ret
  rw [hz]
  have hok := H.out.ok
  have hset := (H.out.below (Ext.drew w)).set 5 (I 20) { T with sick := 20 } ⟨hok.lt, hok.le, hok.pos, hok.count, by show (-9223372036854775808 : Int) ≤ 20 ∧ (20 : Int) ≤ 9223372036854775807; omega⟩ rfl
  have hm : Mod (fun k => k = t) w (w.drew.setCell ⟨t, 5, none⟩ (I 20)) := (Mod.drew w).trans (Mod.set (own := fun k => k = t) (a := ⟨t, 5, none⟩) rfl)
  exact ⟨rfl, hset, own, HD.out.mod hm (fun k hk e => HT.out (e ▸ hk)), fun k hk => .inl hk, hm.mono (fun i _ e => .inr e)⟩
end Go.Proofs.Ytoaeapnkefjpaaa

namespace Go.Proofs.Ytoaeapnkefjpaaa
open Go.RowKit
set_option linter.unusedVariables false
set_option linter.unusedSimpArgs false
theorem TS.rwr_code (D : DS) (a : Nat) (ps : List (List UInt8)) : Code1 (TS.rwr D a ps).1 := by
  unfold TS.rwr
  split
  · exact TS.wr_code _ _ _
  · exact DS.Flush_code _
theorem TS.rwr_len (D : DS) (a : Nat) (ps : List (List UInt8)) : (TS.rwr D a ps).2.safe.length = D.safe.length := by
  unfold TS.rwr
  split
  · exact TS.wr_len _ _ _
  · exact (DS.Flush_len _).trans (TS.wr_len _ _ _)
theorem TS.rwr_waits (D : DS) (a : Nat) (ps : List (List UInt8)) : (TS.rwr D a ps).2.waits.length ≤ D.waits.length + ps.length := by
  unfold TS.rwr
  split
  · exact TS.wr_waits _ _ _
  · exact Nat.le_trans (DS.Flush_waits _) (TS.wr_waits _ _ _)
theorem RDone.fin {w W W' : World} {t p n : Nat} {own : Nat → Prop} {D' : DS} {T' : TS} {c : Int} (hr : Reffed' own p w D' W) (htp : RTapeIn W' t p n T') (hm : Mod (fun k => k = t) W W') (ht : ¬ own t) (htl : t < w.heap.size) : RDone w t p n own (c, D', T') (.returned (I c)) W' := by
  obtain ⟨own', h1, h2, h3⟩ := hr
  refine ⟨rfl, htp, own', h1.mod hm (fun k hk e => ?_), h2, (h3.mono (fun i _ e => .inl e)).trans (hm.mono (fun i _ e => .inr e))⟩
  subst e
  rcases h2 k hk with h | h
  · exact ht h
  · omega
theorem TS.ref2_bad {D D1 : DS} {T : TS} {r b : List UInt8} {K F : Nat} {c : Int} (hF : F = T.pos / 256) (h : (c, D1) = TS.rwr D (T.lo + F) (TS.pagesOf b K)) (hc : c ≠ 0) : TS.ref2 D T r b K = (c, D1, { T with sick := c }) := by
  subst hF
  unfold TS.ref2
  simp only [← h]
  rw [if_pos hc]
theorem TS.ref2_ok {D D1 D2 : DS} {T : TS} {r b : List UInt8} {K F j : Nat} {c : Int} (hF : F = T.pos / 256) (hj : j = T.pos % 256) (h : ((0 : Int), D1) = TS.rwr D (T.lo + F) (TS.pagesOf b K)) (h2 : (c, D2) = TS.rwr D1 (T.lo + F) (TS.pagesOf ((b.set j 1).take 256) 1)) :
    TS.ref2 D T r b K = if c ≠ 0 then (c, D2, { T with sick := c }) else (0, D2, { T with pos := T.pos + 12 + r.length, count := T.count + 1 }) := by
  subst hF
  subst hj
  unfold TS.ref2
  simp only [← h, ← h2, ne_eq, not_true_eq_false, if_false]
set_option maxRecDepth 100000 in
set_option maxHeartbeats 6400000 in
theorem rtappend_on (w : World) (t p : Nat) (own : Nat → Prop) (T : TS) (D : DS) (v : Value) (r : List UInt8) (h : RTapeIn w t p D.safe.length T) (hd : RefAt w p own D) (ht : ¬ own t) (hv : Sees w v r) (h1 : r.length ≤ 65536) (h2 : T.sick = 0) (h3 : T.pos + 12 + r.length ≤ T.size) (ho : D.off = false) (hN : D.waits.length + 20000 ≤ 1000000000) :
    Calls Try.prog 73 #[.pointer (some ⟨t, 0, none⟩), v] w (RDone w t p D.safe.length own (TS.doIt D T r)) := by
  obtain ⟨b1, b2, b3, b4, b5, b6, b7⟩ := h.bd
  obtain ⟨av, cv, rfl, hrl⟩ := hv.form0
  obtain ⟨K, hK⟩ : ∃ K, K = (if T.pos + 12 + r.length = T.size then (T.pos + 12 + r.length - 1) / 256 else (T.pos + 12 + r.length) / 256) + 1 - T.pos / 256 := ⟨_, rfl⟩
  obtain ⟨p1, p2, p3, p4⟩ := TS.padded_ref hd.ok h.ok h3 hK
  have hdo := TS.doIt_ref ho (by omega) p3 p1
  rw [p4] at hdo
  obtain ⟨Z, hZ⟩ : ∃ Z, Z = TS.doIt D T r := ⟨_, rfl⟩
  rw [← hZ] at hdo ⊢
  obtain ⟨F, hF⟩ : ∃ F, F = T.pos / 256 := ⟨_, rfl⟩
  obtain ⟨j, hj⟩ : ∃ j, j = T.pos % 256 := ⟨_, rfl⟩
  obtain ⟨E, hE⟩ : ∃ E, E = T.pos + 12 + r.length := ⟨_, rfl⟩
  obtain ⟨La, hLa⟩ : ∃ La, La = F + K - 1 := ⟨_, rfl⟩
  rw [← hF, ← hj] at hdo
  have q1 : (T.pos : Int) / 256 = (F : Int) := by omega
  have q2 : (T.pos : Int) - 256 * (F : Int) = (j : Int) := by omega
  have q3 : (T.pos : Int) + 12 + (r.length : Int) = (E : Int) := by omega
  have q4 : E = T.size ∨ E ≠ T.size := by omega
  have hjj : j < 256 := by omega
  have hFK : F + K ≤ T.hi - T.lo := by omega
  have hszE : E ≤ T.size := by omega
  have hLaE : (E = T.size → ((E : Int) - 1) / 256 = (La : Int)) ∧ (E ≠ T.size → (E : Int) / 256 = (La : Int)) := by
    constructor
    · intro e
      rw [← hE, if_pos e] at hK
      omega
    · intro e
      rw [← hE, if_neg e] at hK
      omega
  have hbn : ∀ q, q ≤ K → (TS.stretch D (T.lo + F) q).length = q * 256 := fun q hq => TS.stretch_len hd.ok (by omega)
  have c5 := h.c5
  have c3 := h.c3
  have c2 := h.c2
  have c1 := h.c1
  have c0 := h.c0
  rw [h2] at c5
  obtain ⟨as0, cs, d0, d3, d4, dfr⟩ := hd.cells
  rw [ho] at d3
  have h1' : decide ((65536 : Int) < (r.length : Int)) = false := decide_eq_false (by omega)
  have h3' : decide ((T.size : Int) < (E : Int)) = false := decide_eq_false (by omega)
  have hw0 : IntKind.i64.wrap ((T.hi : Int) - (T.lo : Int)) = (T.hi : Int) - (T.lo : Int) := IntWalk.i64_in _ (by omega)
  have hw00 : IntKind.i64.wrap (256 * ((T.hi : Int) - (T.lo : Int))) = (T.size : Int) := by rw [← b7]; exact IntWalk.i64_in _ (by omega)
  have hw1 : IntKind.i64.wrap ((T.pos : Int) + 12) = (T.pos : Int) + 12 := IntWalk.i64_in _ (by omega)
  have hw2 : IntKind.i64.wrap ((T.pos : Int) + 12 + (r.length : Int)) = (E : Int) := by rw [q3]; exact IntWalk.i64_in _ (by omega)
  have k1 : ∀ w', Ext w.drew w' → w'.cell? ⟨t, 1, none⟩ = some (I T.lo) := fun w' hh => (Ext.trans _ _ _ (Ext.drew w) hh).cell c1
  have k2 : ∀ w', Ext w.drew w' → w'.cell? ⟨t, 2, none⟩ = some (I T.hi) := fun w' hh => (Ext.trans _ _ _ (Ext.drew w) hh).cell c2
  have HDO := hid hdo
  have H := hid h
  have HD := hid hd
  have HT := hid ht
  have HV := hid hv
  have HBN := hid hbn
  have HLE := hid hLaE
  have hnum : T.pos < 2000000 ∧ E < 2000000 ∧ F < 5000 ∧ K < 5000 ∧ T.lo < 5000 ∧ T.size < 2000000 ∧ F + K = La + 1 ∧ 0 < K ∧ 256 * F + j = T.pos ∧ j + 12 + r.length ≤ K * 256 ∧ E = 256 * F + j + 12 + r.length := by
    have : j + 12 + r.length ≤ K * 256 := by
      have := congrArg List.length p4
      rw [p3] at this
      simp only [List.length_append, List.length_take, List.length_replicate, List.length_cons, TS.framed_len] at this
      rw [← hF, ← hj, hbn K (Nat.le_refl _)] at this
      omega
    omega
  have HNUM := hid hnum
  have HSK := hid h2
  have HFJ := hid (And.intro hF hj)
  have hw3 : IntKind.i64.wrap (256 * (F : Int)) = 256 * (F : Int) := IntWalk.i64_in _ (by omega)
  have hw5 : IntKind.i64.wrap ((T.pos : Int) - 256 * (F : Int)) = (j : Int) := by rw [q2]; exact IntWalk.i64_in _ (by omega)
  clear hdo h hd ht hv hbn hLaE dfr p3 p4 hZ hF hj hE hLa hK b7 h2 ho q2 q3
  go_enter Try.func73, Try.ntmps73
  go_wp2_with fail
  refine wp_region_order Ext [] [(0,0),(1,0),(2,0),(3,0),(4,0),(5,0),(6,0),(7,0),(8,0),(9,0),(10,0)] _ (by kernel_rfl) rfl Ext.refl Ext.trans (by kernel_rfl) (by simp only [pick, List.getElem?_toArray, List.getElem?_cons_zero, List.getElem?_cons_succ]; rfl) (fun c a d v w h => by cases d <;> exact h) ?_
  refine wpK_q (v := ?_) (a' := ?_) (by rfl) (fun w' hR => ?_) ?_ ?_
  rotate_left 2
  · go_simp; with_reducible rfl
  · simp only [Act.put, List.setIfInBounds_toArray, List.set_cons_zero, List.set_cons_succ]; rfl
  refine wpK_q (v := ?_) (a' := ?_) (by rfl) (fun w' hR => ?_) ?_ ?_
  rotate_left 2
  · go_simp; with_reducible rfl
  · simp only [Act.put, List.setIfInBounds_toArray, List.set_cons_zero, List.set_cons_succ]; rfl
  refine wpK_q (v := ?_) (a' := ?_) (by rfl) (fun w' hR => ?_) ?_ ?_
  rotate_left 2
  · go_simp; with_reducible rfl
  · simp only [Act.put, List.setIfInBounds_toArray, List.set_cons_zero, List.set_cons_succ]; rfl
  refine wpK_q (v := ?_) (a' := ?_) (by rfl) (fun w' hR => ?_) ?_ ?_
  rotate_left 2
  · go_simp; with_reducible rfl
  · simp only [Act.put, List.setIfInBounds_toArray, List.set_cons_zero, List.set_cons_succ]; rfl
  refine wpK_q (v := ?_) (a' := ?_) (by rfl) (fun w' hR => ?_) ?_ ?_
  rotate_left 2
  · go_simp; with_reducible rfl
  · simp only [Act.put, List.setIfInBounds_toArray, List.set_cons_zero, List.set_cons_succ]; rfl
  refine wpK_q (v := ?_) (a' := ?_) (by rfl) (fun w' hR => ?_) ?_ ?_
  rotate_left 2
  · go_simp; with_reducible rfl
  · simp only [Act.put, List.setIfInBounds_toArray, List.set_cons_zero, List.set_cons_succ]; rfl
  refine wpK_q (v := ?_) (a' := ?_) (by rfl) (fun w' hR => ?_) ?_ ?_
  rotate_left 2
  · go_simp; with_reducible rfl
  · simp only [Act.put, List.setIfInBounds_toArray, List.set_cons_zero, List.set_cons_succ]; rfl
  refine wpK_q (v := ?_) (a' := ?_) (by rfl) (fun w' hR => ?_) ?_ ?_
  rotate_left 2
  · go_simp; with_reducible rfl
  · simp only [Act.put, List.setIfInBounds_toArray, List.set_cons_zero, List.set_cons_succ]; rfl
  refine wpK_q (v := ?_) (a' := ?_) (by rfl) (fun w' hR => ?_) ?_ ?_
  rotate_left 2
  · go_simp; with_reducible rfl
  · simp only [Act.put, List.setIfInBounds_toArray, List.set_cons_zero, List.set_cons_succ]; rfl
  refine wpK_q (v := ?_) (a' := ?_) (by rfl) (fun w' hR => ?_) ?_ ?_
  rotate_left 2
  · go_simp; with_reducible rfl
  · simp only [Act.put, List.setIfInBounds_toArray, List.set_cons_zero, List.set_cons_succ]; rfl
  refine wpK_q (v := ?_) (a' := ?_) (by rfl) (fun w' hR => ?_) ?_ ?_
  rotate_left 2
  · go_simp; with_reducible rfl
  · simp only [Act.put, List.setIfInBounds_toArray, List.set_cons_zero, List.set_cons_succ]; rfl
  refine wpK_done ?_
  clear k1 k2
  have HB0 : Hid (Below w.heap.size w w.drew) := hid (Ext.drew w)
  have H0 : Hid (RTapeIn w.drew t p D.safe.length T) := hid (H.out.below (Ext.drew w))
  have HD0 : Hid (RefAt w.drew p own D) := hid (HD.out.below (Ext.drew w))
  have hcell : w.drew.cell? ⟨t, 3, none⟩ = some (I T.pos) ∧ w.drew.cell? ⟨t, 0, none⟩ = some (.pointer (some ⟨p, 0, none⟩)) ∧ w.drew.cell? ⟨p, 3, none⟩ = some (.bool (!false)) := ⟨c3, c0, d3⟩
  obtain ⟨c3', c0', d3'⟩ := hcell
  clear c0 c1 c2 c3 c5 d0 d3 d4
  generalize w.drew = wd at *
  have hcase : (((E : Int) == (T.size : Int)) = true ∧ ((E : Int) - 1) / 256 = (La : Int)) ∨ (((E : Int) == (T.size : Int)) = false ∧ (E : Int) / 256 = (La : Int)) := by
    rcases q4 with e | e
    · exact .inl ⟨by rw [e]; exact beq_self_eq_true _, HLE.out.1 e⟩
    · exact .inr ⟨by rw [beq_eq_false_iff_ne]; omega, HLE.out.2 e⟩
  clear q4
  have hw6 : IntKind.i64.wrap ((E : Int) - 1) = (E : Int) - 1 := IntWalk.i64_in _ (by omega)
  have hw7 : IntKind.i64.wrap ((E : Int) - 256 * (F : Int)) = ((j + 12 + r.length : Nat) : Int) := by rw [show ((E : Int) - 256 * (F : Int)) = ((j + 12 + r.length : Nat) : Int) by omega]; exact IntWalk.i64_in _ (by omega)
  obtain ⟨e0, he0⟩ : ∃ e0, e0 = j + 12 + r.length := ⟨_, rfl⟩
  rw [← he0] at hw7
  have he0' : e0 ≤ j + 12 + r.length ∧ j + 12 + r.length ≤ e0 := by omega
  have HE0 := hid he0
  clear he0
  rcases hcase with ⟨e2, e3⟩ | ⟨e2, e3⟩
  all_goals
    go_wp2_with fail
    go_loopw [9, 10] (fun b i wr => ∃ q k : Nat, q ≤ K ∧ k = F + q ∧ i = I k ∧ Hid (wr.ownsRow wd.heap.size 5 1 b (q * 256) ((TS.stretch D (T.lo + F) q).map B)) ∧ Hid (Below wd.heap.size wd wr)) (fun _ i _ => La + 1 - (intOf i).toNat)
    case atStart => exact ⟨0, F, by omega, rfl, rfl, hid (by rw [TS.stretch_zero]; exact World.ownsRow_nil _ _ _ _), hid (Below.refl _ _)⟩
    case round =>
      obtain ⟨q, k, hq, hk, rfl, HO, HB⟩ := hrel
      have hk1 : F + q ≤ k ∧ k ≤ F + q := by omega
      have HK := hid hk
      clear hk
      obtain ⟨ao, co, rfl⟩ := own_form HO.out
      by_cases hlt : q < K
      · have f1 : decide ((k : Int) ≤ (La : Int)) = true := decide_eq_true (by omega)
        have hw8 : IntKind.i64.wrap ((T.lo : Int) + (k : Int)) = (T.lo : Int) + (k : Int) := IntWalk.i64_in _ (by omega)
        have hlk := rlook_any wr.drew p own D (T.lo + k) (HD0.out.below (HB.out.trans ((Ext.drew wr).mono HB.out.size))) (by omega)
        rw [show ((T.lo + k : Nat) : Int) = (T.lo : Int) + (k : Int) by omega] at hlk
        have HLK := hid hlk
        have hll : (DS.look D.safe D.waits (T.lo + k)).length = 256 := DS.look_len HD0.out.ok.page HD0.out.ok.wait (by omega)
        have hsn := TS.stretch_snoc D (T.lo + F) q
        rw [show T.lo + F + q = T.lo + k by omega] at hsn
        have HSN := hid hsn
        generalize DS.look D.safe D.waits (T.lo + k) = pg at *
        have HLL := hid hll
        have k0 : ∀ w', Ext wr.drew w' → w'.cell? ⟨t, 0, none⟩ = some (.pointer (some ⟨p, 0, none⟩)) := fun w' hh => (Ext.trans _ _ _ (Ext.drew wr) hh).cell (H0.out.below HB.out).c0
        have k1 : ∀ w', Ext wr.drew w' → w'.cell? ⟨t, 1, none⟩ = some (I T.lo) := fun w' hh => (Ext.trans _ _ _ (Ext.drew wr) hh).cell (H0.out.below HB.out).c1
        clear hlk hll hsn
        go_wp2_with fail
        refine wp_region_order Ext [12] [(0,0),(1,0),(2,0),(3,0),(4,0),(5,0),(6,0),(7,0),(8,0),(9,0),(10,0),(11,1),(12,2),(13,0)] _ (by kernel_rfl) rfl Ext.refl Ext.trans (by kernel_rfl) (by simp only [pick, List.getElem?_toArray, List.getElem?_cons_zero, List.getElem?_cons_succ]; rfl) (fun c a d v w h => by cases d <;> exact h) ?_
        refine wpK_q (v := ?_) (a' := ?_) (by rfl) (fun w' hR => ?_) ?_ ?_
        rotate_left 2
        · go_simp; with_reducible rfl
        · simp only [Act.put, List.setIfInBounds_toArray, List.set_cons_zero, List.set_cons_succ]; rfl
        refine wpK_q (v := ?_) (a' := ?_) (by rfl) (fun w' hR => ?_) ?_ ?_
        rotate_left 2
        · go_simp; with_reducible rfl
        · simp only [Act.put, List.setIfInBounds_toArray, List.set_cons_zero, List.set_cons_succ]; rfl
        refine wpK_q (v := ?_) (a' := ?_) (by rfl) (fun w' hR => ?_) ?_ ?_
        rotate_left 2
        · go_simp; with_reducible rfl
        · simp only [Act.put, List.setIfInBounds_toArray, List.set_cons_zero, List.set_cons_succ]; rfl
        refine wpK_q (v := ?_) (a' := ?_) (by rfl) (fun w' hR => ?_) ?_ ?_
        rotate_left 2
        · go_simp; with_reducible rfl
        · simp only [Act.put, List.setIfInBounds_toArray, List.set_cons_zero, List.set_cons_succ]; rfl
        refine wpK_q (v := ?_) (a' := ?_) (by rfl) (fun w' hR => ?_) ?_ ?_
        rotate_left 2
        · go_simp; with_reducible rfl
        · simp only [Act.put, List.setIfInBounds_toArray, List.set_cons_zero, List.set_cons_succ]; rfl
        refine wpK_q (v := ?_) (a' := ?_) (by rfl) (fun w' hR => ?_) ?_ ?_
        rotate_left 2
        · go_simp; with_reducible rfl
        · simp only [Act.put, List.setIfInBounds_toArray, List.set_cons_zero, List.set_cons_succ]; rfl
        refine wpK_q (v := ?_) (a' := ?_) (by rfl) (fun w' hR => ?_) ?_ ?_
        rotate_left 2
        · go_simp; with_reducible rfl
        · simp only [Act.put, List.setIfInBounds_toArray, List.set_cons_zero, List.set_cons_succ]; rfl
        refine wpK_q (v := ?_) (a' := ?_) (by rfl) (fun w' hR => ?_) ?_ ?_
        rotate_left 2
        · go_simp; with_reducible rfl
        · simp only [Act.put, List.setIfInBounds_toArray, List.set_cons_zero, List.set_cons_succ]; rfl
        refine wpK_q (v := ?_) (a' := ?_) (by rfl) (fun w' hR => ?_) ?_ ?_
        rotate_left 2
        · go_simp; with_reducible rfl
        · simp only [Act.put, List.setIfInBounds_toArray, List.set_cons_zero, List.set_cons_succ]; rfl
        refine wpK_q (v := ?_) (a' := ?_) (by rfl) (fun w' hR => ?_) ?_ ?_
        rotate_left 2
        · go_simp; with_reducible rfl
        · simp only [Act.put, List.setIfInBounds_toArray, List.set_cons_zero, List.set_cons_succ]; rfl
        refine wpK_q (v := ?_) (a' := ?_) (by rfl) (fun w' hR => ?_) ?_ ?_
        rotate_left 2
        · go_simp; with_reducible rfl
        · simp only [Act.put, List.setIfInBounds_toArray, List.set_cons_zero, List.set_cons_succ]; rfl
        refine wpK_call Try.func84 (by kernel_rfl) rfl rfl (by rfl) #[.pointer (some ⟨p, 0, none⟩), .int .i64 ((T.lo : Int) + (k : Int))] (by simp only [List.map_toArray, List.map_cons, List.map_nil]; rfl) ?_
        refine HLK.out.mono ?_
        rintro e w5 ⟨rfl, v5, rfl, hs5, -⟩
        refine ⟨_, rfl, fun _ => Ext.refl _, ?_⟩
        have hsrc : Src wr.drew 1 v5 256 (pg.map B) := by have := hs5.src; rw [HLL.out] at this; exact this
        obtain ⟨v8, w8, hr8, hown, hgrow, hat⟩ := run_app (P := Try.prog) wr.drew wd.heap.size 23 23 5 _ 1 1 Try.underlying23 info5 rfl (by decide) _ (q * 256) _ (own_mod (w' := wr.drew) HO.out (fun _ _ => rfl)) v5 256 (pg.map B) hsrc (by unfold maxLen; omega) (by omega) HB.out.size
        refine wpK_v (by rfl) (exec_append rfl _ (by simp only [List.map_toArray, List.map_cons, List.map_nil]; rfl) hr8) (fun h => by cases h) (by simp only [Act.put, List.setIfInBounds_toArray, List.set_cons_zero, List.set_cons_succ]; rfl) ?_
        refine wpK_q (v := ?_) (a' := ?_) (by rfl) (fun w' hR => ?_) ?_ ?_
        rotate_left 2
        · go_simp; with_reducible rfl
        · simp only [Act.put, List.setIfInBounds_toArray, List.set_cons_zero, List.set_cons_succ]; rfl
        refine wpK_done ?_
        replace hown : w8.ownsRow wd.heap.size 5 1 v8 ((q + 1) * 256) ((TS.stretch D (T.lo + F) (q + 1)).map B) := own_len hown (by omega) (by rw [HSN.out, List.map_append])
        have hbw : Below wd.heap.size wd wr.drew := HB.out.trans ((Ext.drew wr).mono HB.out.size)
        have HO8 := hid hown
        have HB8 := hid (hbw.grown hgrow HB.out.size (fun i hi => (own_lt HO.out i hi).1))
        obtain ⟨av', cv', rfl⟩ := own_form hown
        clear hown hgrow hat HLK HSN hs5 hsrc hr8 hbw k0 k1
        go_wp2_with fail
        go_roundw
        case rel => exact ⟨q + 1, k + 1, by omega, by omega, by go_num, HO8, HB8⟩
        case measure => simp [intOf]; omega
      · have f1 : decide ((k : Int) ≤ (La : Int)) = false := decide_eq_false (by omega)
        have hqK : q = K := by omega
        have HQK := hid hqK
        clear hqK
        rw [HQK.out] at HO
        have hO := HO.out
        obtain ⟨g, co', hvv, hc1, hc2, hc3, hc4⟩ := own_slice hO (by omega)
        simp only [Value.slice.injEq] at hvv
        obtain ⟨rfl, hqq, rfl⟩ := hvv
        obtain ⟨n, hn⟩ : ∃ n, n = q * 256 := ⟨_, rfl⟩
        rw [← hn]
        have hnK : n = K * 256 := by rw [hn, HQK.out]
        rw [← hnK] at hO hc1
        have HO1 := hid hO
        have hnb : n ≤ 2000000 ∧ 0 < n ∧ j + 12 + r.length ≤ n ∧ e0 ≤ n ∧ j ≤ n := by omega
        have hcj : ¬ (co = j) := by omega
        have HNK := hid hnK
        clear hO HO hqq hn hnK
        unfold maxLen at hc2
        have k0 : ∀ w', Ext wr.drew w' → w'.cell? ⟨t, 3, none⟩ = some (I T.pos) := fun w' hh => (Ext.trans _ _ _ (Ext.drew wr) hh).cell (H0.out.below HB.out).c3
        have k1 : ∀ w', Ext wr.drew w' → w'.cell? ⟨t, 4, none⟩ = some (I T.count) := fun w' hh => (Ext.trans _ _ _ (Ext.drew wr) hh).cell (H0.out.below HB.out).c4
        have e8 : ∀ w', (Instr.sliceAt 23 (.slice (some ⟨g, 0, none⟩) n co) (some (.int .i64 (j : Int))) none none).run Try.prog w' = .ok (.slice (some ⟨g, j, none⟩) (n - j) (co - j)) w' := fun w' => by
          have := run_sl_from (some ⟨g, 0, none⟩) n co j (by omega) w'
          rw [this]
          unfold sl
          rw [if_neg (by omega)]
          simp [add_off]
        obtain ⟨Fr, hFr⟩ : ∃ Fr, Fr = 0 :: TS.framed T.count r ++ r := ⟨_, rfl⟩
        have hFl : Fr.length = 12 + r.length := by rw [hFr, List.cons_append, List.length_cons, List.length_append, TS.framed_len]; omega
        have hfr : Calls Try.prog 95 #[.int .u8 0, I T.count, .slice av r.length cv] wr.drew (Fresh wr.drew Fr) := by
          rw [hFr]
          exact rframe_of wr.drew 0 T.count (by omega) _ r (HV.out.below (HB0.out.trans ((HB.out.trans ((Ext.drew wr).mono HB.out.size)).mono HB0.out.size))) (by omega)
        have HFR := hid hfr
        have HFL := hid (And.intro hFr hFl)
        clear hfr hFr hFl
        go_upto_region 21 with (fail)
        refine wp_region_order Ext [15] [(0,0),(1,0),(2,0),(3,0),(4,0),(5,0),(6,0),(7,0),(8,0),(9,0),(10,0),(11,0),(12,0),(13,0),(14,1),(15,2)] _ (by kernel_rfl) rfl Ext.refl Ext.trans (by kernel_rfl) (by simp only [pick, List.getElem?_toArray, List.getElem?_cons_zero, List.getElem?_cons_succ]; rfl) (fun c a d v w h => by cases d <;> exact h) ?_
        refine wpK_q (v := ?_) (a' := ?_) (by rfl) (fun w' hR => ?_) ?_ ?_
        rotate_left 2
        · go_simp; with_reducible rfl
        · simp only [Act.put, List.setIfInBounds_toArray, List.set_cons_zero, List.set_cons_succ]; rfl
        refine wpK_q (v := ?_) (a' := ?_) (by rfl) (fun w' hR => ?_) ?_ ?_
        rotate_left 2
        · go_simp; with_reducible rfl
        · simp only [Act.put, List.setIfInBounds_toArray, List.set_cons_zero, List.set_cons_succ]; rfl
        refine wpK_q (v := ?_) (a' := ?_) (by rfl) (fun w' hR => ?_) ?_ ?_
        rotate_left 2
        · go_simp; with_reducible rfl
        · simp only [Act.put, List.setIfInBounds_toArray, List.set_cons_zero, List.set_cons_succ]; rfl
        refine wpK_q (v := ?_) (a' := ?_) (by rfl) (fun w' hR => ?_) ?_ ?_
        rotate_left 2
        · go_simp; with_reducible rfl
        · simp only [Act.put, List.setIfInBounds_toArray, List.set_cons_zero, List.set_cons_succ]; rfl
        refine wpK_q (v := ?_) (a' := ?_) (by rfl) (fun w' hR => ?_) ?_ ?_
        rotate_left 2
        · go_simp; with_reducible rfl
        · simp only [Act.put, List.setIfInBounds_toArray, List.set_cons_zero, List.set_cons_succ]; rfl
        refine wpK_q (v := ?_) (a' := ?_) (by rfl) (fun w' hR => ?_) ?_ ?_
        rotate_left 2
        · go_simp; with_reducible rfl
        · simp only [Act.put, List.setIfInBounds_toArray, List.set_cons_zero, List.set_cons_succ]; rfl
        refine wpK_q (v := ?_) (a' := ?_) (by rfl) (fun w' hR => ?_) ?_ ?_
        rotate_left 2
        · go_simp; with_reducible rfl
        · simp only [Act.put, List.setIfInBounds_toArray, List.set_cons_zero, List.set_cons_succ]; rfl
        refine wpK_q (v := ?_) (a' := ?_) (by rfl) (fun w' hR => ?_) ?_ ?_
        rotate_left 2
        · go_simp; with_reducible rfl
        · simp only [Act.put, List.setIfInBounds_toArray, List.set_cons_zero, List.set_cons_succ]; rfl
        refine wpK_q (v := ?_) (a' := ?_) (by rfl) (fun w' hR => ?_) ?_ ?_
        rotate_left 2
        · go_simp; with_reducible rfl
        · simp only [Act.put, List.setIfInBounds_toArray, List.set_cons_zero, List.set_cons_succ]; rfl
        refine wpK_q (v := ?_) (a' := ?_) (by rfl) (fun w' hR => ?_) ?_ ?_
        rotate_left 2
        · go_simp; with_reducible rfl
        · simp only [Act.put, List.setIfInBounds_toArray, List.set_cons_zero, List.set_cons_succ]; rfl
        refine wpK_q (v := ?_) (a' := ?_) (by rfl) (fun w' hR => ?_) ?_ ?_
        rotate_left 2
        · go_simp; with_reducible rfl
        · simp only [Act.put, List.setIfInBounds_toArray, List.set_cons_zero, List.set_cons_succ]; rfl
        refine wpK_q (v := ?_) (a' := ?_) (by rfl) (fun w' hR => ?_) ?_ ?_
        rotate_left 2
        · go_simp; with_reducible rfl
        · simp only [Act.put, List.setIfInBounds_toArray, List.set_cons_zero, List.set_cons_succ]; rfl
        refine wpK_q (v := ?_) (a' := ?_) (by rfl) (fun w' hR => ?_) ?_ ?_
        rotate_left 2
        · go_simp; with_reducible rfl
        · simp only [Act.put, List.setIfInBounds_toArray, List.set_cons_zero, List.set_cons_succ]; rfl
        refine wpK_q (v := ?_) (a' := ?_) (by rfl) (fun w' hR => ?_) ?_ ?_
        rotate_left 2
        · go_simp; with_reducible rfl
        · simp only [Act.put, List.setIfInBounds_toArray, List.set_cons_zero, List.set_cons_succ]; rfl
        refine wpK_call Try.func95 (by kernel_rfl) rfl rfl (by rfl) #[.int .u8 0, .int .i64 (T.count : Int), .slice av r.length cv] (by simp only [List.map_toArray, List.map_cons, List.map_nil]; rfl) ?_
        refine HFR.out.mono ?_
        rintro e w6 ⟨v6, rfl, ho6, hb6⟩
        refine ⟨_, rfl, fun _ => hb6, ?_⟩
        rw [HFL.out.2] at ho6
        obtain ⟨g6, cap6, rfl, -, -, hg6, -⟩ := own_slice ho6 (by omega)
        have hO6 := own_below HO1.out (Ext.trans _ _ _ (Ext.drew wr) hb6)
        obtain ⟨w7, hcp, hO7, hM7⟩ := own_copy (P := Try.prog) (ys := Fr.map B) hO6 (j := j) (by rw [List.length_map, HFL.out.2]; omega) (a := ⟨g6, 0, none⟩) (sc := cap6) (dT := 23) (sT := 23) (ty := 3) Try.underlying23 z5 (fun i u hu => by rw [add_off, Nat.zero_add]; exact own_cell ho6 hu) (fun u hu => by obtain ⟨c, _, rfl⟩ := List.mem_map.1 hu; rfl)
        rw [List.length_map, HFL.out.2] at hcp hO7
        refine wpK_v (by rfl) (exec_copy rfl _ (by simp only [List.map_toArray, List.map_cons, List.map_nil]; rfl) hcp) (fun h => by cases h) (by simp only [Act.put, List.setIfInBounds_toArray, List.set_cons_zero, List.set_cons_succ]; rfl) ?_
        refine wpK_done ?_
        have HB6 : Hid (Below wd.heap.size wd w7 ∧ wd.heap.size ≤ g ∧ g < w7.heap.size) := hid ⟨(HB.out.trans ((Ext.trans _ _ _ (Ext.drew wr) hb6).mono HB.out.size)).trans (hM7.below (Nat.le_trans HB.out.size (Ext.trans _ _ _ (Ext.drew wr) hb6).size) (fun i hi e => by omega)), hc3, (own_lt hO7 g rfl).2⟩
        obtain ⟨Z1, hZ1⟩ : ∃ Z1, Z1 = (TS.stretch D (T.lo + F) K).take j ++ Fr ++ (TS.stretch D (T.lo + F) K).drop (j + (12 + r.length)) := ⟨_, rfl⟩
        have hO7' : w7.ownsRow wd.heap.size 5 1 (.slice (some ⟨g, 0, none⟩) n co) n (Z1.map B) := own_len hO7 rfl (by rw [hZ1]; simp only [List.map_append, List.map_take, List.map_drop])
        have hZ1e : Z1.take e0 = (TS.stretch D (T.lo + F) K).take j ++ Fr := by
          have hbl := HBN.out K (Nat.le_refl _)
          rw [hZ1]
          refine List.take_left' ?_
          rw [List.length_append, List.length_take, hbl, HFL.out.2]
          omega
        have HO7 := hid hO7'
        have HZ1 := hid hZ1e
        clear k0 k1 e8 hb6 ho6 hO6 hcp hO7 hM7 hO7' hZ1 hZ1e HFR HO1 HB hc3 hc4 hg6
        have hz1l : Z1.length = n := by
          have := HO7.out.1
          simpa using this
        go_wp2_with fail
        go_loopw [11] (fun i wx => ∃ (m : Nat) (Zm : List UInt8), e0 ≤ m ∧ m ≤ n ∧ i = I m ∧ Zm.length = n ∧ Hid (wx.ownsRow wd.heap.size 5 1 (.slice (some ⟨g, 0, none⟩) n co) n (Zm.map B)) ∧ Hid (Zm.take m = Z1.take e0 ++ List.replicate (m - e0) 0) ∧ Hid (Mod (fun k => k = g) w7 wx)) (fun i _ => n - (intOf i).toNat)
        case atStart => exact ⟨e0, Z1, by omega, by omega, by first | rfl | (show Value.int .i64 _ = Value.int .i64 _; congr 1; omega), hz1l, HO7, hid (by rw [Nat.sub_self]; simp), hid (Mod.refl _ _)⟩
        case round =>
          clear HO7
          obtain ⟨m, Zm, hm1, hm2, rfl, hzl, HOm, HZm, HMm⟩ := hrel
          by_cases hmn : m < n
          · have f1 : decide ((m : Int) < (n : Int)) = true := decide_eq_true (by omega)
            have hcell := own_cell HOm.out (i := m) (u := B (Zm[m]'(by omega))) (by rw [List.getElem?_map, List.getElem?_eq_getElem (by omega)]; rfl)
            have hfz := own_frozen HOm.out m
            generalize (Zm[m]'(by omega)) = cz at hcell
            go_wp2_with fail
            go_roundw
            case rel =>
              refine ⟨m + 1, Zm.set m 0, by omega, by omega, by go_num, by rw [List.length_set]; exact hzl, hid ?_, hid ?_, hid (HMm.out.trans (Mod.set (own := fun k => k = g) (a := ⟨g, m, none⟩) rfl))⟩
              · have := own_set HOm.out hmn (B 0)
                rwa [← List.map_set] at this
              · rw [take_snoc (x := 0) (by rw [List.getElem?_set_self (by omega)]), List.take_set_of_le (Nat.le_refl _), HZm.out, List.append_assoc, show m + 1 - e0 = (m - e0) + 1 by omega, List.replicate_succ']
            case measure => simp [intOf]; omega
          · have f1 : decide ((m : Int) < (n : Int)) = false := decide_eq_false (by omega)
            have hme : m = n := by omega
            have hbb : Zm = (TS.stretch D (T.lo + F) K).take j ++ (0 :: TS.framed T.count r ++ r) ++ List.replicate (K * 256 - (j + 12 + r.length)) 0 := by
              have h9 := HZm.out
              rw [hme, List.take_of_length_le (by omega), HZ1.out, HFL.out.1] at h9
              rw [h9, ← HNK.out, HE0.out]
            have hdz := HDO.out
            rw [← hbb] at hdz
            have HDZ := hid hdz
            have hbw : Below wd.heap.size wd wr := HB6.out.1.trans (HMm.out.below HB6.out.1.size (fun i hi e => by have := HB6.out.2.1; omega))
            have hbw0 : Below w.heap.size w wr := HB0.out.trans (hbw.mono HB0.out.size)
            have hog : ∀ q, (Value.slice (some ⟨g, 0, none⟩) n co).ownBlock = some q → ¬ own q := fun q hq ho => by
              have e : g = q := Option.some.inj hq
              have := HD0.out.lt q ho
              have := HB6.out.2.1
              omega
            have hwr := rtwrite_any wr t p own T D (.slice (some ⟨g, 0, none⟩) n co) Zm K F (H0.out.below hbw) (HD0.out.below hbw) HT.out (own_sees' HOm.out hzl) (by rw [hzl]; exact HNK.out) (by omega) (by omega) hog (by omega)
            obtain ⟨Y1, hY1⟩ : ∃ Y1, Y1 = TS.rwr D (T.lo + F) (TS.pagesOf Zm K) := ⟨_, rfl⟩
            have hc1 := TS.rwr_code D (T.lo + F) (TS.pagesOf Zm K)
            have hs1 := TS.rwr_len D (T.lo + F) (TS.pagesOf Zm K)
            have hw1' := TS.rwr_waits D (T.lo + F) (TS.pagesOf Zm K)
            have hpl : (TS.pagesOf Zm K).length = K := by unfold TS.pagesOf; simp
            rw [← hY1] at hwr hc1 hs1 hw1'
            rw [hpl] at hw1'
            have HY1 := hid hY1
            obtain ⟨cc, D1⟩ := Y1
            simp only at hwr hc1 hs1 hw1'
            have HWR := hid hwr
            have HBW := hid (And.intro hbw (And.intro hbw0 hog))
            have HC1 := hid (And.intro hc1 hs1)
            clear hme hbb hdz hbw hbw0 hog hwr hY1 hc1 hs1 hpl hm1 HZm HZ1 hz1l
            go_upto_region 27 with (go_at_call 101; go_must (refine HWR.out.mono ?_); rintro e w8 ⟨rfl, hre⟩; have HRE := hid hre; clear hre)
            have HR8 := hid (HRE.out.below HBW.out.2.1)
            obtain ⟨own1, x1, x2, x3⟩ := HRE.out
            have ht8 := (H0.out.below HBW.out.1).mod x3 HT.out
            have HT8 := hid ht8
            have htl : t < w.heap.size := H.out.lt
            by_cases hcz : cc = 0
            rotate_left
            · have f2 : (cc == 0) = false := by simpa using hcz
              have c5 := ht8.c5
              have f5 := ht8.fr 5
              have hZ : Z = (cc, D1, { T with sick := cc }) := by rw [HDZ.out]; exact TS.ref2_bad HFJ.out.1 HY1.out hcz
              have HZ := hid hZ
              clear hZ ht8
              go_wp2_with fail
              go_ret
              rw [HZ.out]
              have hok := HT8.out.ok
              exact RDone.fin HR8.out (HT8.out.set 5 (I cc) { T with sick := cc } ⟨hok.lt, hok.le, hok.pos, hok.count, HC1.out.1.bd⟩ rfl) (Mod.set (own := fun k => k = t) (a := ⟨t, 5, none⟩) rfl) HT.out htl
            · subst hcz
              have c3 := ht8.c3
              have hn256 : 256 ≤ n := by have := HNK.out; omega
              have hgl : g < wr.heap.size := (own_lt HOm.out g rfl).2
              have hgo : ¬ own g := HBW.out.2.2 g rfl
              have hgo1 : ¬ own1 g := fun h => (x2 g h).elim hgo (fun h => by omega)
              have hto1 : ¬ own1 t := fun h => (x2 t h).elim HT.out (fun h => by have := HBW.out.2.1.size; omega)
              have hgt : g ≠ t := fun e => by have := HB6.out.2.1; have := HB0.out.size; omega
              have hO8 := own_mod (w' := w8) HOm.out (fun q hq => by
                have e : g = q := Option.some.inj hq
                subst e
                exact x3.block g hgl hgo)
              have hcell := own_cell hO8 (i := j) (u := B (Zm[j]'(by omega))) (by rw [List.getElem?_map, List.getElem?_eq_getElem (by omega)]; rfl)
              have hfz := own_frozen hO8 j
              generalize (Zm[j]'(by omega)) = cz at hcell
              have hO9 := own_set hO8 (show j < n by omega) (B 1)
              rw [← List.map_set] at hO9
              have hm9 : Mod (fun k => k = g) w8 (w8.setCell ⟨g, j, none⟩ (.int .u8 1)) := Mod.set (own := fun k => k = g) (a := ⟨g, j, none⟩) rfl
              have hsees : Sees (w8.setCell ⟨g, j, none⟩ (.int .u8 1)) (.slice (some ⟨g, 0, none⟩) 256 co) ((Zm.set j 1).take 256) := (own_sees' hO9 (by rw [List.length_set]; exact hzl)).take 256 (by rw [List.length_set, hzl]; omega)
              have ht9 := HT8.out.mod hm9 (fun e => hgt e.symm)
              rw [← HC1.out.2] at ht9
              have hwr2 := rtwrite_any (w8.setCell ⟨g, j, none⟩ (.int .u8 1)) t p own1 T D1 (.slice (some ⟨g, 0, none⟩) 256 co) ((Zm.set j 1).take 256) 1 F ht9 (x1.mod hm9 (fun k hk e => hgo1 (e ▸ hk))) hto1 hsees (by rw [List.length_take, List.length_set, hzl]; omega) (by omega) (by omega) (fun q hq => by have e : g = q := Option.some.inj hq; subst e; exact hgo1) (by omega)
              obtain ⟨Y2, hY2⟩ : ∃ Y2, Y2 = TS.rwr D1 (T.lo + F) (TS.pagesOf ((Zm.set j 1).take 256) 1) := ⟨_, rfl⟩
              have hc2' := TS.rwr_code D1 (T.lo + F) (TS.pagesOf ((Zm.set j 1).take 256) 1)
              rw [← hY2] at hwr2 hc2'
              obtain ⟨c2, D2⟩ := Y2
              simp only at hwr2 hc2'
              have hZ : Z = if c2 ≠ 0 then (c2, D2, { T with sick := c2 }) else (0, D2, { T with pos := T.pos + 12 + r.length, count := T.count + 1 }) := by rw [HDZ.out]; exact TS.ref2_ok HFJ.out.1 HFJ.out.2 HY1.out hY2
              have HZ := hid hZ
              have HWR2 := hid hwr2
              have HC2 := hid hc2'
              have HR9 := hid (fun (w' : World) (hre : Reffed' own1 p (w8.setCell ⟨g, j, none⟩ (.int .u8 1)) D2 w') => Reffed'.trans (own := own) (w := w) (fun k hk => (x2 k hk).imp id (fun h => Nat.le_trans HBW.out.2.1.size h)) (((Mod.of_below own HBW.out.2.1).trans x3).then hm9 (fun i hi e => by have := HB6.out.2.1; have := HB0.out.size; omega)) hre)
              have HT9 := hid (fun (w' : World) (hre : Reffed' own1 p (w8.setCell ⟨g, j, none⟩ (.int .u8 1)) D2 w') => (HT8.out.mod hm9 (fun e => hgt e.symm)).mod hre.choose_spec.2.2 hto1)
              have hc256 : (256 : Int) ≤ (co : Int) := by omega
              clear hgl hgo hgo1 hto1 hgt hO8 hO9 hm9 hsees ht9 hwr2 hY2 hc2' hZ x1 x2 x3 ht8
              go_upto_region 30 with (go_at_call 101; go_must (refine HWR2.out.mono ?_); rintro e w10 ⟨rfl, hre⟩; have HRE2 := hid hre; clear hre)
              have HR10 := hid (HR9.out w10 HRE2.out)
              have ht10 := HT9.out w10 HRE2.out
              have HT10 := hid ht10
              have c5 := ht10.c5
              have c4 := ht10.c4
              have c3'' := ht10.c3
              have f3 := ht10.fr 3
              have f4 := ht10.fr 4
              have f5 := ht10.fr 5
              have hok := ht10.ok
              have HOK := hid hok
              clear hok hcell hfz c3 HR9 HT9 HRE2 HWR2 ht10
              by_cases hcz : c2 = 0
              rotate_left
              · have f2 : (c2 == 0) = false := by simpa using hcz
                have HCZ := hid hcz
                clear hcz
                go_wp2_with fail
                go_ret
                rw [HZ.out, if_pos HCZ.out]
                exact RDone.fin HR10.out (HT10.out.set 5 (I c2) { T with sick := c2 } ⟨HOK.out.lt, HOK.out.le, HOK.out.pos, HOK.out.count, HC2.out.bd⟩ rfl) (Mod.set (own := fun k => k = t) (a := ⟨t, 5, none⟩) rfl) HT.out htl
              · subst hcz
                have hw9 : IntKind.i64.wrap ((T.count : Int) + 1) = (T.count : Int) + 1 := IntWalk.i64_in _ (by omega)
                go_wp2_with fail
                go_ret
                rw [HZ.out, if_neg (by simp)]
                have hnm := HNUM.out
                have hv3 : (T.pos : Int) + 12 + (r.length : Int) = ((T.pos + 12 + r.length : Nat) : Int) := by omega
                have hv4 : (T.count : Int) + 1 = ((T.count + 1 : Nat) : Int) := by omega
                have s1 := HT10.out.set 5 (I 0) { T with sick := 0 } ⟨HOK.out.lt, HOK.out.le, HOK.out.pos, HOK.out.count, by show (-9223372036854775808 : Int) ≤ 0 ∧ (0 : Int) ≤ 9223372036854775807; omega⟩ rfl
                have s2 := s1.set 3 (I ((T.pos : Int) + 12 + (r.length : Int))) { T with sick := 0, pos := T.pos + 12 + r.length } ⟨HOK.out.lt, HOK.out.le, by show T.pos + 12 + r.length ≤ T.size; exact h3, by show T.count ≤ T.pos + 12 + r.length; have := HOK.out.count; omega, by show (-9223372036854775808 : Int) ≤ 0 ∧ (0 : Int) ≤ 9223372036854775807; omega⟩ (by rw [hv3]; rfl)
                have s3 := s2.set 4 (I ((T.count : Int) + 1)) { T with sick := 0, pos := T.pos + 12 + r.length, count := T.count + 1 } ⟨HOK.out.lt, HOK.out.le, by show T.pos + 12 + r.length ≤ T.size; exact h3, by show T.count + 1 ≤ T.pos + 12 + r.length; have := HOK.out.count; omega, by show (-9223372036854775808 : Int) ≤ 0 ∧ (0 : Int) ≤ 9223372036854775807; omega⟩ (by rw [hv4]; rfl)
                have e : ({ T with pos := T.pos + 12 + r.length, count := T.count + 1 } : TS) = { T with sick := 0, pos := T.pos + 12 + r.length, count := T.count + 1 } := by rw [← HSK.out]
                rw [e]
                refine RDone.fin HR10.out s3 ?_ HT.out htl
                exact ((Mod.set (own := fun k => k = t) (a := ⟨t, 5, none⟩) rfl).trans (Mod.set (own := fun k => k = t) (a := ⟨t, 3, none⟩) rfl)).trans (Mod.set (own := fun k => k = t) (a := ⟨t, 4, none⟩) rfl)
theorem rtappend_any (w : World) (t p : Nat) (own : Nat → Prop) (T : TS) (D : DS) (v : Value) (r : List UInt8) (h : RTapeIn w t p D.safe.length T) (hd : RefAt w p own D) (ht : ¬ own t) (hv : Sees w v r) (hN : D.waits.length ≤ 800000000) :
    Calls Try.prog 73 #[.pointer (some ⟨t, 0, none⟩), v] w (RDone w t p D.safe.length own (TS.append D T r)) := by
  by_cases hx : 65536 < r.length ∨ T.sick ≠ 0 ∨ T.size < T.pos + 12 + r.length ∨ D.off = true
  · exact rtappend_small w t p own T D v r h hd ht hv hx
  · simp only [not_or, Nat.not_lt, ne_eq, Classical.not_not] at hx
    obtain ⟨h1, h2, h3, h4⟩ := hx
    have e : TS.append D T r = TS.doIt D T r := by
      unfold TS.append
      rw [if_neg (by omega), if_neg (by simp [h2]), if_neg (by omega)]
    rw [e]
    exact rtappend_on w t p own T D v r h hd ht hv h1 h2 h3 (by simpa using h4) (by omega)
end Go.Proofs.Ytoaeapnkefjpaaa

namespace Go.Proofs.Ytoaeapnkefjpaaa
open Go.RowKit
set_option linter.unusedVariables false
set_option linter.unusedSimpArgs false
section
variable {P : Program} {ops : Array Oper} {Q : Exit → Act → World → Prop} {md : Region.Mode} {R : World → World → Prop} {ds : List Nat}

/-- What is listed behind an order. -/
def listedBy : List (Nat × Nat) → Array Bool → Array Bool
  | [], l => l
  | (i, _) :: rest, l => listedBy rest (l.setIfInBounds i true)
/-- Does a row of reads fit? -/
def readsB (md : Region.Mode) (ops : Array Oper) (ds : List Nat) : List (Nat × Nat) → Array Bool → Bool
  | [], _ => true
  | (i, 0) :: rest, l => Region.free md ops l i && (Region.ready md ops l).contains i && shutB md ops l && (ds.all fun d => l.getD d true || waitsB md ops i ops.size d) && readsB md ops ds rest (l.setIfInBounds i true)
  | (_, _ + 1) :: _, _ => false
/-- The exit behind the reads. -/
def thenQ (Q : Exit → Act → World → Prop) (C : Act → World → Prop) : Exit → Act → World → Prop
  | .normal, a, w => C a w
  | e, a, w => Q e a w
theorem thenQ_normal {C : Act → World → Prop} {a : Act} {w : World} (h : C a w) : thenQ Q C .normal a w := h
theorem wpC_of_reads (hrefl : ∀ w, R w w) (htr : ∀ w w' w'', R w w' → R w' w'' → R w w'') (hsel : Region.noSelect ops = true)
    (hQ : ∀ c a d v w, Q (.panic c) (Act.put a d v) w → Q (.panic c) a w) (C : Act → World → Prop) (n : Nat) :
    ∀ (π : List (Nat × Nat)) (l : Array Bool) (a : Act) (w : World), readsB md ops ds π l = true → (∀ a w, C a w → wpC P md ops Q R ds n (listedBy π l) a w) → wpK P ops (thenQ Q C) R (pick ops π) a w → wpC P md ops Q R ds (π.length + n) l a w
  | [], l, a, w, hf, hC, h => by
    rw [List.length_nil, Nat.zero_add]
    exact hC a w h
  | (i, 0) :: rest, l, a, w, hf, hC, h => by
    simp only [readsB, Bool.and_eq_true] at hf
    obtain ⟨⟨⟨⟨h1, h2⟩, h3⟩, h4⟩, h5⟩ := hf
    have hr : i ∈ Region.ready md ops l := by simpa using h2
    obtain ⟨_, oi, hoi, _⟩ := mem_ready.1 hr
    simp only [pick, hoi] at h
    obtain ⟨v, hy, hk⟩ := h
    rw [List.length_cons, show rest.length + 1 + n = (rest.length + n) + 1 by omega]
    exact wpC_first hrefl htr hoi (Region.noSelect_spec hsel) (fun c a w => hQ c a oi.dst v w) ops.size _ l a w (Region.free_spec hoi h1) (shutB_spec h3)
      (fun d hm hun => by have := List.all_eq_true.1 h4 d hm; rw [hun] at this; simpa using this) hr hy (wpC_of_reads hrefl htr hsel hQ C n rest _ _ _ h5 hC hk)
  | (_, _ + 1) :: _, l, a, w, hf, hC, h => by simp [readsB] at hf
/-- A step with an effect, whatever else is ready. -/
theorem wpOp_of_wpK (hrefl : ∀ w, R w w) (htr : ∀ w w' w'', R w w' → R w' w'' → R w w'') (hsel : Region.noSelect ops = true)
    (hQ : ∀ c a d v w, Q (.panic c) (Act.put a d v) w → Q (.panic c) a w) {i k : Nat} {rest : List (Nat × Nat)} {l : Array Bool} {a : Act} {w : World} {oi : Oper} (hoi : ops[i]? = some oi)
    (hk0 : (if k = 0 then !ds.contains i else ds.contains i) = true) (hf : fitsB md ops ds rest (l.setIfInBounds i true) = true) (h : wpK P ops Q R ((oi, k + 1) :: pick ops rest) a w) :
    wpOp P ops Q i (fun a' w' => (i ∉ ds → R w w') ∧ wpC P md ops Q R ds rest.length (l.setIfInBounds i true) a' w') a w := by
  unfold wpOp
  simp only [hoi]
  unfold wpK at h
  by_cases hw : Region.wanted oi (yielded ops a.tmps) = true
  · rw [if_pos hw] at h ⊢
    refine .inl (Oper.wp_mono (fun a' w' hh => ⟨fun hnd => hh.1 ?_, wpC_of_wpK hrefl htr hsel hQ rest _ _ _ hf hh.2⟩) h)
    by_cases hk : k = 0
    · exact hk
    · rw [if_neg hk] at hk0
      exact absurd (by simpa using hk0) hnd
  · rw [if_neg hw] at h ⊢
    exact ⟨fun _ => hrefl w, wpC_of_wpK hrefl htr hsel hQ rest _ _ _ hf h⟩
/-- Reads first; then i and j are ready; both orders fit. -/
def forkB (md : Region.Mode) (ops : Array Oper) (ds : List Nat) (π : List (Nat × Nat)) (i j : Nat × Nat) (ri rj : List (Nat × Nat)) : Bool :=
  readsB md ops ds π (Array.replicate ops.size false) && (Region.ready md ops (listedBy π (Array.replicate ops.size false)) == [i.1, j.1]) && (if i.2 = 0 then !ds.contains i.1 else ds.contains i.1) && (if j.2 = 0 then !ds.contains j.1 else ds.contains j.1) &&
    fitsB md ops ds ri ((listedBy π (Array.replicate ops.size false)).setIfInBounds i.1 true) && fitsB md ops ds rj ((listedBy π (Array.replicate ops.size false)).setIfInBounds j.1 true) && ri.length == rj.length && (π.length + (ri.length + 1) == ops.size)
theorem wp_region_fork {id : Nat} {a : Act} {w : World} (R : World → World → Prop) (ds : List Nat) (π : List (Nat × Nat)) (i j : Nat × Nat) (ri rj : List (Nat × Nat)) (l : List (Oper × Nat)) (li lj : List (Oper × Nat)) (oi oj : Oper) (hm : P.follows .mixedOrders = true) (hrefl : ∀ w, R w w) (htr : ∀ w w' w'', R w w' → R w' w'' → R w w'')
    (hc : (Region.noSelect ops && forkB .any ops ds π i j ri rj) = true) (hl : pick ops π = l) (hoi : ops[i.1]? = some oi) (hoj : ops[j.1]? = some oj) (hli : pick ops ri = li) (hlj : pick ops rj = lj)
    (hQ : ∀ c a d v w, Q (.panic c) (Act.put a d v) w → Q (.panic c) a w)
    (h : wpK P ops (thenQ Q fun a' w' => wpK P ops Q R ((oi, i.2 + 1) :: li) a' w' ∧ wpK P ops Q R ((oj, j.2 + 1) :: lj) a' w') R l a w.drew) : (Code.region id ops true).wp P Q a w := by
  subst hl hli hlj
  rw [Bool.and_eq_true] at hc
  obtain ⟨hsel, hf⟩ := hc
  unfold forkB at hf
  simp only [Bool.and_eq_true, beq_iff_eq] at hf
  obtain ⟨⟨⟨⟨⟨⟨⟨f1, f2⟩, f3⟩, f4⟩, f5⟩, f6⟩, f7⟩, f8⟩ := hf
  refine wp_region_any hm (wpAny_of_wpC (R := R) (ds := ds) _ _ _ _ ?_)
  refine (fun e8 => ?_) (wpC_of_reads (md := .any) (ops := ops) (Q := Q) (R := R) (ds := ds) hrefl htr hsel hQ _ (ri.length + 1) π _ a _ f1 (fun a' w' hh => ?_) h)
  · rw [f8] at e8
    exact e8
  · obtain ⟨g1, g2⟩ := hh
    refine ⟨fun h0 => (by rw [f2] at h0; cases h0), fun q hq => ?_⟩
    rw [f2] at hq
    have hq2 : q = i.1 ∨ q = j.1 := by simpa using hq
    clear hq
    cases hq2 with
    | inl e =>
      rw [e]
      exact wpOp_of_wpK hrefl htr hsel hQ hoi f3 f5 g1
    | inr e =>
      rw [e, f7]
      exact wpOp_of_wpK hrefl htr hsel hQ hoj f4 f6 g2
end
end Go.Proofs.Ytoaeapnkefjpaaa

namespace Go.Proofs.Ytoaeapnkefjpaaa
open Go.RowKit
set_option linter.unusedVariables false
set_option linter.unusedSimpArgs false

abbrev Cl := Int × Int × Int × List UInt8
/-- A script of calls, as it is seen. -/
def IsScr (w : World) (a1 : Option Addr) (L : List Cl) : Prop := 0 < L.length → ∃ g off, a1 = some ⟨g, off, none⟩ ∧ ∀ i x, L[i]? = some x →
  w.cell? ⟨g, off + i * 4, none⟩ = some (I x.1) ∧ w.cell? ⟨g, off + i * 4 + 1, none⟩ = some (I x.2.1) ∧ w.cell? ⟨g, off + i * 4 + 2, none⟩ = some (I x.2.2.1) ∧ ∃ u, w.cell? ⟨g, off + i * 4 + 3, none⟩ = some u ∧ Sees w u x.2.2.2
theorem cell_on {w w' : World} (hb : Below w.heap.size w w') {p : Addr} {v : Value} (h : w.cell? p = some v) : w'.cell? p = some v := (World.cell?_of_block (w := w) (a := p) (hb.block p.block (block_lt_of_cell h))).trans h
theorem IsScr.below {w w' : World} {a1 : Option Addr} {L : List Cl} (h : IsScr w a1 L) (hb : Below w.heap.size w w') : IsScr w' a1 L := by
  intro h0
  obtain ⟨g, off, rfl, hc⟩ := h h0
  refine ⟨g, off, rfl, fun i x hx => ?_⟩
  obtain ⟨e0, e1, e2, u, e3, hs⟩ := hc i x hx
  exact ⟨cell_on hb e0, cell_on hb e1, cell_on hb e2, u, cell_on hb e3, hs.below hb⟩
/-- What of the script is in bounds. -/
structure ScrOk (L : List Cl) : Prop where
  n : ∀ x ∈ L, -9223372036854775808 ≤ x.2.1 ∧ x.2.1 ≤ 9223372036854775807
  k : ∀ x ∈ L, -9223372036854775808 ≤ x.2.2.1 ∧ x.2.2.1 ≤ 9223372036854775807
  b : ∀ x ∈ L, x.2.2.2.length ≤ 140737488355328
  l : L.length ≤ 9223372036854775807
set_option maxRecDepth 100000 in
set_option maxHeartbeats 1600000 in
theorem tlong_any (w : World) (pg lo hi sp : Int) (fv : Value) (first : List UInt8) (hf : Sees w fv first) (hfl : first.length ≤ 140737488355328) (a1 : Option Addr) (cap : Nat) (L : List Cl) (hs : IsScr w a1 L) (hok : ScrOk L) :
    Calls Try.prog 69 #[.agg #[I pg, I lo, I hi, fv, I sp], .slice a1 L.length cap] w fun e w' => ∃ b, e = .returned (.bool b) ∧ (b = false → pg ≤ 100 ∧ L.length ≤ 60 ∧ first.length ≤ 32768 ∧ ∀ x ∈ L, x.2.2.2.length ≤ 32768) ∧ Below w.heap.size w w' := by
  obtain ⟨af, cf, rfl, hff⟩ := hf.form0
  have hb0 : Below w.heap.size w (w.alloc (.cells #[I pg, I lo, I hi, .slice af first.length cf, I sp] 94)) := (Below.refl _ _).alloc (Nat.le_refl _) _
  have hp0 : (w.alloc (.cells #[I pg, I lo, I hi, .slice af first.length cf, I sp] 94)).heap[w.heap.size]? = some (.cells #[I pg, I lo, I hi, .slice af first.length cf, I sp] 94 (0, 0)) := heap_alloc_new _ _
  have HS := hid (hs.below hb0)
  have HP := hid hp0
  have HB0 := hid hb0
  have HOK := hid hok
  have hll := hok.l
  clear hb0 hp0 hs hok hf
  go_enter Try.func69, Try.ntmps69
  go_wp2
  have HZ := hid (show (w.alloc (.cells #[I pg, I lo, I hi, .slice af first.length cf, I sp] 94)).heap.size = w.heap.size + 1 by simp)
  generalize w.alloc (.cells #[I pg, I lo, I hi, .slice af first.length cf, I sp] 94) = wa at *
  go_loopw [5, 13] (fun n i wr => ∃ (k m : Nat), k ≤ L.length ∧ n = I m ∧ i = I k ∧ m ≤ 281474976710656 ∧ (0 < k → m ≤ 32768) ∧ Hid (first.length ≤ m ∧ ∀ j x, j < k → L[j]? = some x → x.2.2.2.length ≤ m) ∧ Hid (Below wa.heap.size wa wr)) (fun _ i _ => L.length - (intOf i).toNat)
  case atStart => exact ⟨0, first.length, by omega, rfl, rfl, by omega, by omega, hid ⟨Nat.le_refl _, fun j x hj => by omega⟩, hid (Below.refl _ _)⟩
  case round =>
    obtain ⟨k, m, hk, rfl, rfl, hm1, hm2, HM, HB⟩ := hrel
    by_cases hlt : k < L.length
    · have f1 : decide ((k : Int) < (L.length : Int)) = true := decide_eq_true (by omega)
      obtain ⟨x, hx⟩ : ∃ x, L[k]? = some x := ⟨_, List.getElem?_eq_getElem hlt⟩
      obtain ⟨g, off, rfl, hc⟩ := (HS.out.below HB.out) (by omega)
      obtain ⟨e0, e1, e2, u, e3, hu⟩ := hc k x hx
      have hxb := HOK.out.b x (List.mem_of_getElem? hx)
      obtain ⟨xk, xn, xj, xb⟩ := x
      simp only at e0 e1 e2 hu hxb
      obtain ⟨au, cu, rfl, hul⟩ := hu.form0
      have HX := hid hx
      have hba : Below wr.heap.size wr (wr.alloc (.cells #[I xk, I xn, I xj, .slice au xb.length cu] 101)) := (Below.refl _ _).alloc (Nat.le_refl _) _
      have HBA := hid (HB.out.trans (hba.mono HB.out.size))
      clear hc hu hx hba
      have hw1 : IntKind.i64.wrap ((m : Int) + (xb.length : Int)) = (m : Int) + (xb.length : Int) := IntWalk.i64_in _ (by omega)
      by_cases h6 : 32768 < m + xb.length
      · have f2 : decide ((32768 : Int) < (m : Int) + (xb.length : Int)) = true := decide_eq_true (by omega)
        go_wp2
        go_ret
        exact ⟨true, rfl, fun h => (by cases h), HB0.out.trans (HBA.out.mono HB0.out.size)⟩
      · have f2 : decide ((32768 : Int) < (m : Int) + (xb.length : Int)) = false := decide_eq_false (by omega)
        go_wp2
        go_roundw
        case rel =>
          refine ⟨k + 1, m + xb.length, by omega, by go_num, by go_num, by omega, by omega, hid ⟨by have := HM.out.1; omega, fun j y hj hy => ?_⟩, HBA⟩
          by_cases e : j = k
          · subst e
            rw [HX.out] at hy
            obtain rfl := Option.some.inj hy
            show xb.length ≤ m + xb.length
            omega
          · have := HM.out.2 j y (by omega) hy
            omega
        case measure => simp [intOf]; omega
    · have hke : k = L.length := by omega
      have hpw : wr.heap[w.heap.size]? = some (.cells #[I pg, I lo, I hi, .slice af first.length cf, I sp] 94 (0, 0)) := (HB.out.block _ (by rw [HZ.out]; omega)).trans HP.out
      have hc0 : wr.cell? ⟨w.heap.size, 0, none⟩ = some (I pg) := by rw [cell_of_row _ _ _ _ _ _ hpw]; rfl
      have HBR := hid (HB0.out.trans (HB.out.mono HB0.out.size))
      clear hpw
      have hcases : decide (pg > 100) = true ∨ (decide (pg > 100) = false ∧ decide ((L.length : Int) > 60) = true) ∨ (decide (pg > 100) = false ∧ decide ((L.length : Int) > 60) = false ∧ decide ((m : Int) > 32768) = true) ∨ (pg ≤ 100 ∧ L.length ≤ 60 ∧ m ≤ 32768) := by
        simp only [decide_eq_true_eq, decide_eq_false_iff_not]; omega
      have hres : ∀ e w', e = Ending.returned (.bool true) → Below w.heap.size w w' → (∃ b, e = .returned (.bool b) ∧ (b = false → pg ≤ 100 ∧ L.length ≤ 60 ∧ first.length ≤ 32768 ∧ ∀ x ∈ L, x.2.2.2.length ≤ 32768) ∧ Below w.heap.size w w') := fun e w' h1 h2 => ⟨true, h1, fun h => (by cases h), h2⟩
      have HRES := hid hres
      have HKE := hid hke
      clear hres hke
      rcases hcases with c | ⟨c, d⟩ | ⟨c, d, f⟩ | ⟨c, d, f⟩
      · go_wp2
        go_ret
        exact HRES.out _ _ rfl HBR.out
      · go_wp2
        go_ret
        exact HRES.out _ _ rfl HBR.out
      · go_wp2
        go_ret
        exact HRES.out _ _ rfl HBR.out
      · have c' : decide (pg > 100) = false := decide_eq_false (by omega)
        have d' : decide ((L.length : Int) > 60) = false := decide_eq_false (by omega)
        have f' : decide ((m : Int) > 32768) = false := decide_eq_false (by omega)
        go_wp2
        go_ret
        refine ⟨false, rfl, fun _ => ⟨c, d, by have := HM.out.1; omega, fun x hx => ?_⟩, HBR.out⟩
        obtain ⟨j, hj⟩ := List.getElem?_of_mem hx
        have := HM.out.2 j x (by rw [HKE.out]; exact (List.getElem?_eq_some_iff.1 hj).1) hj
        omega
set_option maxRecDepth 100000 in
set_option maxHeartbeats 1600000 in
theorem tsame_any (w w0 : World) (p pm : Nat) (od om : Nat → Prop) (D : DS) (h : Both w0 od p om pm D D w) : Calls Try.prog 72 #[.pointer (some ⟨p, 0, none⟩), .pointer (some ⟨pm, 0, none⟩)] w fun e w' => e = .returned (.bool true) ∧ Below w.heap.size w w' := by
  have H := hid h
  obtain ⟨as0, cs, cc0, cc3, cc4, cfr⟩ := h.m.cells
  clear h cfr
  have hn := H.out.m.ok.n2
  have hz := below_drewN w
  have HZ := hid hz
  clear hz
  cases ho : D.off with
  | true =>
    rw [ho] at cc3
    have hdn := fun n => down_any (w.drewN n) p od D (H.out.drewN n).d
    rw [ho] at hdn
    have HDN := hid hdn
    clear hdn ho
    go_enter Try.func72, Try.ntmps72
    go_wp2_with fail
    go_quiet ((first | (go_at_call 59; exact quiet_mine (ops_any _ _ _ _ (H.out.drewN _).d)) | (go_at_call 61; exact quiet_mine (HDN.out _)) | (go_at_call 60; exact quiet_mine (pages_any _ _ _ _ (H.out.drewN _).d))))
    go_wp2_with (go_at_call 61; refine (HDN.out nq).mono ?_; rintro e w1 ⟨rfl, rfl⟩)
    go_ret
    exact ⟨rfl, HZ.out nq⟩
  | false =>
    rw [ho] at cc3
    have hdn := fun n => down_any (w.drewN n) p od D (H.out.drewN n).d
    rw [ho] at hdn
    have HDN := hid hdn
    have HO := hid ho
    clear hdn ho
    go_enter Try.func72, Try.ntmps72
    go_wp2_with fail
    go_quiet ((first | (go_at_call 59; exact quiet_mine (ops_any _ _ _ _ (H.out.drewN _).d)) | (go_at_call 61; exact quiet_mine (HDN.out _)) | (go_at_call 60; exact quiet_mine (pages_any _ _ _ _ (H.out.drewN _).d))))
    have H1 := hid (H.out.drewN nq)
    have HB1 := hid (HZ.out nq)
    have HDN1 := hid (HDN.out nq)
    have cc0' : (w.drewN nq).cell? ⟨pm, 0, none⟩ = some (.slice as0 D.safe.length cs) := cc0
    clear cc0 cc3 cc4 H HDN HZ
    generalize w.drewN nq = w1 at *
    go_wp2_with (go_at_call 61; refine HDN1.out.mono ?_; rintro e w2 ⟨rfl, rfl⟩)
    clear HDN1 cc0'
    go_loopw [41] (fun i wr => ∃ k : Nat, k ≤ D.safe.length ∧ i = I k ∧ Hid (Below w1.heap.size w1 wr)) (fun i _ => D.safe.length - (intOf i).toNat)
    case atStart => exact ⟨0, by omega, rfl, hid (Below.refl _ _)⟩
    case round =>
      obtain ⟨k, hk, rfl, HB⟩ := hrel
      by_cases hlt : k < D.safe.length
      · have f1 : decide ((k : Int) < (D.safe.length : Int)) = true := decide_eq_true (by omega)
        have hrd := read_any wr p od D (k : Int) (H1.out.on HB.out).d (by omega)
        rw [DS.read_ok HO.out hlt] at hrd
        have hll : (DS.look D.safe D.waits k).length = 256 := DS.look_len H1.out.m.ok.page H1.out.m.ok.wait hlt
        have hlk := fun (w' : World) (hb : Below wr.heap.size wr w') => rlook_any w' pm om D k ((H1.out.on HB.out).on hb).m hlt
        generalize DS.look D.safe D.waits k = q at *
        unfold Fresh2 at hrd
        simp only [hll] at hrd
        have HRD := hid hrd
        have HLK := hid hlk
        have HLL := hid hll
        clear hrd hlk hll
        go_upto_region 9 with (go_at_call 58; refine HRD.out.mono ?_; rintro e w2 ⟨v2, rfl, ho2, hb2⟩; obtain ⟨a2, c2, rfl⟩ := own_form ho2; have HS2 := hid (own_sees' ho2 HLL.out); have HB2 := hid hb2; clear ho2 hb2)
        have k2 : ∀ w', Ext w2.drew w' → (convert 23 9 (.slice a2 256 c2)).run Try.prog w' = .ok (.string (str q)) w' := fun w' hh => run_str Try.underlying23 Try.underlying5 Try.underlying9 (HS2.out.below (Ext.trans _ _ _ (Ext.drew w2) hh))
        have hlk2 := HLK.out w2.drew (HB2.out.trans ((Ext.drew w2).mono HB2.out.size))
        refine wp_region_order Ext [] [(0,0),(1,0),(2,0),(3,0),(4,0),(5,0),(6,0),(7,1),(8,0),(9,0),(10,0)] _ (by kernel_rfl) rfl Ext.refl Ext.trans (by kernel_rfl) (by simp only [pick, List.getElem?_toArray, List.getElem?_cons_zero, List.getElem?_cons_succ]; rfl) (fun c a d v w h => by cases d <;> exact h) ?_
        refine wpK_q (v := ?_) (a' := ?_) (by rfl) (fun w' hR => ?_) ?_ ?_
        rotate_left 2
        · go_simp; with_reducible rfl
        · simp only [Act.put, List.setIfInBounds_toArray, List.set_cons_zero, List.set_cons_succ]; rfl
        refine wpK_q (v := ?_) (a' := ?_) (by rfl) (fun w' hR => ?_) ?_ ?_
        rotate_left 2
        · go_simp; with_reducible rfl
        · simp only [Act.put, List.setIfInBounds_toArray, List.set_cons_zero, List.set_cons_succ]; rfl
        refine wpK_q (v := ?_) (a' := ?_) (by rfl) (fun w' hR => ?_) ?_ ?_
        rotate_left 2
        · go_simp; with_reducible rfl
        · simp only [Act.put, List.setIfInBounds_toArray, List.set_cons_zero, List.set_cons_succ]; rfl
        refine wpK_q (v := ?_) (a' := ?_) (by rfl) (fun w' hR => ?_) ?_ ?_
        rotate_left 2
        · go_simp; with_reducible rfl
        · simp only [Act.put, List.setIfInBounds_toArray, List.set_cons_zero, List.set_cons_succ]; rfl
        refine wpK_q (v := ?_) (a' := ?_) (by rfl) (fun w' hR => ?_) ?_ ?_
        rotate_left 2
        · go_simp; with_reducible rfl
        · simp only [Act.put, List.setIfInBounds_toArray, List.set_cons_zero, List.set_cons_succ]; rfl
        refine wpK_q (v := ?_) (a' := ?_) (by rfl) (fun w' hR => ?_) ?_ ?_
        rotate_left 2
        · go_simp; with_reducible rfl
        · simp only [Act.put, List.setIfInBounds_toArray, List.set_cons_zero, List.set_cons_succ]; rfl
        refine wpK_q (v := ?_) (a' := ?_) (by rfl) (fun w' hR => ?_) ?_ ?_
        rotate_left 2
        · go_simp; with_reducible rfl
        · simp only [Act.put, List.setIfInBounds_toArray, List.set_cons_zero, List.set_cons_succ]; rfl
        refine wpK_call Try.func84 (by kernel_rfl) rfl rfl (by rfl) #[.pointer (some ⟨pm, 0, none⟩), .int .i64 (k : Int)] (by simp only [List.map_toArray, List.map_cons, List.map_nil]; rfl) ?_
        refine hlk2.mono ?_
        rintro e w3 ⟨rfl, v3, rfl, hs3, -⟩
        refine ⟨_, rfl, fun _ => Ext.refl _, ?_⟩
        have k3 : ∀ w', Ext w2.drew w' → (convert 23 9 v3).run Try.prog w' = .ok (.string (str q)) w' := fun w' hh => run_str Try.underlying23 Try.underlying5 Try.underlying9 (hs3.below hh)
        have hse : ((str q).toList == (str q).toList) = true := beq_self_eq_true _
        refine wpK_q (v := ?_) (a' := ?_) (by rfl) (fun w' hR => ?_) ?_ ?_
        rotate_left 2
        · go_simp; with_reducible rfl
        · simp only [Act.put, List.setIfInBounds_toArray, List.set_cons_zero, List.set_cons_succ]; rfl
        refine wpK_q (v := ?_) (a' := ?_) (by rfl) (fun w' hR => ?_) ?_ ?_
        rotate_left 2
        · go_simp; with_reducible rfl
        · simp only [Act.put, List.setIfInBounds_toArray, List.set_cons_zero, List.set_cons_succ]; rfl
        refine wpK_q (v := ?_) (a' := ?_) (by rfl) (fun w' hR => ?_) ?_ ?_
        rotate_left 2
        · go_simp; with_reducible rfl
        · simp only [Act.put, List.setIfInBounds_toArray, List.set_cons_zero, List.set_cons_succ]; rfl
        refine wpK_done ?_
        have HBX := hid (HB.out.trans ((HB2.out.trans ((Ext.drew w2).mono HB2.out.size)).mono HB.out.size))
        clear k2 k3 hlk2 hs3
        go_wp2_with fail
        go_roundw
        case rel => exact ⟨k + 1, by omega, by go_num, HBX⟩
        case measure => simp [intOf]; omega
      · have f1 : decide ((k : Int) < (D.safe.length : Int)) = false := decide_eq_false (by omega)
        go_wp2_with fail
        go_ret
        exact ⟨rfl, HB1.out.trans (HB.out.mono HB1.out.size)⟩
end Go.Proofs.Ytoaeapnkefjpaaa

namespace Go.Proofs.Ytoaeapnkefjpaaa
open Go.RowKit
set_option linter.unusedVariables false
set_option linter.unusedSimpArgs false
namespace TS
/-- The drum's stretch holds these records, and nothing behind. -/
structure On (D : DS) (lo hi : Nat) (recs : List (List UInt8)) : Prop where
  live : Live D
  lt : lo < hi
  le : hi ≤ D.safe.length
  bytes : ∃ rest, stretch D lo (hi - lo) = encs 0 recs ++ rest ∧ Stop rest
  small : ∀ r ∈ recs, r.length ≤ 65536
/-- And the tape knows it. -/
structure Holds (D : DS) (T : TS) (recs : List (List UInt8)) : Prop where
  on : On D T.lo T.hi recs
  ok : T.Ok D.safe.length
  sick : T.sick = 0
  count : T.count = recs.length
  pos : T.pos = (encs 0 recs).length
theorem encs_count : ∀ (recs : List (List UInt8)) (c : Nat), recs.length ≤ (encs c recs).length
  | [], _ => Nat.le_refl _
  | r :: rs, c => by
    have := encs_count rs (c + 1)
    rw [encs, List.length_append, List.length_cons, List.length_cons]
    omega
theorem On.opn {D : DS} {lo hi : Nat} {recs : List (List UInt8)} (h : On D lo hi recs) : opn D lo hi = (0, recs, (encs 0 recs).length, recs.length) := by
  obtain ⟨rest, hb, hs⟩ := h.bytes
  have hl := stretch_len h.live.ok (lo := lo) (n := hi - lo) (by have := h.le; have := h.lt; omega)
  unfold TS.opn
  have h1 : ¬ ((lo : Int) < 0 ∨ (D.safe.length : Int) < (hi : Int) ∨ (hi : Int) ≤ (lo : Int)) := by have := h.le; have := h.lt; omega
  rw [if_neg h1, if_neg (by simp [h.live.on])]
  simp only [Int.toNat_natCast]
  rw [hb]
  have hc := encs_count recs 0
  have := opened_enc recs [] rest 0 ((hi - lo) * 256 + 1) [] hs h.small (by rw [hb, List.length_append] at hl; omega)
  simpa using this
theorem On.holds {D : DS} {lo hi : Nat} {recs : List (List UInt8)} (h : On D lo hi recs) : Holds D ⟨lo, hi, (encs 0 recs).length, recs.length, 0⟩ recs := by
  obtain ⟨rest, hb, hs⟩ := h.bytes
  have hl := stretch_len h.live.ok (lo := lo) (n := hi - lo) (by have := h.le; have := h.lt; omega)
  rw [hb, List.length_append] at hl
  have hc := encs_count recs 0
  exact ⟨h, ⟨h.lt, h.le, by show (encs 0 recs).length ≤ (hi - lo) * 256; omega, hc, by show (-9223372036854775808 : Int) ≤ 0 ∧ (0 : Int) ≤ 9223372036854775807; omega⟩, rfl, rfl, rfl⟩
theorem Holds.append {D : DS} {T : TS} {recs : List (List UInt8)} (h : Holds D T recs) {r : List UInt8} (hr : r.length ≤ 65536) (hs : T.pos + 12 + r.length ≤ T.size) :
    (TS.append D T r).1 = 0 ∧ Holds (TS.append D T r).2.1 (TS.append D T r).2.2 (recs ++ [r]) ∧ (TS.append D T r).2.2.lo = T.lo ∧ (TS.append D T r).2.2.hi = T.hi ∧ (TS.append D T r).2.2.pos = T.pos + 12 + r.length := by
  have e : TS.append D T r = doIt D T r := by
    unfold TS.append
    rw [if_neg (by omega), if_neg (by simp [h.sick]), if_neg (by omega)]
  obtain ⟨h1, h2, h3, h4, rest, h5, h6⟩ := doIt_live h.on.live h.ok hs
  rw [e, h2]
  obtain ⟨rest0, hb, -⟩ := h.on.bytes
  have henc : encs 0 (recs ++ [r]) = encs 0 recs ++ (1 :: (framed recs.length r ++ r)) := by rw [encs_snoc, Nat.zero_add]
  have hp : T.pos + 12 + r.length = (encs 0 (recs ++ [r])).length := by
    rw [henc, List.length_append, ← h.pos, List.length_cons, List.length_append, framed_len]; omega
  refine ⟨h1, ⟨⟨h3, h.on.lt, by rw [h4]; exact h.on.le, ⟨rest, ?_, h6⟩, fun x hx => ?_⟩, ⟨h.ok.lt, by rw [h4]; exact h.ok.le, hs, by have := h.ok.count; show T.count + 1 ≤ T.pos + 12 + r.length; omega, h.ok.sick⟩, h.sick, ?_, hp⟩, rfl, rfl, rfl⟩
  · show stretch (doIt D T r).2.1 T.lo (T.hi - T.lo) = _
    rw [h5, hb, h.pos, List.take_left' rfl, henc, h.count]
  · rcases List.mem_append.1 hx with hx | hx
    · exact h.on.small x hx
    · rw [List.mem_singleton.1 hx]; exact hr
  · show T.count + 1 = _
    rw [List.length_append, h.count]; rfl
theorem Holds.full {D : DS} {T : TS} {recs : List (List UInt8)} (h : Holds D T recs) {r : List UInt8} (hr : r.length ≤ 65536) (hs : T.size < T.pos + 12 + r.length) : TS.append D T r = (22, D, T) := by
  unfold TS.append
  rw [if_neg (by omega), if_neg (by simp [h.sick]), if_pos hs]
/-- A stretch that begins with a nought holds nothing. -/
theorem On.start {D : DS} {lo hi : Nat} (h : Live D) (h1 : lo < hi) (h2 : hi ≤ D.safe.length) (h3 : (DS.look D.safe D.waits lo).head? = some 0) : On D lo hi [] := by
  refine ⟨h, h1, h2, ⟨stretch D lo (hi - lo), rfl, .inr ?_⟩, fun r hr => by simp at hr⟩
  rw [List.head?_eq_getElem?, stretch_get h.ok (by omega) (by omega), Nat.zero_div, Nat.zero_mod, Nat.add_zero, ← List.head?_eq_getElem?]
  exact h3
theorem On.new {n lo hi : Nat} (hn : 1 ≤ n) (hn2 : n ≤ 4096) (h1 : lo < hi) (h2 : hi ≤ n) : On (DS.new n) lo hi [] := by
  have hok : (DS.new n).Ok := by
    have := DS.Ok.new (n : Int)
    have e : DS.clamp (n : Int) = n := by unfold DS.clamp; omega
    rwa [e] at this
  refine On.start ⟨hok, rfl, rfl⟩ h1 (by show hi ≤ (List.replicate n page0).length; rw [List.length_replicate]; exact h2) ?_
  rw [DS.look_new n lo (by omega)]
  rfl
/-- Cleared. -/
theorem On.clear {D : DS} {lo hi : Nat} (h : Live D) (h1 : lo < hi) (h2 : hi ≤ D.safe.length) : (D.write lo page0).1 = 0 ∧ On (D.write lo page0).2 lo hi [] := by
  obtain ⟨a1, a2, a3, a4⟩ := write_live h (a := lo) (by omega) page0_len
  refine ⟨a1, On.start a2 h1 (by rw [a3]; exact h2) ?_⟩
  rw [a4, if_pos rfl]
  rfl
end TS
end Go.Proofs.Ytoaeapnkefjpaaa
