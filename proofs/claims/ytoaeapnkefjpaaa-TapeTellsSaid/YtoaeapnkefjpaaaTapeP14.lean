/-
  THE PROGRAM'S TAPE, fourteenth file: do. Conditions: those that each contract names.
-/
import Derived.Test.YtoaeapnkefjpaaaTapeP13
import Derived.Deep.Cut
namespace Go.Proofs.Ytoaeapnkefjpaaa
open Go.RowKit
set_option linter.unusedVariables false
set_option linter.unusedSimpArgs false

theorem hq99 {ops : Array Oper} {R : Ending → World → Prop} (hck : (ops.all fun o => o.dst.all fun d => ![4].contains d) = true) (i : Nat) (oi : Oper) (hi : ops[i]? = some oi) (c : List PanicEntry) (a : Act) (v : Value) (w : World) (h : bodyPostD Try.prog Try.f99 R (.panic c) (Act.put a oi.dst v) w) : bodyPostD Try.prog Try.f99 R (.panic c) a w :=
  door_ops [4] res99 hck i oi hi c a v w h
/-- What do comes to. -/
def Done (w0 : World) (t p n : Nat) (own0 : Nat → Prop) (X : Int × DS × TS) (e : Ending) (w' : World) : Prop :=
  e = .returned (I X.1) ∧ TapeIn w' t p n X.2.2 ∧ ∃ own', DrumAt w' p own' X.2.1 ∧ (∀ k, own' k → own0 k ∨ w0.heap.size ≤ k) ∧ Mod (fun k => own0 k ∨ k = t) w0 w'
/-- Within do. -/
structure DoAt (w0 : World) (t p n : Nat) (own0 : Nat → Prop) (T : TS) (D : DS) (u : Value) (W : World) : Prop where
  h2 : W.heap[w0.heap.size]? = some (.cells #[.pointer (some ⟨t, 0, none⟩)] 86 (0, 0))
  h4 : W.heap[w0.heap.size + 1]? = some (.cells #[u] 46 (0, 0))
  tape : TapeIn W t p n T
  drum : ∃ own, DrumAt W p own D ∧ ∀ k, own k → own0 k ∨ w0.heap.size + 2 ≤ k
  mod : Mod own0 w0 W
  lt0 : ∀ k, own0 k → k < w0.heap.size
  tl : t < w0.heap.size
  nt : ¬ own0 t
section
variable {w0 : World} {t p n : Nat} {own0 : Nat → Prop} {T : TS} {D D' : DS} {u : Value} {W W' : World}
theorem DoAt.size (h : DoAt w0 t p n own0 T D u W) : w0.heap.size + 2 ≤ W.heap.size := (Array.getElem?_eq_some_iff.1 h.h4).1
theorem DoAt.on (h : DoAt w0 t p n own0 T D u W) (hb : Below W.heap.size W W') : DoAt w0 t p n own0 T D u W' := by
  obtain ⟨own, h1, h2⟩ := h.drum
  have hz := h.size
  exact ⟨(hb.block _ (by omega)).trans h.h2, (hb.block _ (by omega)).trans h.h4, h.tape.below hb, ⟨own, h1.below hb, h2⟩, h.mod.trans (Mod.of_below _ hb), h.lt0, h.tl, h.nt⟩
theorem DoAt.step (h : DoAt w0 t p n own0 T D u W) {own : Nat → Prop} (hs : ∀ k, own k → own0 k ∨ w0.heap.size + 2 ≤ k) (hd : Drummed' own p W D' W') : DoAt w0 t p n own0 T D' u W' := by
  obtain ⟨own', h1, h2, h3⟩ := hd
  have hz := h.size
  have nb : ∀ k, k < w0.heap.size + 2 → ¬ own0 k → ¬ own k := fun k hk h0 ho => (hs k ho).elim h0 (fun h' => by omega)
  have n0 : ∀ k, w0.heap.size ≤ k → ¬ own0 k := fun k hk h' => by have := h.lt0 k h'; omega
  have htl := h.tl
  refine ⟨(h3.block _ (by omega) (nb _ (by omega) (n0 _ (by omega)))).trans h.h2, (h3.block _ (by omega) (nb _ (by omega) (n0 _ (by omega)))).trans h.h4, h.tape.mod h3 (nb _ (by omega) h.nt), ⟨own', h1, fun k hk => ?_⟩, h.mod.then h3 (fun k hk ho => ?_), h.lt0, h.tl, h.nt⟩
  · rcases h2 k hk with h' | h'
    · exact hs k h'
    · exact .inr (by omega)
  · rcases hs k ho with h' | h'
    · exact h'
    · omega
theorem DoAt.put4 (h : DoAt w0 t p n own0 T D u W) (v : Value) : DoAt w0 t p n own0 T D v (W.setCell ⟨w0.heap.size + 1, 0, none⟩ v) := by
  have htl := h.tl
  have e : ∀ k, k ≠ w0.heap.size + 1 → (W.setCell ⟨w0.heap.size + 1, 0, none⟩ v).heap[k]? = W.heap[k]? := fun k hk => heap_setCell_other W ⟨w0.heap.size + 1, 0, none⟩ k v hk
  obtain ⟨own, h1, h2⟩ := h.drum
  refine ⟨(e _ (by omega)).trans h.h2, set_one h.h4 rfl v, h.tape.keep (e _ (by omega)), ⟨own, h1.keep (fun k hk => e k (fun e => ?_)) (by simp), h2⟩, h.mod.then (Mod.set (own := fun k => k = w0.heap.size + 1) rfl) (fun k hk e => by omega), h.lt0, h.tl, h.nt⟩
  rcases h2 k hk with h' | h'
  · have := h.lt0 k h'; omega
  · omega
theorem DoAt.c2 (h : DoAt w0 t p n own0 T D u W) : W.cell? ⟨w0.heap.size, 0, none⟩ = some (.pointer (some ⟨t, 0, none⟩)) := by rw [cell_of_row _ _ _ _ _ _ h.h2]; rfl
theorem DoAt.c4 (h : DoAt w0 t p n own0 T D u W) : W.cell? ⟨w0.heap.size + 1, 0, none⟩ = some u := by rw [cell_of_row _ _ _ _ _ _ h.h4]; rfl
/-- Given up. -/
theorem DoAt.gave (h : DoAt w0 t p n own0 T D u W) {c : Int} (hc : -9223372036854775808 ≤ c ∧ c ≤ 9223372036854775807) {X : Int × DS × TS} (hX : X = (c, D, { T with sick := c })) {tmps : Array Value} (h4 : tmps[4]?.getD undef = .pointer (some ⟨w0.heap.size + 1, 0, none⟩)) :
    bodyPostD Try.prog Try.f99 (Done w0 t p n own0 X) (Exit.panic (gaveUp c)) { tmps := tmps, defers := [{ target := .fn (.func 110) #[.pointer (some ⟨w0.heap.size + 1, 0, none⟩), .pointer (some ⟨w0.heap.size, 0, none⟩)], args := #[] }] } W := by
  have htl := h.tl
  refine door2_gave h4 h.h4 h.h2 h.tape rfl (by omega) (by omega) (by omega) hc (fun w' ht hm => ?_)
  obtain ⟨own, h1, h2⟩ := h.drum
  subst hX
  refine ⟨rfl, ht, own, h1.mod hm (fun k hk e => ?_), fun k hk => (h2 k hk).imp id (fun e => by omega), (h.mod.mono (fun k _ e => .inl e)).then hm (fun k hk e => ?_)⟩
  · rcases h2 k hk with h' | h'
    · rcases e with rfl | rfl
      · have := h.lt0 _ h'; omega
      · exact h.nt h'
    · omega
  · rcases e with e | e
    · omega
    · exact .inr e
/-- Done. -/
theorem DoAt.fin (h : DoAt w0 t p n own0 T D (I 0) W) {X : Int × DS × TS} (T' : TS) (ht : TapeIn W' t p n T') (hm : Mod (fun k => k = t) W W') (hX : X = (0, D, T')) {tmps : Array Value} (h4 : tmps[4]?.getD undef = .pointer (some ⟨w0.heap.size + 1, 0, none⟩)) :
    bodyPostD Try.prog Try.f99 (Done w0 t p n own0 X) Exit.ret { tmps := tmps, defers := [{ target := .fn (.func 110) #[.pointer (some ⟨w0.heap.size + 1, 0, none⟩), .pointer (some ⟨w0.heap.size, 0, none⟩)], args := #[] }] } W' := by
  have htl := h.tl
  refine door2_ret h4 (u1 := I 0) (hm.cell h.c4 (show ¬ (w0.heap.size + 1 = t) by omega)) ?_
  obtain ⟨own, h1, h2⟩ := h.drum
  subst hX
  refine ⟨rfl, ht, own, h1.mod hm (fun k hk e => ?_), fun k hk => (h2 k hk).imp id (fun e => by omega), (h.mod.mono (fun k _ e => .inl e)).then hm (fun k hk e => .inr e)⟩
  rcases h2 k hk with h' | h'
  · exact h.nt (e ▸ h')
  · omega
end
theorem own_born (w : World) (e : TypeId) (x : Value) : (w.alloc (.cells #[x] e)).ownsRow w.heap.size e 1 (.slice (some ⟨w.heap.size, 0, none⟩) 1 1) 1 [x] :=
  ⟨by simp, .inr ⟨w.heap.size, 1, #[x], rfl, Nat.le_refl _, heap_alloc_new _ _, Nat.le_refl _, by decide, rfl, rfl⟩⟩
set_option maxRecDepth 100000 in
set_option maxHeartbeats 1600000 in
theorem tdo_any (w : World) (t p : Nat) (own : Nat → Prop) (T : TS) (D : DS) (v : Value) (r : List UInt8) (h : TapeIn w t p D.safe.length T) (hd : DrumAt w p own D) (ht : ¬ own t) (hv : Sees w v r) (hr : r.length ≤ 65536) (hs : T.pos + 12 + r.length ≤ T.size) (hN : D.waits.length ≤ 800000000) :
    Calls Try.prog 99 #[.pointer (some ⟨t, 0, none⟩), v] w (Done w t p D.safe.length own (TS.doIt D T r)) := by
  obtain ⟨b1, b2, b3, b4, b5, b6, b7⟩ := h.bd
  obtain ⟨av, cv, rfl, hrl⟩ := hv.form0
  obtain ⟨wA, hwA⟩ : ∃ wA, wA = (w.alloc (.cells #[.pointer (some ⟨t, 0, none⟩)] 86)).alloc (.cells #[.int .i64 0] 46) := ⟨_, rfl⟩
  have hBA : Below w.heap.size w wA := by rw [hwA]; exact ((Below.refl _ _).alloc (Nat.le_refl _) _).alloc (by simp) _
  have hA : DoAt w t p D.safe.length own T D (I 0) wA := ⟨by rw [hwA]; exact (Below.heap_alloc _ _ _ (by simp)).trans (heap_alloc_new _ _), by rw [hwA]; exact heap_alloc_at (by simp), h.below hBA, ⟨own, hd.below hBA, fun k hk => .inl hk⟩, Mod.of_below own hBA, hd.lt, h.lt, ht⟩
  have hvA := hv.below hBA
  have HA := hid hA
  have HV := hid hvA
  have HX : Hid (w.heap.size ≤ wA.heap.size ∧ D.Ok) := hid ⟨hBA.size, hd.ok⟩
  have HWA := hid hwA
  have HDA := hid (hd.below hBA)
  have hmf := closes
  obtain ⟨Z, hZ⟩ : ∃ Z, Z = TS.doIt D T r := ⟨_, rfl⟩
  have hbl := TS.body_len T r
  have hX1l := TS.layR_len D T T.pos (TS.body T r)
  have hX1c := TS.layR_code D T T.pos (TS.body T r)
  have hX1w := TS.layR_waits D T T.pos (TS.body T r) (by omega)
  have hZ2 := hZ.trans (TS.doIt_eq D T r)
  simp only at hZ2
  rw [← hZ]
  have HZ := hid hZ2
  have HX1 := hid (And.intro hX1l (And.intro hX1c hX1w))
  have HBL := hid hbl
  clear hZ hZ2 hX1l hX1c hX1w hbl
  clear h hd ht hv hA hvA hBA hwA b7
  go_enter_defers Try.func99, Try.ntmps99
  go_upto_region 2 with (fail)
  rw [← HWA.out]
  clear HWA
  have hbB : Below wA.heap.size wA (wA.alloc (.cells #[.int .u8 0] 5)) := (Below.refl wA.heap.size wA).alloc (Nat.le_refl _) _
  have hB := HA.out.on hbB
  have c2B := hB.c2
  have c4B := hB.tape.c4
  have HVB := hid (HV.out.below hbB)
  have HO0 := hid (own_born wA 5 (.int .u8 0))
  have HBB := hid hbB
  clear hB hbB
  go_wp2_with fail
  generalize wA.alloc (.cells #[.int .u8 0] 5) = wB at *
  refine (framed_of wB T.count (by omega) _ r HVB.out hr).mono ?_
  rintro e w1 ⟨v1, rfl, ho1, hb1⟩
  rw [TS.framed_len] at ho1
  obtain ⟨av1, cv1, rfl⟩ := own_form ho1
  have HS1 := hid (own_sees' ho1 (TS.framed_len T.count r))
  have HV1 := hid (HVB.out.below hb1)
  have HO1 := hid (own_below HO0.out hb1)
  have HB1 := hid (Ext.trans _ _ _ HBB.out hb1)
  clear ho1 hb1 c2B c4B HVB HO0 HBB
  have hs1 : wA.heap.size ≤ w1.heap.size := HB1.out.size
  go_wp2_with (at_builtin; refine wpList_app rfl (.tmp 8) (.tmp 14) 23 rfl wA.heap.size 5 (.int .u8 0) 1 1 Try.underlying23 info5 rfl (by decide) 1 [.int .u8 0] 11 ((TS.framed T.count r).map B) HO1.out ?src ?h63 ?hb hs1 ?_)
  case src => have := HS1.out.src; rw [TS.framed_len] at this; exact this
  case h63 => decide
  case hb => omega
  intro v2 w2 hown hgrow hat
  obtain ⟨av2, cv2, rfl⟩ := own_form hown
  have HO2 := hid hown
  have HB2 := hid (HB1.out.grown hgrow hs1 (fun k hk => by have := (own_lt HO1.out k hk).1; omega))
  have HV2 := hid (HV.out.below HB2.out)
  clear hown hgrow hat HO1 HB1 HV1 HS1
  have hs2 : wA.heap.size ≤ w2.heap.size := HB2.out.size
  go_wp2_with (at_builtin; refine wpList_app rfl (.tmp 15) (.tmp 16) 23 rfl wA.heap.size 5 (.int .u8 0) 1 1 Try.underlying23 info5 rfl (by decide) 12 (.int .u8 0 :: (TS.framed T.count r).map B) r.length (r.map B) HO2.out ?src ?h63 ?hb hs2 ?_)
  case src => exact HV2.out.src
  case h63 => unfold maxLen; omega
  case hb => omega
  intro v3 w3 hown hgrow hat
  obtain ⟨av3, cv3, rfl⟩ := own_form hown
  have HO3 := hid hown
  have HB3 := hid (HB2.out.grown hgrow hs2 (fun k hk => by have := (own_lt HO2.out k hk).1; omega))
  clear hown hgrow hat HO2 HB2 HV2
  have hs3 : wA.heap.size ≤ w3.heap.size := HB3.out.size
  have hA3 := HA.out.on HB3.out
  have HA3 := hid hA3
  have k2 : ∀ w', Ext w3.drew w' → w'.cell? ⟨w.heap.size, 0, none⟩ = some (.pointer (some ⟨t, 0, none⟩)) := fun w' hh => (hA3.on (Ext.trans _ _ _ (Ext.drew w3) hh)).c2
  have k3 : ∀ w', Ext w3.drew w' → w'.cell? ⟨t, 3, none⟩ = some (I T.pos) := fun w' hh => (hA3.on (Ext.trans _ _ _ (Ext.drew w3) hh)).tape.c3
  have hw1 : IntKind.i64.wrap ((T.pos : Int) + (12 + (r.length : Int))) = (T.pos : Int) + (12 + (r.length : Int)) := IntWalk.i64_in _ (by omega)
  clear hA3
  go_upto_region 3 with (fail)
  refine wp_region_order' Ext [] [(0,0),(1,0),(2,0),(3,0),(4,0),(5,0),(6,0),(7,0),(8,1),(9,0)] _ (by kernel_rfl) rfl Ext.refl Ext.trans (by kernel_rfl) (by simp only [pick, List.getElem?_toArray, List.getElem?_cons_zero, List.getElem?_cons_succ]; rfl) (fun i oi hi c a v w h => hq99 (by kernel_rfl) i oi hi c a v w h) ?_
  refine wpK_q (v := ?_) (a' := ?_) (by rfl) (fun w' hR => ?_) ?_ ?_
  rotate_left 2
  · go_simp; with_reducible rfl
  · simp only [Act.put, List.setIfInBounds_toArray, List.set_cons_zero, List.set_cons_succ]; rfl
  refine wpK_q (v := ?_) (a' := ?_) (by rfl) (fun w' hR => ?_) ?_ ?_
  rotate_left 2
  · go_simp; with_reducible rfl
  · simp only [Act.put, List.setIfInBounds_toArray, List.set_cons_zero, List.set_cons_succ]; rfl
  refine wpK_q (v := ?_) (a' := ?_) (by rfl) (fun w' hR => ?_) ?_ ?_
  rotate_left 2
  · go_simp; with_reducible rfl
  · simp only [Act.put, List.setIfInBounds_toArray, List.set_cons_zero, List.set_cons_succ]; rfl
  refine wpK_q (v := ?_) (a' := ?_) (by rfl) (fun w' hR => ?_) ?_ ?_
  rotate_left 2
  · go_simp; with_reducible rfl
  · simp only [Act.put, List.setIfInBounds_toArray, List.set_cons_zero, List.set_cons_succ]; rfl
  refine wpK_q (v := ?_) (a' := ?_) (by rfl) (fun w' hR => ?_) ?_ ?_
  rotate_left 2
  · go_simp; with_reducible rfl
  · simp only [Act.put, List.setIfInBounds_toArray, List.set_cons_zero, List.set_cons_succ]; rfl
  refine wpK_q (v := ?_) (a' := ?_) (by rfl) (fun w' hR => ?_) ?_ ?_
  rotate_left 2
  · go_simp; with_reducible rfl
  · simp only [Act.put, List.setIfInBounds_toArray, List.set_cons_zero, List.set_cons_succ]; rfl
  refine wpK_q (v := ?_) (a' := ?_) (by rfl) (fun w' hR => ?_) ?_ ?_
  rotate_left 2
  · go_simp; with_reducible rfl
  · simp only [Act.put, List.setIfInBounds_toArray, List.set_cons_zero, List.set_cons_succ]; rfl
  refine wpK_q (v := ?_) (a' := ?_) (by rfl) (fun w' hR => ?_) ?_ ?_
  rotate_left 2
  · go_simp; with_reducible rfl
  · simp only [Act.put, List.setIfInBounds_toArray, List.set_cons_zero, List.set_cons_succ]; rfl
  refine wpK_call Try.func98 (by kernel_rfl) rfl rfl (by rfl) #[.pointer (some ⟨t, 0, none⟩)] (by simp only [List.map_toArray, List.map_cons, List.map_nil]; rfl) ?_
  refine (size_any _ t p _ T (HA3.out.tape.below (Ext.drew w3))).mono ?_
  rintro e w4 ⟨rfl, m4, rfl⟩
  refine ⟨_, rfl, fun _ => below_drewN _ m4, ?_⟩
  have HB4 := hid (show Below wA.heap.size wA (w3.drew.drewN m4) from Ext.trans _ _ _ HB3.out (Ext.trans _ _ _ (Ext.drew w3) (below_drewN _ m4)))
  have HO4 := hid (show (w3.drew.drewN m4).ownsRow wA.heap.size 5 1 (.slice av3 (12 + r.length) cv3) (12 + r.length) (.int .u8 0 :: (TS.framed T.count r).map B ++ r.map B) from HO3.out)
  generalize w3.drew.drewN m4 = w4 at *
  clear HO3 HB3 HA3 k2 k3 hs3
  have hs4 : wA.heap.size ≤ w4.heap.size := HB4.out.size
  by_cases hlt : T.pos + (12 + r.length) < T.size
  focus
    have hlt' : decide ((T.pos : Int) + (12 + (r.length : Int)) < (T.size : Int)) = true := decide_eq_true (by omega)
    refine wpK_q (v := ?_) (a' := ?_) (by rfl) (fun w' hR => ?_) ?_ ?_
    rotate_left 2
    · go_simp; with_reducible rfl
    · simp only [Act.put, List.setIfInBounds_toArray, List.set_cons_zero, List.set_cons_succ]; rfl
    refine wpK_done ?_
    go_wp2_with (at_builtin; refine wpList_app rfl (.tmp 28) (.tmp 29) 23 rfl wA.heap.size 5 (.int .u8 0) 1 1 Try.underlying23 info5 rfl (by decide) (12 + r.length) (.int .u8 0 :: (TS.framed T.count r).map B ++ r.map B) 1 [.int .u8 0] (HO4.out.alloc _) (Src.new w4 1 5 [.int .u8 0] rfl (fun u hu => by obtain rfl := List.mem_singleton.1 hu; rfl)) ?h63 ?hb ?hs ?_)
    case h63 => unfold maxLen; omega
    case hb => omega
    case hs => simp; omega
    intro v5 w5 hown hgrow hat
    obtain ⟨av5, cv5, rfl⟩ := own_form hown
    have HS5 : Hid (Sees w5 (.slice av5 (12 + r.length + 1) cv5) (TS.body T r)) := hid (own_sees' (own_len hown rfl (by
      unfold TS.body
      rw [if_pos hlt]
      simp)) (by rw [TS.body_len' T r, if_pos hlt]))
    have HB5 := hid ((HB4.out.trans ((Below.refl wA.heap.size w4).alloc hs4 _)).grown hgrow (by simp; omega) (fun k hk => by have := (own_lt HO4.out k hk).1; omega))
    have HN5 := hid (fun k hk => (own_lt hown k hk).1)
    clear hown hgrow hat HO4 HB4 hlt' hlt
    go_wp2_with fail
    generalize Value.slice av5 (12 + r.length + 1) cv5 = vb at *
  rotate_left
  focus
    have hlt' : decide ((T.pos : Int) + (12 + (r.length : Int)) < (T.size : Int)) = false := decide_eq_false (by omega)
    refine wpK_q (v := ?_) (a' := ?_) (by rfl) (fun w' hR => ?_) ?_ ?_
    rotate_left 2
    · go_simp; with_reducible rfl
    · simp only [Act.put, List.setIfInBounds_toArray, List.set_cons_zero, List.set_cons_succ]; rfl
    refine wpK_done ?_
    have HS5 : Hid (Sees w4 (.slice av3 (12 + r.length) cv3) (TS.body T r)) := hid (own_sees' (own_len HO4.out rfl (by
      unfold TS.body
      rw [if_neg hlt]
      simp)) (by rw [TS.body_len' T r, if_neg hlt]))
    have HN5 := hid (fun k hk => (own_lt HO4.out k hk).1)
    have HB5 := hid HB4.out
    clear HO4 HB4 hlt' hlt
    go_wp2_with fail
    generalize Value.slice av3 (12 + r.length) cv3 = vb at *
    generalize w4 = w5 at *
  rotate_left
  all_goals
    clear hw1
    have hA5 := HA.out.on (Ext.trans _ _ _ HB5.out (Ext.drew w5))
    have hd5 := HDA.out.below (Ext.trans _ _ _ HB5.out (Ext.drew w5))
    have hlay := tlay_all w5.drew t p own T D T.pos vb (TS.body T r) hA5.tape hd5 hA5.nt (by omega) HS5.out.drew (fun k hk ho => by have h1 := HN5.out k hk; have h2 := hA5.lt0 k ho; have h3 := HX.out.1; omega) HBL.out.1 (by have := HBL.out.2; omega) (by omega)
    have HA5 := hid hA5
    have k2 : ∀ w', Ext w5.drew w' → w'.cell? ⟨w.heap.size, 0, none⟩ = some (.pointer (some ⟨t, 0, none⟩)) := fun w' hh => (HA5.out.on hh).c2
    have k3 : ∀ w', Ext w5.drew w' → w'.cell? ⟨t, 3, none⟩ = some (I T.pos) := fun w' hh => (HA5.out.on hh).tape.c3
    generalize TS.layR D T T.pos (TS.body T r) = X1 at *
    obtain ⟨e1, D1⟩ := X1
    have HLAY := hid hlay
    clear hA5 hd5 hlay
    clear HB5 HS5 HN5 hs4 HA HDA HV
    by_cases h1 : e1 = 0
    rotate_left
    · skip
      refine wp_region_order' Ext [6] [(0,0),(1,0),(2,0),(3,0),(4,0),(5,0),(6,2)] _ (by kernel_rfl) rfl Ext.refl Ext.trans (by kernel_rfl) (by simp only [pick, List.getElem?_toArray, List.getElem?_cons_zero, List.getElem?_cons_succ]; rfl) (fun i oi hi c a v w h => hq99 (by kernel_rfl) i oi hi c a v w h) ?_
      refine wpK_q (v := ?_) (a' := ?_) (by rfl) (fun w' hR => ?_) ?_ ?_
      rotate_left 2
      · go_simp; with_reducible rfl
      · simp only [Act.put, List.setIfInBounds_toArray, List.set_cons_zero, List.set_cons_succ]; rfl
      refine wpK_q (v := ?_) (a' := ?_) (by rfl) (fun w' hR => ?_) ?_ ?_
      rotate_left 2
      · go_simp; with_reducible rfl
      · simp only [Act.put, List.setIfInBounds_toArray, List.set_cons_zero, List.set_cons_succ]; rfl
      refine wpK_q (v := ?_) (a' := ?_) (by rfl) (fun w' hR => ?_) ?_ ?_
      rotate_left 2
      · go_simp; with_reducible rfl
      · simp only [Act.put, List.setIfInBounds_toArray, List.set_cons_zero, List.set_cons_succ]; rfl
      refine wpK_q (v := ?_) (a' := ?_) (by rfl) (fun w' hR => ?_) ?_ ?_
      rotate_left 2
      · go_simp; with_reducible rfl
      · simp only [Act.put, List.setIfInBounds_toArray, List.set_cons_zero, List.set_cons_succ]; rfl
      refine wpK_q (v := ?_) (a' := ?_) (by rfl) (fun w' hR => ?_) ?_ ?_
      rotate_left 2
      · go_simp; with_reducible rfl
      · simp only [Act.put, List.setIfInBounds_toArray, List.set_cons_zero, List.set_cons_succ]; rfl
      refine wpK_q (v := ?_) (a' := ?_) (by rfl) (fun w' hR => ?_) ?_ ?_
      rotate_left 2
      · go_simp; with_reducible rfl
      · simp only [Act.put, List.setIfInBounds_toArray, List.set_cons_zero, List.set_cons_succ]; rfl
      refine wpK_callp Try.func111 (by kernel_rfl) rfl rfl (by rfl) #[.pointer (some ⟨t, 0, none⟩), I T.pos, vb] (by simp only [List.map_toArray, List.map_cons, List.map_nil]; rfl) ?_
      refine HLAY.out.mono ?_
      rintro e w6 ⟨rfl, hd6⟩
      refine ⟨gaveUp e1, (endOr_no (by simpa using h1) _).symm, ?_⟩
      refine (HA5.out.step (fun k hk => .inl hk) hd6).gave HX1.out.2.1.bd ?_ rfl
      rw [HZ.out, if_pos h1]
    subst h1
    refine wp_region_order' Ext [6] [(0,0),(1,0),(2,0),(3,0),(4,0),(5,0),(6,2)] _ (by kernel_rfl) rfl Ext.refl Ext.trans (by kernel_rfl) (by simp only [pick, List.getElem?_toArray, List.getElem?_cons_zero, List.getElem?_cons_succ]; rfl) (fun i oi hi c a v w h => hq99 (by kernel_rfl) i oi hi c a v w h) ?_
    refine wpK_q (v := ?_) (a' := ?_) (by rfl) (fun w' hR => ?_) ?_ ?_
    rotate_left 2
    · go_simp; with_reducible rfl
    · simp only [Act.put, List.setIfInBounds_toArray, List.set_cons_zero, List.set_cons_succ]; rfl
    refine wpK_q (v := ?_) (a' := ?_) (by rfl) (fun w' hR => ?_) ?_ ?_
    rotate_left 2
    · go_simp; with_reducible rfl
    · simp only [Act.put, List.setIfInBounds_toArray, List.set_cons_zero, List.set_cons_succ]; rfl
    refine wpK_q (v := ?_) (a' := ?_) (by rfl) (fun w' hR => ?_) ?_ ?_
    rotate_left 2
    · go_simp; with_reducible rfl
    · simp only [Act.put, List.setIfInBounds_toArray, List.set_cons_zero, List.set_cons_succ]; rfl
    refine wpK_q (v := ?_) (a' := ?_) (by rfl) (fun w' hR => ?_) ?_ ?_
    rotate_left 2
    · go_simp; with_reducible rfl
    · simp only [Act.put, List.setIfInBounds_toArray, List.set_cons_zero, List.set_cons_succ]; rfl
    refine wpK_q (v := ?_) (a' := ?_) (by rfl) (fun w' hR => ?_) ?_ ?_
    rotate_left 2
    · go_simp; with_reducible rfl
    · simp only [Act.put, List.setIfInBounds_toArray, List.set_cons_zero, List.set_cons_succ]; rfl
    refine wpK_q (v := ?_) (a' := ?_) (by rfl) (fun w' hR => ?_) ?_ ?_
    rotate_left 2
    · go_simp; with_reducible rfl
    · simp only [Act.put, List.setIfInBounds_toArray, List.set_cons_zero, List.set_cons_succ]; rfl
    refine wpK_call Try.func111 (by kernel_rfl) rfl rfl (by rfl) #[.pointer (some ⟨t, 0, none⟩), I T.pos, vb] (by simp only [List.map_toArray, List.map_cons, List.map_nil]; rfl) ?_
    refine HLAY.out.mono ?_
    rintro e w6 ⟨rfl, hd6⟩
    refine ⟨_, (endOr_ok _).symm, fun h => (by cases h), ?_⟩
    refine wpK_done ?_
    have hA6 := HA5.out.step (fun k hk => .inl hk) hd6
    have hz := HZ.out
    simp only [ne_eq, not_true_eq_false, if_false] at hz
    obtain ⟨x1, -, x2⟩ := HX1.out
    simp only at x1 x2
    have y1 := DS.Flush_len D1
    have y2 := DS.Flush_waits D1
    have y3 := DS.Flush_code D1
    have y4 := DS.Flush_on (D := D1)
    have c2A := hA6.c2
    obtain ⟨own6, hd6', hs6⟩ := hA6.drum
    have hfl := tflush_any w6 t p D.safe.length own6 T D1 hA6.tape hd6'
    have HA6 := hid hA6
    have HS6 := hid hs6
    generalize D1.Flush = X2 at *
    obtain ⟨e2, D2⟩ := X2
    simp only at hz y1 y2 y3 y4 hfl
    have HZ2 := hid hz
    have Y1 := hid (y1.trans x1)
    have Y2 := hid (Nat.le_trans y2 x2)
    have Y3 := hid y3
    have Y4 := hid y4
    clear hd6 hA6 hz hs6 hd6' x1 x2 y1 y2 y3 y4 HLAY HZ HX1 HA5 k2 k3
    by_cases h2 : e2 = 0
    rotate_left
    · unfold endOr at hfl
      rw [if_neg h2] at hfl
      have HFL := hid hfl
      have H2 := hid h2
      clear hfl h2
      go_wp2_with (go_at_call 112; refine HFL.out.mono ?_; rintro e w7 ⟨rfl, hd7⟩)
      refine (HA6.out.step HS6.out hd7.more).gave Y3.out.bd ?_ rfl
      rw [HZ2.out, if_pos H2.out]
    subst h2
    unfold endOr at hfl
    rw [if_pos rfl] at hfl
    have HFL := hid hfl
    clear hfl
    go_wp2_with (go_at_call 112; refine HFL.out.mono ?_; rintro e w7 ⟨rfl, hd7⟩)
    have hA7 := HA6.out.step HS6.out hd7.more
    obtain ⟨own7, hd7', hs7⟩ := hA7.drum
    have k2 : ∀ w', Ext w7.drew w' → w'.cell? ⟨w.heap.size, 0, none⟩ = some (.pointer (some ⟨t, 0, none⟩)) := fun w' hh => (hA7.on (Ext.trans _ _ _ (Ext.drew w7) hh)).c2
    have k3 : ∀ w', Ext w7.drew w' → w'.cell? ⟨t, 3, none⟩ = some (I T.pos) := fun w' hh => (hA7.on (Ext.trans _ _ _ (Ext.drew w7) hh)).tape.c3
    have hby := bytes_on w7.drew t p own7 T D2 (by rw [Y1.out]; exact (hA7.on (Ext.drew w7)).tape) (hd7'.below (Ext.drew w7)) (Y4.out trivial) (T.pos / 256 * 256) 256 (by have : T.size = (T.hi - T.lo) * 256 := rfl; omega)
    have q1 : ((T.pos / 256 * 256 : Nat) : Int) = (T.pos : Int) / 256 * 256 := by omega
    rw [q1] at hby
    have HBY := hid hby
    have HA7 := hid hA7
    have HS7 := hid hs7
    have HD7 := hid hd7'
    have q2 : IntKind.i64.wrap ((T.pos : Int) / 256) = (T.pos : Int) / 256 := IntWalk.i64_in _ (by omega)
    have q3 : IntKind.i64.wrap ((T.pos : Int) / 256 * 256) = (T.pos : Int) / 256 * 256 := IntWalk.i64_in _ (by omega)
    clear hd7 hd7' hA7 hs7 hby HFL HA6 HS6 q1
    refine wp_region_order' Ext [] [(0,0),(1,0),(2,0),(3,0),(4,0),(5,0),(6,0),(7,1),(8,0)] _ (by kernel_rfl) rfl Ext.refl Ext.trans (by kernel_rfl) (by simp only [pick, List.getElem?_toArray, List.getElem?_cons_zero, List.getElem?_cons_succ]; rfl) (fun i oi hi c a v w h => hq99 (by kernel_rfl) i oi hi c a v w h) ?_
    refine wpK_q (v := ?_) (a' := ?_) (by rfl) (fun w' hR => ?_) ?_ ?_
    rotate_left 2
    · go_simp; with_reducible rfl
    · simp only [Act.put, List.setIfInBounds_toArray, List.set_cons_zero, List.set_cons_succ]; rfl
    refine wpK_q (v := ?_) (a' := ?_) (by rfl) (fun w' hR => ?_) ?_ ?_
    rotate_left 2
    · go_simp; with_reducible rfl
    · simp only [Act.put, List.setIfInBounds_toArray, List.set_cons_zero, List.set_cons_succ]; rfl
    refine wpK_q (v := ?_) (a' := ?_) (by rfl) (fun w' hR => ?_) ?_ ?_
    rotate_left 2
    · go_simp; with_reducible rfl
    · simp only [Act.put, List.setIfInBounds_toArray, List.set_cons_zero, List.set_cons_succ]; rfl
    refine wpK_q (v := ?_) (a' := ?_) (by rfl) (fun w' hR => ?_) ?_ ?_
    rotate_left 2
    · go_simp; with_reducible rfl
    · simp only [Act.put, List.setIfInBounds_toArray, List.set_cons_zero, List.set_cons_succ]; rfl
    refine wpK_q (v := ?_) (a' := ?_) (by rfl) (fun w' hR => ?_) ?_ ?_
    rotate_left 2
    · go_simp; with_reducible rfl
    · simp only [Act.put, List.setIfInBounds_toArray, List.set_cons_zero, List.set_cons_succ]; rfl
    refine wpK_q (v := ?_) (a' := ?_) (by rfl) (fun w' hR => ?_) ?_ ?_
    rotate_left 2
    · go_simp; with_reducible rfl
    · simp only [Act.put, List.setIfInBounds_toArray, List.set_cons_zero, List.set_cons_succ]; rfl
    refine wpK_q (v := ?_) (a' := ?_) (by rfl) (fun w' hR => ?_) ?_ ?_
    rotate_left 2
    · go_simp; with_reducible rfl
    · simp only [Act.put, List.setIfInBounds_toArray, List.set_cons_zero, List.set_cons_succ]; rfl
    refine wpK_call Try.func106 (by kernel_rfl) rfl rfl (by rfl) #[.pointer (some ⟨t, 0, none⟩), .int .i64 ((T.pos : Int) / 256 * 256), I 256] (by simp only [List.map_toArray, List.map_cons, List.map_nil]; rfl) ?_
    refine HBY.out.mono ?_
    rintro e w8 ⟨v8, rfl, ho8, hb8⟩
    refine ⟨_, rfl, fun _ => hb8, ?_⟩
    refine wpK_q (v := ?_) (a' := ?_) (by rfl) (fun w' hR => ?_) ?_ ?_
    rotate_left 2
    · go_simp; with_reducible rfl
    · simp only [Act.put, List.setIfInBounds_toArray, List.set_cons_zero, List.set_cons_succ]; rfl
    refine wpK_done ?_
    have hsz : T.size = (T.hi - T.lo) * 256 := rfl
    have hlen : (((TS.bytes D2 T).drop (T.pos / 256 * 256)).take 256) = DS.look D2.safe D2.waits (T.lo + T.pos / 256) := by
      have hok : D2.Ok := (HA7.out.drum.choose_spec).1.ok
      have := TS.stretch_piece hok (lo := T.lo) (n := T.hi - T.lo) (by rw [Y1.out]; omega) (a := T.pos / 256 * 256) (m := 256) (by have : T.size = (T.hi - T.lo) * 256 := rfl; omega) (by omega)
      unfold TS.bytes
      rw [this, Nat.mul_mod_left, List.drop_zero, Nat.mul_div_cancel _ (by decide)]
      exact List.take_of_length_le (Nat.le_of_eq (DS.look_len hok.page hok.wait (by rw [Y1.out]; omega)))
    have hll : (DS.look D2.safe D2.waits (T.lo + T.pos / 256)).length = 256 := by
      have hok : D2.Ok := (HA7.out.drum.choose_spec).1.ok
      exact DS.look_len hok.page hok.wait (by rw [Y1.out]; omega)
    rw [hlen, hll] at ho8
    obtain ⟨g8, cap8, rfl, g1, g2, g3, g4⟩ := own_slice ho8 (by decide)
    have hj : T.pos % 256 < 256 := Nat.mod_lt _ (by decide)
    have hju : ((T.pos : Int) % 256).toNat = T.pos % 256 := by omega
    have hj2 : (T.pos : Int) % 256 < 256 := by omega
    have hc8 : ∃ u, w8.cell? ⟨g8, T.pos % 256, none⟩ = some u := ⟨_, own_cell ho8 (i := T.pos % 256) (u := _) (List.getElem?_eq_getElem (by rw [List.length_map, hll]; exact hj))⟩
    obtain ⟨u8, hc8⟩ := hc8
    have hf8 := own_frozen ho8 (T.pos % 256)
    have hA8 := HA7.out.on (Ext.trans _ _ _ (Ext.drew w7) hb8)
    have k2 := hA8.c2
    have k3 := hA8.tape.c3
    clear hsz
    go_wp2
    have ho9 := own_set ho8 hj (.int .u8 1)
    have hs9 : Sees (w8.setCell ⟨g8, T.pos % 256, none⟩ (.int .u8 1)) (.slice (some ⟨g8, 0, none⟩) 256 cap8) (TS.marked D2 T) := own_sees' (own_len ho9 rfl (by unfold TS.marked; rw [List.map_set]; rfl)) (by unfold TS.marked; rw [List.length_set]; exact hll)
    have hb9 : Below w7.drew.heap.size w7.drew (w8.setCell ⟨g8, T.pos % 256, none⟩ (.int .u8 1)) := ⟨hb8.os, hb8.tape, hb8.output, by simpa using hb8.size, fun k hk => (heap_setCell_other w8 ⟨g8, T.pos % 256, none⟩ k _ (by simp only; omega)).trans (hb8.block k hk)⟩
    have HS9 := hid hs9
    have HB9 := hid hb9
    have HG8 := hid g3
    clear hb8 hb9 hs9 ho9 ho8 hlen hll hj hju hj2 hc8 hf8 hA8 k2 k3 g1 g2 g3 g4 HBY q2 q3
    generalize w8.setCell ⟨g8, T.pos % 256, none⟩ (.int .u8 1) = w9 at *
    have hA9 := HA7.out.on (Ext.trans _ _ _ (Ext.drew w7) (Ext.trans _ _ _ HB9.out (Ext.drew w9)))
    have hz7 : w7.drew.heap.size = w7.heap.size := rfl
    have hwr := write_any w9.drew p own7 D2 ((T.lo : Int) + (T.pos : Int) / 256) (.slice (some ⟨g8, 0, none⟩) 256 cap8) (TS.marked D2 T) (HD7.out.below (Ext.trans _ _ _ (Ext.drew w7) (Ext.trans _ _ _ HB9.out (Ext.drew w9)))) HS9.out.drew (by omega) (fun k hk ho => by have h1 := HD7.out.lt k ho; have h2 := HG8.out; have h3 : g8 = k := Option.some.inj hk; omega) (by have := Y2.out; omega)
    have hz := HZ2.out
    have qc : ((T.lo + T.pos / 256 : Nat) : Int) = (T.lo : Int) + (T.pos : Int) / 256 := by omega
    simp only [not_true_eq_false, if_false] at hz
    rw [qc] at hz
    have y1 := DS.write_len D2 ((T.lo : Int) + (T.pos : Int) / 256) (TS.marked D2 T)
    have y3 := DS.write_code D2 ((T.lo : Int) + (T.pos : Int) / 256) (TS.marked D2 T)
    generalize D2.write ((T.lo : Int) + (T.pos : Int) / 256) (TS.marked D2 T) = X3 at *
    obtain ⟨e3, D3⟩ := X3
    simp only at hz y1 y3 hwr
    have HZ3 := hid hz
    have HWR := hid hwr
    have Y5 := hid (y1.trans Y1.out)
    have Y6 := hid y3
    have HA9 := hid hA9
    have k2 : ∀ w', Ext w9.drew w' → w'.cell? ⟨w.heap.size, 0, none⟩ = some (.pointer (some ⟨t, 0, none⟩)) := fun w' hh => (HA9.out.on hh).c2
    have k0 : ∀ w', Ext w9.drew w' → w'.cell? ⟨t, 0, none⟩ = some (.pointer (some ⟨p, 0, none⟩)) := fun w' hh => (HA9.out.on hh).tape.c0
    have k1 : ∀ w', Ext w9.drew w' → w'.cell? ⟨t, 1, none⟩ = some (I T.lo) := fun w' hh => (HA9.out.on hh).tape.c1
    have k3 : ∀ w', Ext w9.drew w' → w'.cell? ⟨t, 3, none⟩ = some (I T.pos) := fun w' hh => (HA9.out.on hh).tape.c3
    have q2 : IntKind.i64.wrap ((T.pos : Int) / 256) = (T.pos : Int) / 256 := IntWalk.i64_in _ (by omega)
    have q3 : IntKind.i64.wrap ((T.lo : Int) + (T.pos : Int) / 256) = (T.lo : Int) + (T.pos : Int) / 256 := IntWalk.i64_in _ (by omega)
    clear hA9 hz7 hwr hz qc y1 y3 HZ2 HB9 HS9 HD7 HA7 Y3
    refine wp_region_order' Ext [15,16] [(0,0),(1,0),(2,0),(3,0),(4,0),(5,0),(6,0),(7,0),(8,0),(9,0),(10,0),(11,0),(12,0),(13,0),(14,0),(15,2),(16,2)] _ (by kernel_rfl) rfl Ext.refl Ext.trans (by kernel_rfl) (by simp only [pick, List.getElem?_toArray, List.getElem?_cons_zero, List.getElem?_cons_succ]; rfl) (fun i oi hi c a v w h => hq99 (by kernel_rfl) i oi hi c a v w h) ?_
    refine wpK_q (v := ?_) (a' := ?_) (by rfl) (fun w' hR => ?_) ?_ ?_
    rotate_left 2
    · go_simp; with_reducible rfl
    · simp only [Act.put, List.setIfInBounds_toArray, List.set_cons_zero, List.set_cons_succ]; rfl
    refine wpK_q (v := ?_) (a' := ?_) (by rfl) (fun w' hR => ?_) ?_ ?_
    rotate_left 2
    · go_simp; with_reducible rfl
    · simp only [Act.put, List.setIfInBounds_toArray, List.set_cons_zero, List.set_cons_succ]; rfl
    refine wpK_q (v := ?_) (a' := ?_) (by rfl) (fun w' hR => ?_) ?_ ?_
    rotate_left 2
    · go_simp; with_reducible rfl
    · simp only [Act.put, List.setIfInBounds_toArray, List.set_cons_zero, List.set_cons_succ]; rfl
    refine wpK_q (v := ?_) (a' := ?_) (by rfl) (fun w' hR => ?_) ?_ ?_
    rotate_left 2
    · go_simp; with_reducible rfl
    · simp only [Act.put, List.setIfInBounds_toArray, List.set_cons_zero, List.set_cons_succ]; rfl
    refine wpK_q (v := ?_) (a' := ?_) (by rfl) (fun w' hR => ?_) ?_ ?_
    rotate_left 2
    · go_simp; with_reducible rfl
    · simp only [Act.put, List.setIfInBounds_toArray, List.set_cons_zero, List.set_cons_succ]; rfl
    refine wpK_q (v := ?_) (a' := ?_) (by rfl) (fun w' hR => ?_) ?_ ?_
    rotate_left 2
    · go_simp; with_reducible rfl
    · simp only [Act.put, List.setIfInBounds_toArray, List.set_cons_zero, List.set_cons_succ]; rfl
    refine wpK_q (v := ?_) (a' := ?_) (by rfl) (fun w' hR => ?_) ?_ ?_
    rotate_left 2
    · go_simp; with_reducible rfl
    · simp only [Act.put, List.setIfInBounds_toArray, List.set_cons_zero, List.set_cons_succ]; rfl
    refine wpK_q (v := ?_) (a' := ?_) (by rfl) (fun w' hR => ?_) ?_ ?_
    rotate_left 2
    · go_simp; with_reducible rfl
    · simp only [Act.put, List.setIfInBounds_toArray, List.set_cons_zero, List.set_cons_succ]; rfl
    refine wpK_q (v := ?_) (a' := ?_) (by rfl) (fun w' hR => ?_) ?_ ?_
    rotate_left 2
    · go_simp; with_reducible rfl
    · simp only [Act.put, List.setIfInBounds_toArray, List.set_cons_zero, List.set_cons_succ]; rfl
    refine wpK_q (v := ?_) (a' := ?_) (by rfl) (fun w' hR => ?_) ?_ ?_
    rotate_left 2
    · go_simp; with_reducible rfl
    · simp only [Act.put, List.setIfInBounds_toArray, List.set_cons_zero, List.set_cons_succ]; rfl
    refine wpK_q (v := ?_) (a' := ?_) (by rfl) (fun w' hR => ?_) ?_ ?_
    rotate_left 2
    · go_simp; with_reducible rfl
    · simp only [Act.put, List.setIfInBounds_toArray, List.set_cons_zero, List.set_cons_succ]; rfl
    refine wpK_q (v := ?_) (a' := ?_) (by rfl) (fun w' hR => ?_) ?_ ?_
    rotate_left 2
    · go_simp; with_reducible rfl
    · simp only [Act.put, List.setIfInBounds_toArray, List.set_cons_zero, List.set_cons_succ]; rfl
    refine wpK_q (v := ?_) (a' := ?_) (by rfl) (fun w' hR => ?_) ?_ ?_
    rotate_left 2
    · go_simp; with_reducible rfl
    · simp only [Act.put, List.setIfInBounds_toArray, List.set_cons_zero, List.set_cons_succ]; rfl
    refine wpK_q (v := ?_) (a' := ?_) (by rfl) (fun w' hR => ?_) ?_ ?_
    rotate_left 2
    · go_simp; with_reducible rfl
    · simp only [Act.put, List.setIfInBounds_toArray, List.set_cons_zero, List.set_cons_succ]; rfl
    refine wpK_q (v := ?_) (a' := ?_) (by rfl) (fun w' hR => ?_) ?_ ?_
    rotate_left 2
    · go_simp; with_reducible rfl
    · simp only [Act.put, List.setIfInBounds_toArray, List.set_cons_zero, List.set_cons_succ]; rfl
    refine wpK_call Try.func50 (by kernel_rfl) rfl rfl (by rfl) #[.pointer (some ⟨p, 0, none⟩), .int .i64 ((T.lo : Int) + (T.pos : Int) / 256), .slice (some ⟨g8, 0, none⟩) 256 cap8] (by simp only [List.map_toArray, List.map_cons, List.map_nil]; rfl) ?_
    refine HWR.out.mono ?_
    rintro e w10 ⟨rfl, hd10⟩
    refine ⟨_, rfl, fun h => (by cases h), ?_⟩
    have hA10 := HA9.out.step HS7.out hd10
    refine wpK_s (by rfl) rfl (exec_store rfl (vx := .pointer (some ⟨w.heap.size + 1, 0, none⟩)) (vy := I e3) rfl rfl (run_store1 (u := I 0) (by kernel_rfl) rfl rfl hA10.c4 (frozen_row hA10.h4 0))) (fun h => by cases h) ?_
    refine wpK_done ?_
    have hA11 := hA10.put4 (I e3)
    generalize w10.setCell ⟨w.heap.size + 1, 0, none⟩ (I e3) = w11 at *
    have HA11 := hid hA11
    have k4 := hA11.c4
    have k5 := hA11.c2
    clear hA10 hA11 hd10 HWR HA9 HS7 k0 k1 k2 k3 q2 q3
    by_cases h3 : e3 = 0
    rotate_left
    · have H3 := hid h3
      have h3b : (e3 == 0) = false := by simpa using h3
      clear h3
      go_wp2_with (go_at_call 108; refine (unless_no _ _).mono ?_; rintro e w12 ⟨rfl, rfl⟩)
      refine HA11.out.gave Y6.out.bd ?_ rfl
      rw [HZ3.out, if_pos H3.out]
    subst h3
    have hz := HZ3.out
    simp only [not_true_eq_false, if_false] at hz
    have y2 := DS.Flush_code D3
    obtain ⟨own11, hd11, hs11⟩ := HA11.out.drum
    have hfl := tflush_any w11 t p D.safe.length own11 T D3 HA11.out.tape hd11
    have HS11 := hid hs11
    generalize D3.Flush = X4 at *
    obtain ⟨e4, D4⟩ := X4
    simp only at hz y2 hfl
    have HZ4 := hid hz
    have Y7 := hid y2
    clear hz y2 hd11 hs11 HZ3
    by_cases h4 : e4 = 0
    rotate_left
    · unfold endOr at hfl
      rw [if_neg h4] at hfl
      have HFL := hid hfl
      have H4 := hid h4
      clear hfl h4
      go_wp2_with (first | (go_at_call 108; refine (unless_ok _ _).mono ?_; rintro e w12 ⟨rfl, rfl⟩) | (go_at_call 112; refine HFL.out.mono ?_; rintro e w13 ⟨rfl, hd13⟩))
      refine (HA11.out.step HS11.out hd13.more).gave Y7.out.bd ?_ rfl
      rw [HZ4.out, if_pos H4.out]
    subst h4
    unfold endOr at hfl
    rw [if_pos rfl] at hfl
    have HFL := hid hfl
    clear hfl
    go_upto_region 12 with (first | (go_at_call 108; refine (unless_ok _ _).mono ?_; rintro e w12 ⟨rfl, rfl⟩) | (go_at_call 112; refine HFL.out.mono ?_; rintro e w13 ⟨rfl, hd13⟩))
    have hA13 := HA11.out.step HS11.out hd13.more
    have HA13 := hid hA13
    have c2 := hA13.c2
    have c4' := hA13.c4
    have ct3 := hA13.tape.c3
    have ct4 := hA13.tape.c4
    have ctf := hA13.tape.fr
    have cf4 := frozen_row hA13.h4 0
    have htl := hA13.tl
    have n1 : ¬ w.heap.size = t := by omega
    have n2 : ¬ w.heap.size + 1 = t := by omega
    have n3 : ¬ t = w.heap.size := by omega
    have n4 : ¬ t = w.heap.size + 1 := by omega
    have hw3 : IntKind.i64.wrap ((T.pos : Int) + (12 + (r.length : Int))) = (T.pos : Int) + (12 + (r.length : Int)) := IntWalk.i64_in _ (by omega)
    have hw4 : IntKind.i64.wrap ((T.count : Int) + 1) = (T.count : Int) + 1 := IntWalk.i64_in _ (by omega)
    have hcnt : T.count ≤ 1048576 := by omega
    clear hA13 hd13 k4 k5 HA11 HFL
    go_wp2
    have hA13 := HA13.out
    clear c2 c4' ct3 ct4 ctf cf4 hw3 hw4
    refine hA13.fin { T with pos := T.pos + 12 + r.length, count := T.count + 1 } ?_ ?_ ?_ rfl
    · have ht := hA13.tape
      have h1 := ht.ok
      refine ⟨⟨h1.lt, h1.le, by show T.pos + 12 + r.length ≤ T.size; omega, by show T.count + 1 ≤ T.pos + 12 + r.length; omega, h1.sick⟩, ht.n2, ?_⟩
      rw [heap_setCell_other _ ⟨w.heap.size + 1, 0, none⟩ t _ n4, heap_setCell_same _ t 4 _ _ _ (heap_setCell_same w13 t 3 _ _ _ ht.ht)]
      have e1 : (T.pos : Int) + (12 + (r.length : Int)) = ((T.pos + 12 + r.length : Nat) : Int) := by omega
      have e2 : (T.count : Int) + 1 = ((T.count + 1 : Nat) : Int) := by omega
      rw [e1, e2]
      rfl
    · have hm2 : Mod (fun k => k = t) w13 ((w13.setCell ⟨t, 3, none⟩ (.int .i64 ((T.pos : Int) + (12 + (r.length : Int))))).setCell ⟨t, 4, none⟩ (.int .i64 ((T.count : Int) + 1))) := (Mod.set (own := fun k => k = t) rfl).trans (Mod.set rfl)
      refine hm2.trans ⟨rfl, rfl, rfl, by simp, fun k hk ho => ?_⟩
      by_cases e : k = w.heap.size + 1
      · subst e
        have h4' := (hm2.block _ (Array.getElem?_eq_some_iff.1 hA13.h4).1 n2).trans hA13.h4
        exact (set_one h4' rfl _).trans h4'.symm
      · exact heap_setCell_other _ ⟨w.heap.size + 1, 0, none⟩ k _ e
    · rw [HZ4.out]
      rfl
end Go.Proofs.Ytoaeapnkefjpaaa
