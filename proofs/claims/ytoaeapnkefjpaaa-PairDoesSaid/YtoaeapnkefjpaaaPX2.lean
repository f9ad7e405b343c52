/-
  Part 2 of what PairDoes lean on: contracts of the functions that they reach, and plain lemmas. Conditions: those that each lemma names.
-/
import Derived.Great.FillDense
import Derived.Great.BuildSlice
import Derived.WalkLawsBesides
import Derived.Laws.BitsAllLaws
import Derived.Defers
import Derived.Recover
import Derived.Laws.Pointers
import Derived.RangeFuncRecord
import Derived.OrdersIn
import Derived.OwnWalkIn
import Derived.TacticsInMore
import Derived.LoopNIn
import Derived.LoopIn
import Derived.Deep.Cut
import Derived.Lib.AppendZerosOnto
import Derived.RangeFuncLeaves
import Derived.Test.YtoaeapnkefjpaaaPX1
namespace Go.Proofs.Ytoaeapnkefjpaaa
open Go.RowKit
set_option linter.unusedVariables false
set_option linter.unusedSimpArgs false

/-- Of the blocks below N at most this one has changed. -/
def KeepB (o : Option Nat) (N : Nat) (w w' : World) : Prop := Mod (fun b => o = some b ∨ N ≤ b) w w'
theorem KeepB.refl {o : Option Nat} {N : Nat} (w : World) : KeepB o N w w := Mod.refl _ _
theorem KeepB.trans {o : Option Nat} {N : Nat} (w w' w'' : World) (h : KeepB o N w w') (k : KeepB o N w' w'') : KeepB o N w w'' := Mod.trans h k
theorem KeepB.cell {o : Option Nat} {N : Nat} {w w' : World} (h : KeepB o N w w') {p : Addr} {v : Value} (hv : w.cell? p = some v) (hp : o ≠ some p.block) (hn : p.block < N) : w'.cell? p = some v := Mod.cell h hv (fun e => by rcases e with e | e; exact hp e; omega)
theorem KeepB.grown {o r : Option Nat} {N : Nat} {w w' : World} (h : w.grownBy w' r) (hr : ∀ k, r = some k → o = some k ∨ N ≤ k) : KeepB o N w w' := ⟨h.os, h.tape, h.output, h.size, fun k hk hn => h.block k hk (fun e => hn (hr k e.symm))⟩
theorem KeepB.alloc {o : Option Nat} {N : Nat} {w : World} (ob : Obj) : KeepB o N w (w.alloc ob) := Mod.alloc ob
theorem info3 : (Try.prog.info? 3).map (fun i => (i.zero, i.size, i.bytes)) = some (some (.int .i64 0), 1, 8) := by kernel_rfl
theorem info23 : (Try.prog.info? 23).map (fun i => (i.zero, i.size, i.bytes)) = some (some (.slice none 0 0), 1, 24) := by kernel_rfl
set_option maxRecDepth 100000 in
set_option maxHeartbeats 3200000 in
theorem rwrite_on (w : World) (p : Nat) (own : Nat → Prop) (D : DS) (a : Nat) (v : Value) (l : List UInt8) (h : RefAt w p own D) (hv : Sees w v l) (ha : a < D.safe.length) (hl : l.length = 256) (ho : D.off = false) (hd : ∀ k, v.ownBlock = some k → ¬ own k) (hN : D.waits.length ≤ 1000000000) :
    Calls Try.prog 51 #[.pointer (some ⟨p, 0, none⟩), I a, v] w fun e w' => e = .returned (I (if (DS.op { D with waits := D.waits ++ [(a, l)] }).off then 20 else 0)) ∧ Reffed' own p w (DS.op { D with waits := D.waits ++ [(a, l)] }) w' := by
  obtain ⟨sv, wv, xv, ss, xs, pb, h⟩ := h
  have c0 := h.c0
  have c1 := h.c1
  have c2 := h.c2
  have c3 : w.cell? ⟨p, 3, none⟩ = some (.bool true) := by have := h.c3; rw [ho] at this; exact this
  have frp := h.fr
  obtain ⟨g, off, cap, rfl⟩ := hv.form (by omega)
  obtain ⟨as0, cs, rfl⟩ := own_form h.hs
  have HV := hid hv
  have HH := hid h
  have Hl := hid hl
  have HD := hid hd
  have HO := hid ho
  have hn := h.ok.n2
  rw [hl]
  clear h hv hl hd ho
  go_enter Try.func51, Try.ntmps51
  go_wp2_with (at_builtin; refine wpList_app rfl (.tmp 32) (.tmp 34) 57 rfl 0 3 (.int .i64 0) 1 8 Try.underlying57 info3 rfl (by decide) D.waits.length (D.waits.map fun x => I x.1) 1 [I a] ?own ?src ?h63 ?hb (by simp) ?_)
  case own => exact HH.out.hw.alloc _
  case src => exact Src.new w 1 3 [I a] rfl (fun u hu => by obtain rfl := List.mem_singleton.1 hu; rfl)
  case h63 => unfold maxLen; omega
  case hb => omega
  intro wv' w2 hown hgrow hat
  have h := HH.out
  have hX : Mod (fun b => wv.ownBlock = some b) w w2 := (Mod.alloc _).trans ⟨hgrow.os, hgrow.tape, hgrow.output, hgrow.size, fun k hk hn => hgrow.block k hk (fun e => hn e.symm)⟩
  have hp2 : w2.heap[p]? = w.heap[p]? := hX.block p (h.lt p h.op) (fun e => (h.w1 p e).2.1 rfl)
  have hz2 : w.heap.size < w2.heap.size := by have := hgrow.size; simp at this; omega
  have hcp : w2.cell? ⟨p, 1, none⟩ = some wv := (World.cell?_of_block (w := w) (a := ⟨p, 1, none⟩) hp2).trans c1
  have hfp := frozen_row (hp2.trans h.hp) 1
  obtain ⟨aw, cw, rfl⟩ := own_form hown
  have HP2 := hid hp2
  have HX := hid hX
  have HOWN := hid hown
  have HAT := hid hat
  clear hown hgrow hat hp2 hX c0 c1 c3 h
  go_wp2
  have h := HH.out
  have hwp : (Value.slice aw (D.waits.length + 1) cw).ownBlock ≠ some p := fun e => by
    rcases HAT.out with hh | hh
    · exact (h.w1 p (hh.symm.trans e)).2.1 rfl
    · rw [hh] at e
      have := h.lt p h.op
      have := Option.some.inj e
      omega
  obtain ⟨w3, hw3⟩ : ∃ w3, w3 = w2.setCell ⟨p, 1, none⟩ (.slice aw (D.waits.length + 1) cw) := ⟨_, rfl⟩
  have hp3 : w3.heap[p]? = some (.cells #[.slice as0 D.safe.length cs, .slice aw (D.waits.length + 1) cw, xv, .bool (!D.off), I D.ops, I D.armed, I D.keep] 59 (0, 0)) := by
    rw [hw3, heap_setCell_same w2 p 1 _ _ _ (HP2.out.trans h.hp)]
    rfl
  have hx3 : ∀ i, i < w.heap.size → wv.ownBlock ≠ some i → i ≠ p → w3.heap[i]? = w.heap[i]? := fun i hi h1 h2 => by
    rw [hw3, heap_setCell_other w2 ⟨p, 1, none⟩ i _ h2]
    exact HX.out.block i hi h1
  have ho3 : w3.ownsRow 0 3 1 (.slice aw (D.waits.length + 1) cw) (D.waits.length + 1) ((D.waits.map fun x => I x.1) ++ [I a]) := by
    rw [hw3]; exact own_setCell_other HOWN.out hwp _
  have hz3 : w.heap.size < w3.heap.size := by rw [hw3]; simpa using hz2
  have hm3 : Mod own w w3 := by
    rw [hw3]
    exact (HX.out.mono (fun i _ e => (h.w1 i e).1)).trans (Mod.set h.op)
  rw [← hw3]
  have HP3 := hid hp3
  have HX3 := hid hx3
  have HO3 := hid ho3
  have HM3 := hid hm3
  clear hw3 hp3 hx3 ho3 hm3 hcp hfp HP2 HX HOWN h c2 frp hwp
  have h := HH.out
  have hxp : xv.ownBlock ≠ some p := fun e => (h.x1 p e).2.1 rfl
  have c2 : w3.cell? ⟨p, 2, none⟩ = some xv := by rw [cell_of_row w3 p _ _ _ _ HP3.out]; rfl
  have hplt : p < w3.heap.size := (Array.getElem?_eq_some_iff.1 HP3.out).1
  have k2 : ∀ w', KeepB xv.ownBlock w3.heap.size w3.drew w' → w'.cell? ⟨p, 2, none⟩ = some xv := fun w' hh => hh.cell c2 hxp hplt
  have hgw : g < w.heap.size := by
    obtain ⟨ao, cc, hv, -, -, h3⟩ := HV.out
    obtain ⟨g', off', he, hc⟩ := h3 (by rw [Hl.out]; omega)
    simp only [Value.slice.injEq] at hv
    obtain ⟨rfl, -, -⟩ := hv
    simp only [Option.some.injEq, Addr.mk.injEq, and_true] at he
    obtain ⟨rfl, -⟩ := he
    exact block_lt_of_cell (hc 0 (l[0]'(by rw [Hl.out]; omega)) (List.getElem?_eq_getElem _))
  have HV3 := hid (HV.out.keep (w' := w3) (fun i hi => by
    cases hi
    exact HX3.out g hgw (fun e => HD.out g rfl (h.w1 g e).1) (fun e => HD.out g rfl (e ▸ h.op))))
  clear h hplt c2 hgw
  refine wp_region_order (KeepB xv.ownBlock w3.heap.size) [12] [(0,0),(1,0),(2,0),(3,0),(4,0),(6,0),(5,1),(7,1),(8,1),(9,1),(10,0),(11,0),(12,2)] _ (by kernel_rfl) rfl KeepB.refl KeepB.trans (by kernel_rfl) (by simp only [pick, List.getElem?_toArray, List.getElem?_cons_zero, List.getElem?_cons_succ]; rfl) (fun c a d v w h => by cases d <;> exact h) ?_
  refine wpK_q (v := ?_) (a' := ?_) (by rfl) (fun w' hR => ?_) ?_ ?_
  rotate_left 2
  · go_simp; with_reducible rfl
  · simp only [Act.put, List.setIfInBounds_toArray, List.set_cons_zero, List.set_cons_succ]; rfl
  refine wpK_q (v := ?_) (a' := ?_) (by rfl) (fun w' hR => ?_) ?_ ?_
  rotate_left 2
  · go_simp; with_reducible rfl
  · simp only [Act.put, List.setIfInBounds_toArray, List.set_cons_zero, List.set_cons_succ]; rfl
  refine wpK_q (v := ?_) (a' := ?_) (by rfl) (fun w' hR => ?_) ?_ ?_
  rotate_left 2
  · go_simp; with_reducible rfl
  · simp only [Act.put, List.setIfInBounds_toArray, List.set_cons_zero, List.set_cons_succ]; rfl
  refine wpK_q (v := ?_) (a' := ?_) (by rfl) (fun w' hR => ?_) ?_ ?_
  rotate_left 2
  · go_simp; with_reducible rfl
  · simp only [Act.put, List.setIfInBounds_toArray, List.set_cons_zero, List.set_cons_succ]; rfl
  refine wpK_q (v := ?_) (a' := ?_) (by rfl) (fun w' hR => ?_) ?_ ?_
  rotate_left 2
  · go_simp; with_reducible rfl
  · simp only [Act.put, List.setIfInBounds_toArray, List.set_cons_zero, List.set_cons_succ]; rfl
  refine wpK_q (v := ?_) (a' := ?_) (by rfl) (fun w' hR => ?_) ?_ ?_
  rotate_left 2
  · go_simp; with_reducible rfl
  · simp only [Act.put, List.setIfInBounds_toArray, List.set_cons_zero, List.set_cons_succ]; rfl
  refine wpK_v (v := .slice (some ⟨w3.heap.size, 0, none⟩) 0 0) (w' := w3.drew.alloc (.cells #[] 5)) (by rfl) (by go_simp) (fun _ => KeepB.alloc _) (by simp only [Act.put, List.setIfInBounds_toArray, List.set_cons_zero, List.set_cons_succ]; rfl) ?_
  have hown0 : (w3.drew.alloc (.cells #[] 5)).ownsRow w3.heap.size 5 1 (.slice (some ⟨w3.heap.size, 0, none⟩) 0 0) 0 [] := World.ownsRow_made w3.drew #[] 0 (Nat.le_refl _) (Nat.zero_le _) rfl
  have hsrc : Src (w3.drew.alloc (.cells #[] 5)) 1 (.slice (some ⟨g, off, none⟩) 256 cap) l.length (l.map B) := by
    have := (HV3.out.below (Ext.trans _ _ _ (Ext.drew w3) ((Below.refl _ _).alloc (Nat.le_refl _) (.cells #[] 5)))).src
    rw [Hl.out] at this ⊢
    exact this
  obtain ⟨v6, w5, hr5, ho5, hg5, hb5⟩ := run_app (P := Try.prog) _ w3.heap.size 23 23 5 _ 1 1 Try.underlying23 info5 rfl (by decide) _ 0 [] hown0 _ l.length (l.map B) hsrc (by rw [Hl.out]; unfold maxLen; omega) (by rw [Hl.out]; omega) (by simp)
  refine wpK_v (by rfl) (exec_append rfl _ (by simp only [List.map_toArray, List.map_cons, List.map_nil]; rfl) hr5) (fun _ => KeepB.grown hg5 (fun k hk => by cases hk; exact .inr (Nat.le_refl _))) (by simp only [Act.put, List.setIfInBounds_toArray, List.set_cons_zero, List.set_cons_succ]; rfl) ?_
  obtain ⟨g6, c6, rfl, h61, h62, h63, h64⟩ := own_slice ho5 (by rw [Hl.out]; omega)
  refine wpK_v (v := .slice (some ⟨w5.heap.size, 0, none⟩) 1 1) (w' := w5.alloc (.cells #[.slice (some ⟨g6, 0, none⟩) (0 + l.length) c6] 23)) (by rfl) (by go_simp) (fun _ => KeepB.alloc _) (by simp only [Act.put, List.setIfInBounds_toArray, List.set_cons_zero, List.set_cons_succ]; rfl) ?_
  have h := HH.out
  obtain ⟨w6, hw6⟩ : ∃ w6, w6 = w5.alloc (.cells #[.slice (some ⟨g6, 0, none⟩) (0 + l.length) c6] 23) := ⟨_, rfl⟩
  have hB5 : Below w3.heap.size w3 w5 := (Ext.trans _ _ _ (Ext.drew w3) ((Below.refl _ _).alloc (Nat.le_refl _) (.cells #[] 5))).below.grown hg5 (by simp) (fun k hk => by cases hk; exact Nat.le_refl _)
  have hB6 : Below w3.heap.size w3 w6 := by rw [hw6]; exact hB5.alloc (by have := hB5.size; omega) _
  have hx3 : w3.ownsRow 0 23 1 xv D.waits.length xs := own_mod h.hx (fun i hi => HX3.out i (h.lt i (h.x1 i hi).1) (fun e => (h.w1 i e).2.2.2 hi) (h.x1 i hi).2.1)
  have hx6 : w6.ownsRow 0 23 1 xv D.waits.length xs := own_mod hx3 (fun i hi => hB6.block i (own_lt hx3 i hi).2)
  have hsrc2 : Src w6 1 (.slice (some ⟨w5.heap.size, 0, none⟩) 1 1) 1 [.slice (some ⟨g6, 0, none⟩) (0 + l.length) c6] := by
    rw [hw6]
    exact Src.new w5 1 23 [_] rfl (fun u hu => by obtain rfl := List.mem_singleton.1 hu; rfl)
  rw [← hw6]
  obtain ⟨xv', w7, hr7, ho7, hg7, hb7⟩ := run_app (P := Try.prog) w6 0 45 45 23 _ 1 24 Try.underlying45 info23 rfl (by decide) xv D.waits.length xs hx6 _ 1 _ hsrc2 (by unfold maxLen; omega) (by omega) (Nat.zero_le _)
  refine wpK_v (by rfl) (exec_append rfl _ (by simp only [List.map_toArray, List.map_cons, List.map_nil]; rfl) hr7) (fun _ => KeepB.grown hg7 (fun k hk => .inl hk)) (by simp only [Act.put, List.setIfInBounds_toArray, List.set_cons_zero, List.set_cons_succ]; rfl) ?_
  refine wpK_q (v := ?_) (a' := ?_) (by rfl) (fun w' hR => ?_) ?_ ?_
  rotate_left 2
  · go_simp; with_reducible rfl
  · simp only [Act.put, List.setIfInBounds_toArray, List.set_cons_zero, List.set_cons_succ]; rfl
  refine wpK_q (v := ?_) (a' := ?_) (by rfl) (fun w' hR => ?_) ?_ ?_
  rotate_left 2
  · go_simp; with_reducible rfl
  · simp only [Act.put, List.setIfInBounds_toArray, List.set_cons_zero, List.set_cons_succ]; rfl
  have hX7 : ∀ i, i < w3.heap.size → xv.ownBlock ≠ some i → w7.heap[i]? = w3.heap[i]? := fun i hi hne => (hg7.block i (Nat.lt_of_lt_of_le hi hB6.size) (fun e => hne e.symm)).trans (hB6.block i hi)
  have hp7 := (hX7 p (Array.getElem?_eq_some_iff.1 HP3.out).1 hxp).trans HP3.out
  refine wpK_s (by rfl) rfl (exec_store rfl (vx := .pointer (some ⟨p, 2, none⟩)) (vy := xv') rfl rfl (run_store1 (u := xv) (by kernel_rfl) ?_ ?_ (by rw [cell_of_row w7 p _ _ _ _ hp7]; rfl) (frozen_row hp7 2))) (fun h => by cases h) ?_
  · obtain ⟨ao, c, rfl⟩ := own_form ho7; rfl
  · obtain ⟨ao, c, rfl⟩ := own_form ho7; rfl
  refine wpK_done ?_
  have hxv' : ∀ i, xv'.ownBlock = some i → xv.ownBlock = some i ∨ w6.heap.size = i := fun i hi => by
    rcases hb7 with e | e
    · exact .inl (e.symm.trans hi)
    · rw [e] at hi; exact .inr (Option.some.inj hi)
  have hwv' : ∀ i, (Value.slice aw (D.waits.length + 1) cw).ownBlock = some i → (wv.ownBlock = some i ∨ w.heap.size ≤ i) ∧ i < w3.heap.size := fun i hi => by
    refine ⟨?_, (own_lt HO3.out i hi).2⟩
    rcases HAT.out with e | e
    · exact .inl (e.symm.trans hi)
    · rw [e] at hi
      have := Option.some.inj hi
      exact .inr (by omega)
  have hs6 : w5.heap.size < w6.heap.size := by rw [hw6]; simp
  have h3w : ∀ i, own i → i < w3.heap.size := fun i hi => Nat.lt_trans (h.lt i hi) hz3
  have hother : ∀ i, i ≠ p → (w7.setCell ⟨p, 2, none⟩ xv').heap[i]? = w7.heap[i]? := fun i hi => heap_setCell_other w7 ⟨p, 2, none⟩ i _ hi
  have hkeep : ∀ i, own i → i ≠ p → wv.ownBlock ≠ some i → xv.ownBlock ≠ some i → (w7.setCell ⟨p, 2, none⟩ xv').heap[i]? = w.heap[i]? := fun i hi h1 h2 h3 =>
    (hother i h1).trans ((hX7 i (h3w i hi) h3).trans (HX3.out i (h.lt i hi) h2 h1))
  have h6no : ∀ i, own i → i ≠ g6 := fun i hi e => by have := h3w i hi; omega
  have hb6' : xv.ownBlock ≠ some g6 := fun e => h6no g6 (h.x1 g6 e).1 rfl
  have hsee6 : Sees (w7.setCell ⟨p, 2, none⟩ xv') (.slice (some ⟨g6, 0, none⟩) (0 + l.length) c6) l := by
    have e1 : Sees w5 (.slice (some ⟨g6, 0, none⟩) (0 + l.length) c6) l := own_sees (own_len ho5 (Nat.zero_add _) rfl)
    refine e1.keep (fun i hi => ?_)
    cases hi
    have e2 : w6.heap[g6]? = w5.heap[g6]? := by rw [hw6]; exact Below.heap_alloc w5 _ _ h64
    refine (hother g6 (fun e => h6no p h.op e.symm)).trans ((hg7.block g6 (by omega) (fun e => hb6' e.symm)).trans e2)
  have hpages : ∀ i, pb i → (w7.setCell ⟨p, 2, none⟩ xv').heap[i]? = w.heap[i]? := fun i hi => hkeep i (h.pown i hi) (fun e => h.pp (e ▸ hi)) (fun e => (h.w1 i e).2.2.1 hi) (fun e => (h.x1 i e).2.2 hi)
  have hE : RefAt (w7.setCell ⟨p, 2, none⟩ xv') p (fun i => own i ∨ (Value.slice aw (D.waits.length + 1) cw).ownBlock = some i ∨ xv'.ownBlock = some i ∨ i = g6) { D with waits := D.waits ++ [(a, l)] } := by
    refine ⟨.slice as0 D.safe.length cs, .slice aw (D.waits.length + 1) cw, xv', ss, xs ++ [.slice (some ⟨g6, 0, none⟩) (0 + l.length) c6], (fun i => pb i ∨ i = g6), h.ok.push ha Hl.out, .inl h.op, ?_, ?_, ?_, ?_, ?_, ?_, ?_, ?_, ?_, ?_, ?_, ?_⟩
    · rintro (e | e)
      · exact h.pp e
      · exact h6no p h.op e
    · rintro i (e | e)
      · exact .inl (h.pown i e)
      · exact .inr (.inr (.inr e))
    · intro i hi
      obtain ⟨a1, a2, a3, a4, a5⟩ := h.s1 i hi
      refine ⟨.inl a1, a2, fun e => ?_, fun e => ?_, fun e => ?_⟩
      · rcases e with e | e
        · exact a3 e
        · exact h6no i a1 e
      · rcases (hwv' i e).1 with e1 | e1
        · exact a4 e1
        · have := h.lt i a1; omega
      · rcases hxv' i e with e1 | e1
        · exact a5 e1
        · have := h3w i a1; have := hB6.size; omega
    · intro i hi
      obtain ⟨e1, e2⟩ := hwv' i hi
      refine ⟨.inr (.inl hi), fun e => ?_, fun e => ?_, fun e => ?_⟩
      · subst e
        rcases e1 with e1 | e1
        · exact (h.w1 _ e1).2.1 rfl
        · have := h.lt _ h.op; omega
      · rcases e with e | e
        · rcases e1 with e1 | e1
          · exact (h.w1 i e1).2.2.1 e
          · have := h.lt i (h.pown i e); omega
        · omega
      · rcases hxv' i e with e3 | e3
        · rcases e1 with e1 | e1
          · exact (h.w1 i e1).2.2.2 e3
          · have := h.lt i (h.x1 i e3).1; omega
        · have := hB6.size; omega
    · intro i hi
      refine ⟨.inr (.inr (.inl hi)), fun e => ?_, fun e => ?_⟩
      · subst e
        rcases hxv' _ hi with e1 | e1
        · exact (h.x1 _ e1).2.1 rfl
        · have := h3w _ h.op; have := hB6.size; omega
      · rcases hxv' i hi with e1 | e1
        · rcases e with e | e
          · exact (h.x1 i e1).2.2 e
          · exact h6no i (h.x1 i e1).1 e
        · rcases e with e | e
          · have := h3w i (h.pown i e); have := hB6.size; omega
          · omega
    · rintro i (e | e | e | e)
      · have := h3w i e; have := hB6.size; have := hg7.size; simp; omega
      · have := (hwv' i e).2; have := hB6.size; have := hg7.size; simp; omega
      · simpa using (own_lt ho7 i e).2
      · have := hg7.size; simp; omega
    · rw [heap_setCell_same w7 p 2 _ _ xv' hp7]
      rfl
    · exact own_mod h.hs (fun i hi => hkeep i (h.s1 i hi).1 (h.s1 i hi).2.1 (h.s1 i hi).2.2.2.1 (h.s1 i hi).2.2.2.2)
    · refine own_mod (own_len HO3.out (by simp) (by simp)) (fun i hi => ?_)
      obtain ⟨e1, e2⟩ := hwv' i hi
      have hip : i ≠ p := fun e => by
        subst e
        rcases e1 with e1 | e1
        · exact (h.w1 _ e1).2.1 rfl
        · have := h.lt _ h.op; omega
      refine (hother i hip).trans (hX7 i e2 (fun e => ?_))
      rcases e1 with e1 | e1
      · exact (h.w1 i e1).2.2.2 e
      · have := h.lt i (h.x1 i e).1; omega
    · refine own_mod (own_len ho7 (by simp) rfl) (fun i hi => hother i (fun e => ?_))
      subst e
      rcases hxv' _ hi with e1 | e1
      · exact (h.x1 _ e1).2.1 rfl
      · have := h3w _ h.op; have := hB6.size; omega
    · exact (h.ps.keep hpages).more (fun i hi => .inl hi)
    · have := ((h.px.keep hpages).more (pb' := fun i => pb i ∨ i = g6) (fun i hi => .inl hi)).snoc hsee6 (fun i hi => by cases hi; exact .inr rfl)
      simpa using this
  have hM : Mod own w (w7.setCell ⟨p, 2, none⟩ xv') := by
    refine ((HM3.out.trans (Mod.of_below own hB6)).then (own' := fun i => xv.ownBlock = some i) ⟨hg7.os, hg7.tape, hg7.output, hg7.size, fun i hi hn => hg7.block i hi (fun e => hn e.symm)⟩ (fun i _ e => (h.x1 i e).1)).trans (Mod.set h.op)
  have hnew : ∀ i, (own i ∨ (Value.slice aw (D.waits.length + 1) cw).ownBlock = some i ∨ xv'.ownBlock = some i ∨ i = g6) → own i ∨ w.heap.size ≤ i := by
    rintro i (e | e | e | e)
    · exact .inl e
    · rcases (hwv' i e).1 with e1 | e1
      · exact .inl (h.w1 i e1).1
      · exact .inr e1
    · rcases hxv' i e with e1 | e1
      · exact .inl (h.x1 i e1).1
      · have := hB6.size; right; omega
    · right; omega
  obtain ⟨own', hO⟩ : ∃ o : Nat → Prop, o = fun i => own i ∨ (Value.slice aw (D.waits.length + 1) cw).ownBlock = some i ∨ xv'.ownBlock = some i ∨ i = g6 := ⟨_, rfl⟩
  rw [← hO] at hE
  replace hnew : ∀ i, own' i → own i ∨ w.heap.size ≤ i := by rw [hO]; exact hnew
  generalize w7.setCell ⟨p, 2, none⟩ xv' = w8 at *
  have HE := hid hE
  have HM := hid hM
  have HN := hid hnew
  clear hE hM hnew hO hxv' hwv' hs6 h3w hother hkeep h6no hb6' hsee6 hpages hX7 hp7 hr7 ho7 hg7 hb7 hw6 hB5 hB6 hx3 hx6 hsrc2 hown0 hsrc hr5 ho5 hg5 hb5 h k2 hxp
  by_cases hf : (DS.op { D with waits := D.waits ++ [(a, l)] }).off = true
  all_goals
    first | have hf2 := hf | have hf2 : (DS.op { D with waits := D.waits ++ [(a, l)] }).off = false := by simpa using hf
    go_wp2_with (go_at_call 93; refine (roper_any w8 p _ _ HE.out HO.out).mono ?_; rintro e w9 ⟨rfl, own9, hA, hN9, hB⟩; (first | rw [hf] | rw [show (DS.op { D with waits := D.waits ++ [(a, l)] }).off = false by simpa using hf]); have HA := hid hA; have HB := hid hB; have HN9 := hid hN9; clear hA hB hN9)
    go_ret
    refine ⟨?_, own9, HA.out, fun i hi => ?_, HM.out.then HB.out (fun i hi hh => by rcases HN.out i hh with h1 | h1; exact h1; exact absurd hi (Nat.not_lt.2 h1))⟩
    · rfl
    · rcases HN9.out i hi with hh | hh
      · exact HN.out i hh
      · have := HM.out.size; right; omega
end Go.Proofs.Ytoaeapnkefjpaaa

namespace Go.Proofs.Ytoaeapnkefjpaaa
open Go.RowKit
set_option linter.unusedVariables false
set_option linter.unusedSimpArgs false

theorem rwrite_any (w : World) (p : Nat) (own : Nat → Prop) (D : DS) (a : Int) (v : Value) (l : List UInt8) (h : RefAt w p own D) (hv : Sees w v l) (ha : -9223372036854775808 ≤ a ∧ a ≤ 9223372036854775807) (hd : ∀ k, v.ownBlock = some k → ¬ own k) (hN : D.waits.length ≤ 1000000000) :
    Calls Try.prog 51 #[.pointer (some ⟨p, 0, none⟩), I a, v] w fun e w' => e = .returned (I (D.write a l).1) ∧ Reffed' own p w (D.write a l).2 w' := by
  have same : Reffed' own p w D w := ⟨own, h, fun _ hk => .inl hk, Mod.refl _ _⟩
  by_cases hb : a < 0 ∨ (D.safe.length : Int) ≤ a ∨ l.length ≠ 256
  · have e : D.bad a l.length = true := by
      unfold DS.bad
      rcases hb with hb | hb | hb <;> simp [hb]
    have e2 : D.write a l = (1, D) := by unfold DS.write; rw [if_pos e]
    rw [e2]
    exact (rwrite_bad w p own D a v l h hv ha hb).mono fun e w' ⟨h1, h2⟩ => ⟨h1, h2 ▸ same⟩
  · have e : ¬ D.bad a l.length = true := by
      unfold DS.bad
      simp only [Bool.or_eq_true, decide_eq_true_eq]
      intro hh; apply hb; rcases hh with (hh | hh) | hh
      · exact .inl hh
      · exact .inr (.inl hh)
      · exact .inr (.inr hh)
    obtain ⟨n, rfl⟩ : ∃ n : Nat, a = n := ⟨a.toNat, by omega⟩
    have hn : n < D.safe.length := by omega
    have hl : l.length = 256 := by omega
    by_cases ho : D.off = true
    · have e2 : D.write n l = (20, D) := by unfold DS.write; rw [if_neg e, if_pos ho]
      rw [e2]
      exact (rwrite_off w p own D n v l h hv hn hl ho).mono fun e w' ⟨h1, h2⟩ => ⟨h1, h2 ▸ same⟩
    · have e2 : D.write n l = (if (DS.op { D with waits := D.waits ++ [(n, l)] }).off then 20 else 0, DS.op { D with waits := D.waits ++ [(n, l)] }) := by
        unfold DS.write
        rw [if_neg e, if_neg ho]
        simp only [Int.toNat_natCast]
        split <;> rfl
      rw [e2]
      exact rwrite_on w p own D n v l h hv hn hl (by simpa using ho) hd hN
/-- While New lays the pages. -/
structure Mk (w0 : World) (j : Nat) (wr : World) : Prop where
  ex : ∃ (sv : Value) (ss : List Value) (pb : Nat → Prop), wr.heap[w0.heap.size]? = some (.cells #[sv, .slice none 0 0, .slice none 0 0, .bool true, I 0, I 0, I 0] 59 (0, 0)) ∧ wr.ownsRow 0 23 1 sv j ss ∧ Pages wr pb ss (List.replicate j page0) ∧
    (∀ k, pb k → w0.heap.size < k ∧ k < wr.heap.size) ∧ (∀ k, sv.ownBlock = some k → w0.heap.size < k ∧ k < wr.heap.size ∧ ¬ pb k)
  below : Below w0.heap.size w0 wr
theorem page_made (w : World) : (Instr.makeSlice 23 (.int .i64 256) (.int .i64 256)).run Try.prog w = .ok (.slice (some ⟨w.heap.size, 0, none⟩) 256 256) (w.alloc (.cells (page0.map B).toArray 5)) := by
  obtain ⟨i5, hi, hz, hs, hb⟩ := info_parts info5'
  have hmk := run_makeSlice (P := Try.prog) w 23 5 i5 _ Try.underlying23 hi hz .i64 .i64 256 256 (by omega) (by omega) (by rw [hs]; decide) (by rw [hb]; decide) (by omega)
  rw [hs] at hmk
  have hcells : madeCells (Value.int .u8 0).cells ((256 : Int).toNat * 1) = (page0.map B).toArray := by kernel_rfl
  rw [hcells] at hmk
  exact hmk
theorem page0_lenR : page0.length = 256 := List.length_replicate
theorem page0_sees (w : World) : Sees (w.alloc (.cells (page0.map B).toArray 5)) (.slice (some ⟨w.heap.size, 0, none⟩) 256 256) page0 := by
  have := Sees.lit w page0 (0, 0) (by rw [page0_lenR]; unfold maxLen; omega)
  rw [page0_lenR] at this
  exact this
set_option maxRecDepth 100000 in
set_option maxHeartbeats 1600000 in
theorem Mk.new {w0 : World} {m : Nat} {w : World} (h : Mk w0 m w) (h1 : 1 ≤ m) (h2 : m ≤ 4096) : ∃ own, RefAt w w0.heap.size own (DS.new m) ∧ ∀ k, own k → w0.heap.size ≤ k := by
  obtain ⟨sv, ss, pb, hp, hs, hP, hb, hv⟩ := h.ex
  have hlt : w0.heap.size < w.heap.size := (Array.getElem?_eq_some_iff.1 hp).1
  have hok : (DS.new m).Ok := by
    have := DS.Ok.new m
    have e : DS.clamp m = m := by unfold DS.clamp; omega
    rwa [e] at this
  refine ⟨fun k => k = w0.heap.size ∨ pb k ∨ sv.ownBlock = some k, ⟨sv, .slice none 0 0, .slice none 0 0, ss, [], pb, hok, .inl rfl, fun e => ?_, fun k hk => .inr (.inl hk), fun k hk => ?_, fun k hk => (by cases hk), fun k hk => (by cases hk), fun k hk => ?_, hp, ?_, World.ownsRow_nil _ _ _ _, World.ownsRow_nil _ _ _ _, hP, Pages.nil _ _⟩, fun k hk => ?_⟩
  · have := (hb _ e).1; omega
  · obtain ⟨a1, a2, a3⟩ := hv k hk
    exact ⟨.inr (.inr hk), by omega, a3, (by intro e; cases e), (by intro e; cases e)⟩
  · rcases hk with rfl | hk | hk
    · exact hlt
    · exact (hb k hk).2
    · exact (hv k hk).2.1
  · have e : (DS.new m).safe.length = m := List.length_replicate
    rw [e]
    exact hs
  · rcases hk with rfl | hk | hk
    · exact Nat.le_refl _
    · have := (hb k hk).1; omega
    · have := (hv k hk).1; omega
end Go.Proofs.Ytoaeapnkefjpaaa

namespace Go.Proofs.Ytoaeapnkefjpaaa
open Go.RowKit
set_option linter.unusedVariables false
set_option linter.unusedSimpArgs false

set_option maxRecDepth 100000 in
set_option maxHeartbeats 3200000 in
theorem rnew_any (w : World) (n : Int) (hn : -9223372036854775808 ≤ n ∧ n ≤ 9223372036854775807) :
    Calls Try.prog 37 #[I n] w fun e w' => ∃ p own, e = .returned (.pointer (some ⟨p, 0, none⟩)) ∧ RefAt w' p own (DS.new (DS.clamp n)) ∧ (∀ k, own k → w.heap.size ≤ k) ∧ Below w.heap.size w w' := by
  obtain ⟨m, hm⟩ : ∃ m : Nat, m = DS.clamp n := ⟨_, rfl⟩
  have hm' : (m : Int) = min (max n 1) 4096 := by rw [hm]; unfold DS.clamp; omega
  rw [← hm]
  have HM := hid hm'
  clear hm hm'
  have hcase : n < 1 ∨ 4096 < n ∨ (1 ≤ n ∧ n ≤ 4096) := by omega
  rcases hcase with hc | hc | hc
  all_goals
    go_enter Try.func37, Try.ntmps37
    go_wp2
    go_loopw [4] (fun i wr => ∃ j : Nat, j ≤ m ∧ i = I j ∧ Hid (Mk w j wr)) (fun i _ => m - (intOf i).toNat)
    case atStart => 
      refine ⟨0, Nat.zero_le _, rfl, hid ⟨⟨.slice none 0 0, [], fun _ => False, heap_alloc_new w _, World.ownsRow_nil _ _ _ _, Pages.nil _ _, fun k hk => hk.elim, fun k hk => (by cases hk)⟩, (Below.refl _ _).alloc (Nat.le_refl _) _⟩⟩
    case round =>
      obtain ⟨j, hj, rfl, HK⟩ := hrel
      have hm2 := HM.out
      by_cases hlt : j < m
      · obtain ⟨sv, ss, pb, hp, hs, hP, hb, hv⟩ := HK.out.ex
        have hplt : w.heap.size < wr.heap.size := (Array.getElem?_eq_some_iff.1 hp).1
        have hsp : sv.ownBlock ≠ some w.heap.size := fun e => by have := (hv _ e).1; omega
        have c0 : wr.cell? ⟨w.heap.size, 0, none⟩ = some sv := by rw [cell_of_row wr _ _ _ _ _ hp]; rfl
        have HP := hid hp
        have HS := hid hs
        have HPP := hid hP
        have HB := hid hb
        have HVV := hid hv
        clear hp hs hP hb hv
        have hjm : (j : Int) < m := by omega
        go_wp2
        have k0 : ∀ w', KeepB sv.ownBlock wr.heap.size wr.drew w' → w'.cell? ⟨w.heap.size, 0, none⟩ = some sv := fun w' hh => hh.cell c0 hsp hplt
        refine wp_region_order (KeepB sv.ownBlock wr.heap.size) [10] [(0,0),(1,0),(2,0),(3,0),(4,0),(5,1),(6,1),(7,1),(8,0),(9,0),(10,2)] _ (by kernel_rfl) rfl KeepB.refl KeepB.trans (by kernel_rfl) (by simp only [pick, List.getElem?_toArray, List.getElem?_cons_zero, List.getElem?_cons_succ]; rfl) (fun c a d v w h => by cases d <;> exact h) ?_
        refine wpK_q (v := ?_) (a' := ?_) (by rfl) (fun w' hR => ?_) ?_ ?_
        rotate_left 2
        · go_simp; with_reducible rfl
        · simp only [Act.put, List.setIfInBounds_toArray, List.set_cons_zero, List.set_cons_succ]; rfl
        refine wpK_q (v := ?_) (a' := ?_) (by rfl) (fun w' hR => ?_) ?_ ?_
        rotate_left 2
        · go_simp; with_reducible rfl
        · simp only [Act.put, List.setIfInBounds_toArray, List.set_cons_zero, List.set_cons_succ]; rfl
        refine wpK_q (v := ?_) (a' := ?_) (by rfl) (fun w' hR => ?_) ?_ ?_
        rotate_left 2
        · go_simp; with_reducible rfl
        · simp only [Act.put, List.setIfInBounds_toArray, List.set_cons_zero, List.set_cons_succ]; rfl
        refine wpK_q (v := ?_) (a' := ?_) (by rfl) (fun w' hR => ?_) ?_ ?_
        rotate_left 2
        · go_simp; with_reducible rfl
        · simp only [Act.put, List.setIfInBounds_toArray, List.set_cons_zero, List.set_cons_succ]; rfl
        refine wpK_q (v := ?_) (a' := ?_) (by rfl) (fun w' hR => ?_) ?_ ?_
        rotate_left 2
        · go_simp; with_reducible rfl
        · simp only [Act.put, List.setIfInBounds_toArray, List.set_cons_zero, List.set_cons_succ]; rfl
        refine wpK_v (v := .slice (some ⟨wr.heap.size, 0, none⟩) 256 256) (w' := wr.drew.alloc (.cells (page0.map B).toArray 5)) (by rfl) (by have hh := val_of (page_made wr.drew); exact hh) (fun _ => KeepB.alloc _) (by simp only [Act.put, List.setIfInBounds_toArray, List.set_cons_zero, List.set_cons_succ]; rfl) ?_
        obtain ⟨w5, hw5⟩ : ∃ w5, w5 = wr.drew.alloc (.cells (page0.map B).toArray 5) := ⟨_, rfl⟩
        have hB5 : Below wr.heap.size wr w5 := by rw [hw5]; exact (Ext.trans _ _ _ (Ext.drew wr) ((Below.refl _ _).alloc (Nat.le_refl _) _)).below
        have hsee5 : Sees w5 (.slice (some ⟨wr.heap.size, 0, none⟩) 256 256) page0 := by rw [hw5]; exact page0_sees wr.drew
        have hz5 : w5.heap.size = wr.heap.size + 1 := by rw [hw5]; simp
        rw [← hw5]
        refine wpK_v (v := .slice (some ⟨w5.heap.size, 0, none⟩) 1 1) (w' := w5.alloc (.cells #[.slice (some ⟨wr.heap.size, 0, none⟩) 256 256] 23)) (by rfl) (by go_simp) (fun _ => KeepB.alloc _) (by simp only [Act.put, List.setIfInBounds_toArray, List.set_cons_zero, List.set_cons_succ]; rfl) ?_
        obtain ⟨w6, hw6⟩ : ∃ w6, w6 = w5.alloc (.cells #[.slice (some ⟨wr.heap.size, 0, none⟩) 256 256] 23) := ⟨_, rfl⟩
        have hB6 : Below wr.heap.size wr w6 := by rw [hw6]; exact hB5.alloc (by omega) _
        have hx6 : w6.ownsRow 0 23 1 sv j ss := own_mod HS.out (fun i hi => hB6.block i (own_lt HS.out i hi).2)
        have hsrc2 : Src w6 1 (.slice (some ⟨w5.heap.size, 0, none⟩) 1 1) 1 [.slice (some ⟨wr.heap.size, 0, none⟩) 256 256] := by
          rw [hw6]
          exact Src.new w5 1 23 [_] rfl (fun u hu => by obtain rfl := List.mem_singleton.1 hu; rfl)
        have hz6 : w6.heap.size = wr.heap.size + 2 := by rw [hw6]; simp [hz5]
        have hsee6 : Sees w6 (.slice (some ⟨wr.heap.size, 0, none⟩) 256 256) page0 := hsee5.keep (fun i hi => by
          obtain rfl : wr.heap.size = i := Option.some.inj hi
          rw [hw6]
          exact Below.heap_alloc w5 _ _ (by omega))
        rw [← hw6]
        obtain ⟨sv', w7, hr7, ho7, hg7, hb7⟩ := run_app (P := Try.prog) w6 0 45 45 23 _ 1 24 Try.underlying45 info23 rfl (by decide) sv j ss hx6 _ 1 _ hsrc2 (by unfold maxLen; omega) (by omega) (Nat.zero_le _)
        refine wpK_v (by rfl) (exec_append rfl _ (by simp only [List.map_toArray, List.map_cons, List.map_nil]; rfl) hr7) (fun _ => KeepB.grown hg7 (fun k hk => .inl hk)) (by simp only [Act.put, List.setIfInBounds_toArray, List.set_cons_zero, List.set_cons_succ]; rfl) ?_
        refine wpK_q (v := ?_) (a' := ?_) (by rfl) (fun w' hR => ?_) ?_ ?_
        rotate_left 2
        · go_simp; with_reducible rfl
        · simp only [Act.put, List.setIfInBounds_toArray, List.set_cons_zero, List.set_cons_succ]; rfl
        refine wpK_q (v := ?_) (a' := ?_) (by rfl) (fun w' hR => ?_) ?_ ?_
        rotate_left 2
        · go_simp; with_reducible rfl
        · simp only [Act.put, List.setIfInBounds_toArray, List.set_cons_zero, List.set_cons_succ]; rfl
        have hX7 : ∀ i, i < wr.heap.size → sv.ownBlock ≠ some i → w7.heap[i]? = wr.heap[i]? := fun i hi hne => (hg7.block i (Nat.lt_of_lt_of_le hi hB6.size) (fun e => hne e.symm)).trans (hB6.block i hi)
        have hp7 := (hX7 w.heap.size hplt hsp).trans HP.out
        refine wpK_s (by rfl) rfl (exec_store rfl (vx := .pointer (some ⟨w.heap.size, 0, none⟩)) (vy := sv') rfl rfl (run_store1 (u := sv) (by kernel_rfl) ?_ ?_ (by rw [cell_of_row w7 _ _ _ _ _ hp7]; rfl) (frozen_row hp7 0))) (fun h => by cases h) ?_
        · obtain ⟨ao, c, rfl⟩ := own_form ho7; rfl
        · obtain ⟨ao, c, rfl⟩ := own_form ho7; rfl
        refine wpK_done ?_
        have hsv' : ∀ i, sv'.ownBlock = some i → (sv.ownBlock = some i ∧ w.heap.size < i ∧ ¬ pb i ∧ i < wr.heap.size) ∨ i = wr.heap.size + 2 := fun i hi => by
          rcases hb7 with e | e
          · have e' := e.symm.trans hi
            exact .inl ⟨e', (HVV.out i e').1, (HVV.out i e').2.2, (HVV.out i e').2.1⟩
          · rw [e] at hi; have := Option.some.inj hi; exact .inr (by omega)
        have hs7 : w6.heap.size ≤ w7.heap.size := hg7.size
        have hbw : Below w.heap.size w wr := HK.out.below
        have hMk : Mk w (j + 1) (w7.setCell ⟨w.heap.size, 0, none⟩ sv') := by
          have hother : ∀ i, i ≠ w.heap.size → (w7.setCell ⟨w.heap.size, 0, none⟩ sv').heap[i]? = w7.heap[i]? := fun i hi => heap_setCell_other w7 ⟨w.heap.size, 0, none⟩ i _ hi
          refine ⟨⟨sv', ss ++ [.slice (some ⟨wr.heap.size, 0, none⟩) 256 256], (fun i => pb i ∨ i = wr.heap.size), ?_, ?_, ?_, ?_, ?_⟩, ?_⟩
          · rw [heap_setCell_same w7 w.heap.size 0 _ _ sv' hp7]; rfl
          · exact own_mod ho7 (fun i hi => hother i (fun e => by rcases hsv' i hi with h1 | h1 <;> omega))
          · have h1 := ((HPP.out.keep (w' := w7.setCell ⟨w.heap.size, 0, none⟩ sv') (fun i hi => (hother i (fun e => by have := (HB.out i hi).1; omega)).trans (hX7 i (HB.out i hi).2 (fun e => (HVV.out i e).2.2 hi)))).more (pb' := fun i => pb i ∨ i = wr.heap.size) (fun i hi => .inl hi)).snoc (q := page0) (v := .slice (some ⟨wr.heap.size, 0, none⟩) 256 256) (hsee6.keep (fun i hi => by
              obtain rfl : wr.heap.size = i := Option.some.inj hi
              exact (hother _ (fun e => by omega)).trans (hg7.block _ (by omega) (fun e => by
                have := (HVV.out _ e.symm).2.1; omega)))) (fun i hi => by cases hi; exact .inr rfl)
            rw [List.replicate_succ']
            exact h1
          · rintro i (e | e)
            · have := HB.out i e; refine ⟨this.1, ?_⟩; simp; omega
            · subst e; refine ⟨hplt, ?_⟩; simp; omega
          · intro i hi
            have := (own_lt ho7 i hi).2
            rcases hsv' i hi with h1 | h1
            · refine ⟨h1.2.1, by simpa using this, ?_⟩
              rintro (e | e)
              · exact h1.2.2.1 e
              · omega
            · refine ⟨by omega, by simpa using this, ?_⟩
              rintro (e | e)
              · have := (HB.out i e).2; omega
              · omega
          · refine ((hbw.trans (hB6.mono (by omega))).trans ⟨hg7.os, hg7.tape, hg7.output, hg7.size, fun i hi => hg7.block i (by omega) (fun e => by have := (HVV.out i e.symm).1; omega)⟩).trans ?_
            exact (Below.refl _ _).setCell (by simp) _
        generalize w7.setCell ⟨w.heap.size, 0, none⟩ sv' = w8 at *
        have HMK := hid hMk
        clear hMk hsv' hs7 hbw hp7 hX7 hr7 ho7 hg7 hb7 hz6 hsee6 hsrc2 hx6 hB6 hw6 hz5 hsee5 hB5 hw5 k0 c0
        go_wp2
        go_roundw
        case rel => exact ⟨j + 1, by omega, by go_num, HMK⟩
        case measure => simp [intOf]; omega
      · have e : j = m := by omega
        subst e
        obtain ⟨own, h1, h2⟩ := HK.out.new (by omega) (by omega)
        have hbb := HK.out.below
        clear HK
        go_wp2
        go_ret
        exact ⟨_, own, rfl, h1, h2, hbb⟩
end Go.Proofs.Ytoaeapnkefjpaaa

namespace Go.Proofs.Ytoaeapnkefjpaaa
open Go.RowKit
set_option linter.unusedVariables false
set_option linter.unusedSimpArgs false

/-- A piece within one row. -/
theorem rows_piece {α β : Type} {f : α → List β} {n : Nat} {L : List α} {k : Nat} {x : α} (h : ∀ x ∈ L, (f x).length = n) (hk : L[k]? = some x) {o m : Nat} (hm : o + m ≤ n) :
    ((L.flatMap f).drop (k * n + o)).take m = ((f x).drop o).take m := by
  apply List.ext_getElem?
  intro j
  rw [List.getElem?_take, List.getElem?_take]
  by_cases hj : j < m
  · rw [if_pos hj, if_pos hj, List.getElem?_drop, List.getElem?_drop]
    have := rows_get h hk (j := o + j) (by omega)
    rw [← this]
    congr 1
    omega
  · rw [if_neg hj, if_neg hj]

/-- What a tape is. -/
structure TS where
  lo : Nat
  hi : Nat
  pos : Nat
  count : Nat
  sick : Int
namespace TS
/-- How many bytes its stretch has. -/
def size (T : TS) : Nat := (T.hi - T.lo) * 256
/-- A tape as it should be, over a drum of n pages. -/
structure Ok (T : TS) (n : Nat) : Prop where
  lt : T.lo < T.hi
  le : T.hi ≤ n
  pos : T.pos ≤ T.size
  count : T.count ≤ T.pos
  sick : -9223372036854775808 ≤ T.sick ∧ T.sick ≤ 9223372036854775807
def size3 (n : Nat) : List UInt8 := [UInt8.ofNat (n / 65536 % 256), UInt8.ofNat (n / 256 % 256), UInt8.ofNat (n % 256)]
theorem size3_len (n : Nat) : (size3 n).length = 3 := rfl
/-- What stands ahead of a record, without its mark. -/
def framed (c : Nat) (r : List UInt8) : List UInt8 := size3 r.length ++ Sum.be8 (Sum.add (Sum.of c (size3 r.length)) r)
theorem framed_len (c : Nat) (r : List UInt8) : (framed c r).length = 11 := by unfold framed; rw [List.length_append, Sum.be8_length]; rfl
/-- The bytes of n pages from lo on. -/
def stretch (D : DS) (lo n : Nat) : List UInt8 := (List.range n).flatMap fun i => DS.look D.safe D.waits (lo + i)
theorem stretch_page {D : DS} (h : D.Ok) {lo n : Nat} (hn : lo + n ≤ D.safe.length) : ∀ i ∈ List.range n, (DS.look D.safe D.waits (lo + i)).length = 256 := fun i hi => DS.look_len h.page h.wait (by have := List.mem_range.1 hi; omega)
theorem stretch_len {D : DS} (h : D.Ok) {lo n : Nat} (hn : lo + n ≤ D.safe.length) : (stretch D lo n).length = n * 256 := by
  unfold stretch
  rw [rows_len (stretch_page h hn), List.length_range]
theorem stretch_piece {D : DS} (h : D.Ok) {lo n : Nat} (hn : lo + n ≤ D.safe.length) {a m : Nat} (ha : a / 256 < n) (hm : a % 256 + m ≤ 256) :
    ((stretch D lo n).drop a).take m = ((DS.look D.safe D.waits (lo + a / 256)).drop (a % 256)).take m := by
  have := rows_piece (stretch_page h hn) (k := a / 256) (x := a / 256) (by rw [List.getElem?_range ha]) (o := a % 256) (m := m) hm
  rw [← this]
  unfold stretch
  congr 2
  omega
/-- What stands at a place. -/
inductive Found where
  | no
  | bad (e : Int)
  | yes (r : List UInt8)
def lenAt (S : List UInt8) (a : Nat) : Nat := (Sum.num ((S.drop (a + 1)).take 3)).toNat
def found (S : List UInt8) (a c : Nat) : Found :=
  if S.length < a + 12 then .no
  else if S.getD a 0 = 0 then .no
  else if S.getD a 0 = 1 ∧ lenAt S a ≤ 65536 ∧ a + 12 + lenAt S a ≤ S.length then
    if framed c ((S.drop (a + 12)).take (lenAt S a)) = (S.drop (a + 1)).take 11 then .yes ((S.drop (a + 12)).take (lenAt S a)) else .bad 12
  else .bad 11
/-- What an opening comes to, from a place on: an error, or the records, the place, the count. -/
def opened (S : List UInt8) : Nat → Nat → Nat → List (List UInt8) → Int × List (List UInt8) × Nat × Nat
  | 0, a, c, acc => (0, acc, a, c)
  | k + 1, a, c, acc => match found S a c with
    | .no => (0, acc, a, c)
    | .bad e => (e, [], 0, 0)
    | .yes r => opened S k (a + 12 + r.length) (c + 1) (acc ++ [r])
theorem lenAt_lt (S : List UInt8) (a : Nat) : lenAt S a < 16777216 := by
  unfold lenAt
  have h := Sum.num_range ((S.drop (a + 1)).take 3)
  have h3 : ((S.drop (a + 1)).take 3).length ≤ 3 := List.length_take_le _ _
  have h4 : (256 : Int) ^ ((S.drop (a + 1)).take 3).length ≤ 256 ^ 3 := by
    generalize ((S.drop (a + 1)).take 3).length = k at *
    have : k = 0 ∨ k = 1 ∨ k = 2 ∨ k = 3 := by omega
    rcases this with rfl | rfl | rfl | rfl <;> decide
  have h5 : (256 : Int) ^ 3 = 16777216 := by decide
  rw [h5] at h4
  omega
theorem found_yes {S : List UInt8} {a c : Nat} {r : List UInt8} (h : found S a c = .yes r) : a + 12 + r.length ≤ S.length ∧ r.length ≤ 65536 ∧ r = (S.drop (a + 12)).take (lenAt S a) ∧ r.length = lenAt S a := by
  unfold found at h
  split at h
  · cases h
  · split at h
    · cases h
    · split at h
      · rename_i h1 h2 h3
        split at h
        · cases h
          have : ((S.drop (a + 12)).take (lenAt S a)).length = lenAt S a := by rw [List.length_take, List.length_drop]; omega
          exact ⟨by omega, by omega, rfl, this⟩
        · cases h
      · cases h

/-! ### laying a record -/
/-- k pages of bytes. -/
def pagesOf (b : List UInt8) (k : Nat) : List (List UInt8) := (List.range k).map fun i => (b.drop (256 * i)).take 256
/-- Pages written one behind the other. -/
def wr : DS → Nat → List (List UInt8) → Int × DS
  | D, _, [] => (0, D)
  | D, a, p :: ps => if (D.write a p).1 = 0 then wr (D.write a p).2 (a + 1) ps else D.write a p
/-- A record's bytes, without the mark, and a nought behind it, if there is room. -/
def body (T : TS) (r : List UInt8) : List UInt8 := 0 :: (framed T.count r ++ r) ++ (if T.pos + (12 + r.length) < T.size then [0] else [])
/-- What bytes make of the pages: those that stand ahead on the first page; noughts behind. -/
def padded (D : DS) (T : TS) (a : Nat) (b : List UInt8) : List UInt8 :=
  let all := ((stretch D T.lo (T.hi - T.lo)).drop (a / 256 * 256)).take (a % 256) ++ b
  all ++ List.replicate ((256 - all.length % 256) % 256) 0
def laid (D : DS) (T : TS) (a : Nat) (b : List UInt8) : Int × DS := wr D (T.lo + a / 256) (pagesOf (padded D T a b) ((padded D T a b).length / 256))
/-- The mark set. -/
def marked (D : DS) (T : TS) : List UInt8 := (DS.look D.safe D.waits (T.lo + T.pos / 256)).set (T.pos % 256) 1
def doIt (D : DS) (T : TS) (r : List UInt8) : Int × DS × TS :=
  if D.off then (20, D, { T with sick := 20 }) else
  let x1 := laid D T T.pos (body T r)
  if x1.1 ≠ 0 then (x1.1, x1.2, { T with sick := x1.1 }) else
  let x2 := x1.2.Flush
  if x2.1 ≠ 0 then (x2.1, x2.2, { T with sick := x2.1 }) else
  let x3 := x2.2.write (T.lo + T.pos / 256 : Nat) (marked x2.2 T)
  if x3.1 ≠ 0 then (x3.1, x3.2, { T with sick := x3.1 }) else
  let x4 := x3.2.Flush
  if x4.1 ≠ 0 then (x4.1, x4.2, { T with sick := x4.1 }) else
  (0, x4.2, { T with pos := T.pos + 12 + r.length, count := T.count + 1 })
def append (D : DS) (T : TS) (r : List UInt8) : Int × DS × TS :=
  if 65536 < r.length then (3, D, T) else if T.sick ≠ 0 then (T.sick, D, T) else if T.size < T.pos + 12 + r.length then (22, D, T) else doIt D T r
end TS
end Go.Proofs.Ytoaeapnkefjpaaa

namespace Go.Proofs.Ytoaeapnkefjpaaa
open Go.RowKit
set_option linter.unusedVariables false
set_option linter.unusedSimpArgs false

theorem own_anew {w : World} {b b' : Nat} {e : TypeId} {size n : Nat} {v : Value} {xs : List Value} (h : w.ownsRow b e size v n xs) (hb : ∀ k, v.ownBlock = some k → b' ≤ k) : w.ownsRow b' e size v n xs := by
  refine ⟨h.1, ?_⟩
  rcases h.2 with h0 | ⟨g, cap, cur, rfl, _, r⟩
  · exact .inl h0
  · exact .inr ⟨g, cap, cur, rfl, hb g rfl, r⟩
/-- What the tape gives up with. -/
def gaveUp (e : Int) : List PanicEntry := [{ v := .iface 130 (.agg #[I e]), recovered := false }]
theorem unless_ok (e : Int) (w : World) : Calls Try.prog 108 #[.bool true, I e] w fun r w' => r = .returned (.tuple #[]) ∧ w = w' := by
  go_enter Try.func108, Try.ntmps108
  go_wp2
  ((try simp only [Exit.inBlock, Exit.then]); first | refine bodyPost_end (results_none rfl _ _ _) rfl ?_ | refine bodyPost_ret (results_none rfl _ _ _) rfl ?_)
  exact ⟨rfl, rfl⟩
theorem unless_no (e : Int) (w : World) : Calls Try.prog 108 #[.bool false, I e] w fun r w' => r = .panicked (gaveUp e) ∧ w = w' := by
  go_enter Try.func108, Try.ntmps108
  go_wp2
  exact ⟨rfl, rfl, rfl⟩

/-- The tape at block t, over the drum at p, of n pages. -/
structure TapeIn (w : World) (t p n : Nat) (T : TS) : Prop where
  ok : T.Ok n
  n2 : n ≤ 4096
  ht : w.heap[t]? = some (.cells #[.pointer (some ⟨p, 0, none⟩), I T.lo, I T.hi, I T.pos, I T.count, I T.sick] 132 (0, 0))
section
variable {w w' : World} {t p n : Nat} {T : TS}
theorem TapeIn.lt (h : TapeIn w t p n T) : t < w.heap.size := (Array.getElem?_eq_some_iff.1 h.ht).1
theorem TapeIn.keep (h : TapeIn w t p n T) (hb : w'.heap[t]? = w.heap[t]?) : TapeIn w' t p n T := ⟨h.ok, h.n2, hb.trans h.ht⟩
theorem TapeIn.below (h : TapeIn w t p n T) (hb : Below w.heap.size w w') : TapeIn w' t p n T := h.keep (hb.block t h.lt)
theorem TapeIn.mod {own : Nat → Prop} (h : TapeIn w t p n T) (hm : Mod own w w') (ho : ¬ own t) : TapeIn w' t p n T := h.keep (hm.block t h.lt ho)
theorem TapeIn.c0 (h : TapeIn w t p n T) : w.cell? ⟨t, 0, none⟩ = some (.pointer (some ⟨p, 0, none⟩)) := by rw [cell_of_row w t _ _ _ _ h.ht]; rfl
theorem TapeIn.c1 (h : TapeIn w t p n T) : w.cell? ⟨t, 1, none⟩ = some (I T.lo) := by rw [cell_of_row w t _ _ _ _ h.ht]; rfl
theorem TapeIn.c2 (h : TapeIn w t p n T) : w.cell? ⟨t, 2, none⟩ = some (I T.hi) := by rw [cell_of_row w t _ _ _ _ h.ht]; rfl
theorem TapeIn.c3 (h : TapeIn w t p n T) : w.cell? ⟨t, 3, none⟩ = some (I T.pos) := by rw [cell_of_row w t _ _ _ _ h.ht]; rfl
theorem TapeIn.c4 (h : TapeIn w t p n T) : w.cell? ⟨t, 4, none⟩ = some (I T.count) := by rw [cell_of_row w t _ _ _ _ h.ht]; rfl
theorem TapeIn.c5 (h : TapeIn w t p n T) : w.cell? ⟨t, 5, none⟩ = some (I T.sick) := by rw [cell_of_row w t _ _ _ _ h.ht]; rfl
theorem TapeIn.fr (h : TapeIn w t p n T) : ∀ i, w.frozen? ⟨t, i, none⟩ = false := frozen_row h.ht
theorem TapeIn.bd (h : TapeIn w t p n T) : T.lo < T.hi ∧ T.hi ≤ n ∧ n ≤ 4096 ∧ T.pos ≤ T.size ∧ T.size ≤ 1048576 ∧ T.count ≤ T.pos ∧ (T.size : Int) = ((T.hi : Int) - (T.lo : Int)) * 256 := by
  obtain ⟨⟨h1, h2, h3, h4, h5⟩, h6, _⟩ := h
  unfold TS.size at *
  omega
end
set_option maxRecDepth 100000 in
theorem size_any (w : World) (t p n : Nat) (T : TS) (h : TapeIn w t p n T) : Calls Try.prog 98 #[.pointer (some ⟨t, 0, none⟩)] w fun e w' => e = .returned (I T.size) ∧ ∃ m, w' = w.drewN m := by
  obtain ⟨b1, b2, b3, b4, b5, b6, b7⟩ := h.bd
  have c1 := h.c1
  have c2 := h.c2
  have HB := hid b7
  have hs : IntKind.i64.wrap ((T.hi : Int) - (T.lo : Int)) = (T.hi : Int) - (T.lo : Int) := IntWalk.i64_in _ (by omega)
  have hs2 : IntKind.i64.wrap (((T.hi : Int) - (T.lo : Int)) * 256) = ((T.hi : Int) - (T.lo : Int)) * 256 := IntWalk.i64_in _ (by omega)
  clear h b7
  go_enter Try.func98, Try.ntmps98
  go_wp2
  go_quiet (fail)
  go_wp2
  go_ret
  exact ⟨ret_int HB.out.symm, _, rfl⟩
theorem i64_or_nat (a b : Nat) (ha : a < 9223372036854775808) (hb : b < 9223372036854775808) : Go.bits .or .i64 (a : Int) (b : Int) = ((a ||| b : Nat) : Int) := by
  have hx : a ||| b < 2 ^ 63 := Nat.or_lt_two_pow (by omega) (by omega)
  show IntKind.i64.wrap ((BitVec.ofInt 64 (a : Int) ||| BitVec.ofInt 64 (b : Int)).toNat : Int) = _
  rw [BitVec.toNat_or, ofInt_u64 a (by omega), ofInt_u64 b (by omega), IntWalk.i64_in _ (by omega)]
theorem or8i (x : Int) (c : UInt8) (h0 : 0 ≤ x) (h1 : x < 36028797018963968) : Go.bits .or .i64 (x * 256) (c.toNat : Int) = Sum.nst x c := by
  have hb := c.toNat_lt
  obtain ⟨X, rfl⟩ := Int.eq_ofNat_of_zero_le h0
  have e := i64_or_nat (X * 256) c.toNat (by omega) (by omega)
  have hj := nat_join 8 (X * 256) c.toNat (by omega) (by omega)
  rw [hj] at e
  have e2 : ((X : Int) * 256) = ((X * 256 : Nat) : Int) := by omega
  rw [e2, e]
  unfold Sum.nst
  omega
theorem num6 (T : List UInt8) (k : Nat) (hT : T.length ≤ 6) : 0 ≤ Sum.num (T.take k) ∧ Sum.num (T.take k) < 281474976710656 * 1 := by
  have h := Sum.num_range (T.take k)
  have h3 : (T.take k).length ≤ 6 := by have := List.length_take_le k T; rw [List.length_take]; omega
  generalize (T.take k).length = m at *
  refine ⟨h.1, Int.lt_of_lt_of_le h.2 ?_⟩
  have : m = 0 ∨ m = 1 ∨ m = 2 ∨ m = 3 ∨ m = 4 ∨ m = 5 ∨ m = 6 := by omega
  rcases this with rfl | rfl | rfl | rfl | rfl | rfl | rfl <;> decide
set_option maxRecDepth 100000 in
set_option maxHeartbeats 800000 in
theorem number_any (w : World) (v : Value) (l : List UInt8) (hv : Sees w v l) (hl : l.length ≤ 6) : Calls Try.prog 107 #[v] w fun e w' => e = .returned (I (Sum.num l)) ∧ w = w' := by
  obtain ⟨ao, cap, rfl, h1, h2, h3⟩ := hv
  have H3 := hid h3
  clear h3
  go_enter Try.func107, Try.ntmps107
  go_wp2
  go_loop [3, 8] (fun x i => ∃ k : Nat, k ≤ l.length ∧ i = .int .i64 k ∧ x = .int .i64 (Sum.num (l.take k))) (fun _ i => l.length - (intOf i).toNat)
  case atStart => exact ⟨0, Nat.zero_le _, rfl, rfl⟩
  case round =>
    obtain ⟨k, hk, rfl, rfl⟩ := hrel
    by_cases hlt : k < l.length
    · obtain ⟨g, off, rfl, hc⟩ := H3.out (by omega)
      have hck := hc k _ (List.getElem?_eq_getElem hlt)
      have bb := byte_bd l[k]
      have nb := num6 l k hl
      have hor := or8i (Sum.num (l.take k)) l[k] nb.1 (by omega)
      rw [← Sum.num_snoc, ← List.take_succ_eq_append_getElem hlt] at hor
      generalize Sum.num (l.take k) = X at *
      have HOR := hid hor
      clear hor hc
      go_wp2
      go_round
      case rel => exact ⟨k + 1, by omega, by go_num, by rw [HOR.out]⟩
      case measure => simp [intOf]; omega
    · have e : k = l.length := by omega
      go_wp2
      go_ret
      subst e
      first | exact ⟨ret_int rfl, rfl⟩ | exact ⟨ret_int (by rw [List.take_length]), rfl⟩
set_option maxRecDepth 100000 in
set_option maxHeartbeats 800000 in
theorem framed_any (w : World) (c : Int) (hc : -9223372036854775808 ≤ c ∧ c ≤ 9223372036854775807) (v : Value) (r : List UInt8) (hv : Sees w v r) (hr : r.length ≤ 65536) : Calls Try.prog 109 #[I c, v] w (Fresh w (TS.size3 r.length ++ Sum.be8 (Sum.add (Sum.of c (TS.size3 r.length)) r))) := by
  obtain ⟨ao, cap, rfl, -⟩ := hv.form0
  have HV := hid hv
  clear hv
  go_enter Try.func109, Try.ntmps109
  go_wp2_with fail
  have hcells : (#[Value.int .u8 ((r.length : Int) / 65536), Value.int .u8 ((r.length : Int) / 256 % 256), Value.int .u8 ((r.length : Int) % 256)] : Array Value) = ((TS.size3 r.length).map B).toArray := by
    have e1 : ((UInt8.ofNat (r.length / 65536 % 256)).toNat : Int) = (r.length : Int) / 65536 := by rw [UInt8.toNat_ofNat']; omega
    have e2 : ((UInt8.ofNat (r.length / 256 % 256)).toNat : Int) = (r.length : Int) / 256 % 256 := by rw [UInt8.toNat_ofNat']; omega
    have e3 : ((UInt8.ofNat (r.length % 256)).toNat : Int) = (r.length : Int) % 256 := by rw [UInt8.toNat_ofNat']; omega
    unfold TS.size3 B
    rw [List.map_cons, List.map_cons, List.map_cons, List.map_nil, e1, e2, e3]
  rw [hcells]
  have hS := Sees.lit w (TS.size3 r.length) (0, 0) (by show 3 ≤ maxLen; unfold maxLen; omega)
  have hb : Below w.heap.size w (w.alloc (.cells ((TS.size3 r.length).map B).toArray 5)) := (Below.refl _ _).alloc (Nat.le_refl _) _
  have HVa := hid (HV.out.below hb)
  have HS : Hid (Sees (w.alloc (.cells ((TS.size3 r.length).map B).toArray 5)) (.slice (some ⟨w.heap.size, 0, none⟩) 3 3) (TS.size3 r.length)) := hid hS
  have HB := hid hb
  generalize w.alloc (.cells ((TS.size3 r.length).map B).toArray 5) = wa at *
  clear hcells hS hb
  have r1 : 0 ≤ Sum.of c (TS.size3 r.length) ∧ Sum.of c (TS.size3 r.length) < 18446744073709551616 := by
    have := Sum.add_range (Sum.start c) (TS.size3 r.length)
    unfold Sum.of; omega
  have r2 : 0 ≤ Sum.add (Sum.of c (TS.size3 r.length)) r ∧ Sum.add (Sum.of c (TS.size3 r.length)) r < 18446744073709551616 := by
    have := Sum.add_range (Sum.of c (TS.size3 r.length)) r
    omega
  refine (of_any c hc.1 hc.2 _ (TS.size3 r.length) _ HS.out).mono ?_
  rintro e w1 ⟨rfl, rfl⟩
  go_wp2_with (first | (go_at_call 26; refine (add_any _ r1.1 r1.2 _ r _ HVa.out).mono ?_; rintro e w2 ⟨rfl, rfl⟩) | (go_at_call 30; refine (put_any _ (TS.size3 r.length) _ r2.1 r2.2 _ HS.out (by show 3 ≤ 1099511627776; omega)).mono ?_; rintro e w3 ⟨v3, rfl, ho, hb3⟩; have HO := hid ho; have HB3 := hid hb3; clear ho hb3))
  go_ret
  exact ⟨v3, rfl, own_anew HO.out (fun k hk => Nat.le_trans HB.out.size (own_lt HO.out k hk).1), HB.out.trans (HB3.out.mono HB.out.size)⟩
theorem framed_of (w : World) (c : Nat) (hc : c ≤ 1000000000) (v : Value) (r : List UInt8) (hv : Sees w v r) (hr : r.length ≤ 65536) : Calls Try.prog 109 #[I c, v] w (Fresh w (TS.framed c r)) := framed_any w c (by omega) v r hv hr
/-! ### flush -/
/-- What is answered, or given up with, where an error is. -/
def endOr (e : Int) (v : Value) : Ending := if e = 0 then .returned v else .panicked (gaveUp e)
theorem endOr_ok (v : Value) : Ending.returned v = endOr 0 v := rfl
theorem endOr_no {e : Int} (h : (e == 0) = false) (v : Value) : Ending.panicked (gaveUp e) = endOr e v := by
  have : ¬ e = 0 := by simpa using h
  unfold endOr
  rw [if_neg this]
set_option maxRecDepth 100000 in
theorem tflush_any (w : World) (t p n : Nat) (own : Nat → Prop) (T : TS) (D : DS) (h : TapeIn w t p n T) (hd : DrumAt w p own D) : Calls Try.prog 112 #[.pointer (some ⟨t, 0, none⟩)] w fun e w' => e = endOr D.Flush.1 (.tuple #[]) ∧ Drummed own p w D.Flush.2 w' := by
  have c0 := h.c0
  have hf := flush_any w p own D hd
  generalize D.Flush = R at *
  obtain ⟨e0, D'⟩ := R
  have HF := hid hf
  clear hf h hd
  by_cases h0 : e0 = 0
  · subst h0
    go_enter Try.func112, Try.ntmps112
    go_wp2_with (first | (go_at_call 52; refine HF.out.mono ?_; rintro e w1 ⟨rfl, hd1⟩; have HD := hid hd1; clear hd1) | (go_at_call 108; refine (unless_ok _ _).mono ?_; rintro e w2 ⟨rfl, rfl⟩))
    ((try simp only [Exit.inBlock, Exit.then]); first | refine bodyPost_end (results_none rfl _ _ _) rfl ?_ | refine bodyPost_ret (results_none rfl _ _ _) rfl ?_)
    exact ⟨rfl, HD.out⟩
  · have hb : (e0 == 0) = false := by simpa using h0
    clear h0
    go_enter Try.func112, Try.ntmps112
    go_wp2_with (first | (go_at_call 52; refine HF.out.mono ?_; rintro e w1 ⟨rfl, hd1⟩; have HD := hid hd1; clear hd1) | (go_at_call 108; refine (unless_no _ _).mono ?_; rintro e w2 ⟨rfl, rfl⟩))
    exact ⟨rfl, endOr_no hb _, HD.out⟩
end Go.Proofs.Ytoaeapnkefjpaaa

namespace Go.Proofs.Ytoaeapnkefjpaaa
open Go.RowKit
set_option linter.unusedVariables false
set_option linter.unusedSimpArgs false

theorem own_sees' {w : World} {base : Nat} {e : TypeId} {v : Value} {l : List UInt8} {n : Nat} (h : w.ownsRow base e 1 v n (l.map B)) (hn : l.length = n) : Sees w v l := own_sees (own_len h hn.symm rfl)
/-- The bytes of a tape's stretch. -/
def TS.bytes (D : DS) (T : TS) : List UInt8 := TS.stretch D T.lo (T.hi - T.lo)
set_option maxRecDepth 100000 in
set_option maxHeartbeats 1600000 in
theorem bytes_on (w : World) (t p : Nat) (own : Nat → Prop) (T : TS) (D : DS) (h : TapeIn w t p D.safe.length T) (hd : DrumAt w p own D) (ho : D.off = false) (a m : Nat) (ha : a + m ≤ T.size) :
    Calls Try.prog 106 #[.pointer (some ⟨t, 0, none⟩), I a, I m] w (Fresh w (((TS.bytes D T).drop a).take m)) := by
  obtain ⟨b1, b2, b3, b4, b5, b6, b7⟩ := h.bd
  have H := hid h
  have HD := hid hd
  have HO := hid ho
  have hlen : (TS.bytes D T).length = T.size := TS.stretch_len hd.ok (by omega)
  have HL := hid hlen
  clear h hd ho b7 hlen
  go_enter Try.func106, Try.ntmps106
  go_wp2
  go_loopw [1, 7] (fun x o wr => ∃ (j k : Nat), j ≤ m ∧ k = a + j ∧ x = I k ∧ Hid (wr.ownsRow w.heap.size 5 1 o j ((((TS.bytes D T).drop a).take j).map B)) ∧ Hid (Below w.heap.size w wr)) (fun x _ _ => a + m - (intOf x).toNat)
  case atStart => exact ⟨0, a, by omega, rfl, rfl, hid (World.ownsRow_nil _ _ _ _), hid (Below.refl _ _)⟩
  case round =>
    obtain ⟨j, k, hj, hk, rfl, hO, hB⟩ := hrel
    obtain ⟨ao, co, rfl⟩ := own_form hO.out
    have HK := hid hk
    by_cases hlt : j < m
    · have hk2 : k < T.size := by omega
      have hkq : k / 256 < T.hi - T.lo := by unfold TS.size at hk2; omega
      have hk3 : k ≤ 1048576 := by omega
      clear hk
      have h := H.out.below hB.out
      have hd := HD.out.below hB.out
      have k0 : ∀ w', Ext wr.drew w' → w'.cell? ⟨t, 0, none⟩ = some (.pointer (some ⟨p, 0, none⟩)) := fun w' hh => hh.cell h.c0
      have k1 : ∀ w', Ext wr.drew w' → w'.cell? ⟨t, 1, none⟩ = some (I T.lo) := fun w' hh => hh.cell h.c1
      have hlo : T.lo + k / 256 < D.safe.length := by omega
      have hlo2 : T.lo ≤ 4096 := by omega
      have hlo3 : k / 256 ≤ 4096 := by omega
      have HDW := hid (hd.below (Ext.drew wr))
      clear h hd
      have hw1 : IntKind.i64.wrap ((k : Int) / 256) = (k : Int) / 256 := IntWalk.i64_in _ (by omega)
      have hw2 : IntKind.i64.wrap ((T.lo : Int) + (k : Int) / 256) = (T.lo : Int) + (k : Int) / 256 := IntWalk.i64_in _ (by omega)
      obtain ⟨pg, hpg⟩ : ∃ pg, pg = DS.look D.safe D.waits (T.lo + k / 256) := ⟨_, rfl⟩
      have hpl : pg.length = 256 := by rw [hpg]; exact DS.look_len HD.out.ok.page HD.out.ok.wait hlo
      have hrd : D.read ((T.lo : Int) + (k : Int) / 256) = (0, pg) := by
        have := DS.read_ok HO.out hlo
        rw [hpg, ← this]
        congr 1
      have HRD := hid hrd
      have HPL := hid hpl
      have HPG := hid hpg
      clear hpl hrd hpg
      go_wp2
      refine wp_region_order Ext [] [(0,0),(1,0),(2,0),(3,0),(4,0),(5,0),(6,0),(7,0),(8,0),(9,0),(10,0),(11,1),(12,0),(13,0),(14,0),(15,0),(16,0)] _ (by kernel_rfl) rfl Ext.refl Ext.trans (by kernel_rfl) (by simp only [pick, List.getElem?_toArray, List.getElem?_cons_zero, List.getElem?_cons_succ]; rfl) (fun c a d v w h => by cases d <;> exact h) ?_
      refine wpK_q (v := ?_) (a' := ?_) (by rfl) (fun w' hR => ?_) ?_ ?_
      rotate_left 2
      · go_simp; with_reducible rfl
      · simp only [Act.put, List.setIfInBounds_toArray, List.set_cons_zero, List.set_cons_succ]; rfl
      refine wpK_q (v := ?_) (a' := ?_) (by rfl) (fun w' hR => ?_) ?_ ?_
      rotate_left 2
      · go_simp; with_reducible rfl
      · simp only [Act.put, List.setIfInBounds_toArray, List.set_cons_zero, List.set_cons_succ]; rfl
      refine wpK_q (v := ?_) (a' := ?_) (by rfl) (fun w' hR => ?_) ?_ ?_
      rotate_left 2
      · go_simp; with_reducible rfl
      · simp only [Act.put, List.setIfInBounds_toArray, List.set_cons_zero, List.set_cons_succ]; rfl
      refine wpK_q (v := ?_) (a' := ?_) (by rfl) (fun w' hR => ?_) ?_ ?_
      rotate_left 2
      · go_simp; with_reducible rfl
      · simp only [Act.put, List.setIfInBounds_toArray, List.set_cons_zero, List.set_cons_succ]; rfl
      refine wpK_q (v := ?_) (a' := ?_) (by rfl) (fun w' hR => ?_) ?_ ?_
      rotate_left 2
      · go_simp; with_reducible rfl
      · simp only [Act.put, List.setIfInBounds_toArray, List.set_cons_zero, List.set_cons_succ]; rfl
      refine wpK_q (v := ?_) (a' := ?_) (by rfl) (fun w' hR => ?_) ?_ ?_
      rotate_left 2
      · go_simp; with_reducible rfl
      · simp only [Act.put, List.setIfInBounds_toArray, List.set_cons_zero, List.set_cons_succ]; rfl
      refine wpK_q (v := ?_) (a' := ?_) (by rfl) (fun w' hR => ?_) ?_ ?_
      rotate_left 2
      · go_simp; with_reducible rfl
      · simp only [Act.put, List.setIfInBounds_toArray, List.set_cons_zero, List.set_cons_succ]; rfl
      refine wpK_q (v := ?_) (a' := ?_) (by rfl) (fun w' hR => ?_) ?_ ?_
      rotate_left 2
      · go_simp; with_reducible rfl
      · simp only [Act.put, List.setIfInBounds_toArray, List.set_cons_zero, List.set_cons_succ]; rfl
      refine wpK_q (v := ?_) (a' := ?_) (by rfl) (fun w' hR => ?_) ?_ ?_
      rotate_left 2
      · go_simp; with_reducible rfl
      · simp only [Act.put, List.setIfInBounds_toArray, List.set_cons_zero, List.set_cons_succ]; rfl
      refine wpK_q (v := ?_) (a' := ?_) (by rfl) (fun w' hR => ?_) ?_ ?_
      rotate_left 2
      · go_simp; with_reducible rfl
      · simp only [Act.put, List.setIfInBounds_toArray, List.set_cons_zero, List.set_cons_succ]; rfl
      refine wpK_q (v := ?_) (a' := ?_) (by rfl) (fun w' hR => ?_) ?_ ?_
      rotate_left 2
      · go_simp; with_reducible rfl
      · simp only [Act.put, List.setIfInBounds_toArray, List.set_cons_zero, List.set_cons_succ]; rfl
      refine wpK_call Try.func58 (by kernel_rfl) rfl rfl (by rfl) #[.pointer (some ⟨p, 0, none⟩), .int .i64 ((T.lo : Int) + (k : Int) / 256)] (by simp only [List.map_toArray, List.map_cons, List.map_nil]; rfl) ?_
      refine (read_any _ p own D _ HDW.out (by omega)).mono ?_
      rw [HRD.out]
      rintro e w5 ⟨v5, rfl, ho5, hb5⟩
      refine ⟨_, rfl, fun _ => hb5, ?_⟩
      refine wpK_q (v := ?_) (a' := ?_) (by rfl) (fun w' hR => ?_) ?_ ?_
      rotate_left 2
      · go_simp; with_reducible rfl
      · simp only [Act.put, List.setIfInBounds_toArray, List.set_cons_zero, List.set_cons_succ]; rfl
      refine wpK_q (v := ?_) (a' := ?_) (by rfl) (fun w' hR => ?_) ?_ ?_
      rotate_left 2
      · go_simp; with_reducible rfl
      · simp only [Act.put, List.setIfInBounds_toArray, List.set_cons_zero, List.set_cons_succ]; rfl
      refine wpK_q (v := ?_) (a' := ?_) (by rfl) (fun w' hR => ?_) ?_ ?_
      rotate_left 2
      · go_simp; with_reducible rfl
      · simp only [Act.put, List.setIfInBounds_toArray, List.set_cons_zero, List.set_cons_succ]; rfl
      refine wpK_q (v := ?_) (a' := ?_) (by rfl) (fun w' hR => ?_) ?_ ?_
      rotate_left 2
      · go_simp; with_reducible rfl
      · simp only [Act.put, List.setIfInBounds_toArray, List.set_cons_zero, List.set_cons_succ]; rfl
      refine wpK_q (v := ?_) (a' := ?_) (by rfl) (fun w' hR => ?_) ?_ ?_
      rotate_left 2
      · go_simp; with_reducible rfl
      · simp only [Act.put, List.setIfInBounds_toArray, List.set_cons_zero, List.set_cons_succ]; rfl
      refine wpK_done ?_
      clear k0 k1 hw1 hw2
      rw [HPL.out] at ho5
      obtain ⟨g, cap, rfl, g1, g2, g3, g4⟩ := own_slice ho5 (by omega)
      unfold maxLen at g2
      have hb5' : Below w.heap.size w w5 := hB.out.trans ((Ext.trans _ _ _ (Ext.drew wr) hb5).mono hB.out.size)
      have hO5 : w5.ownsRow w.heap.size 5 1 (.slice ao j co) j ((((TS.bytes D T).drop a).take j).map B) := own_below hO.out (Ext.trans _ _ _ (Ext.drew wr) hb5)
      have S5 : Sees w5 (.slice (some ⟨g, 0, none⟩) 256 cap) pg := own_sees' ho5 HPL.out
      have HB5 := hid hb5'
      have HO5 := hid hO5
      have HS5 := hid S5
      clear hb5 hb5' hO5 S5 ho5 hO hB
      obtain ⟨o, hoo⟩ : ∃ o : Nat, o = k % 256 := ⟨_, rfl⟩
      have ho256 : o < 256 := by omega
      obtain ⟨n1, hn1⟩ : ∃ n1 : Nat, n1 = 256 - o := ⟨_, rfl⟩
      obtain ⟨q, hq⟩ : ∃ q : Nat, q = min n1 (m - j) := ⟨_, rfl⟩
      have hq1 : q ≤ n1 ∧ q ≤ m - j ∧ 0 < q := by omega
      have hS1 := HS5.out.sl (lo := o) (hi := 256) (by omega) (by omega)
      have e5 := fun w' => run_sl_from (some ⟨g, 0, none⟩) 256 cap o (by omega) w'
      obtain ⟨a1, c1, hsl⟩ : ∃ a1 c1, sl (some ⟨g, 0, none⟩) cap o 256 = .slice a1 n1 c1 := ⟨_, _, by rw [hn1]; rfl⟩
      rw [hsl] at hS1 e5
      have hc1 : n1 ≤ c1 ∧ c1 ≤ 9223372036854775807 := by
        simp only [sl, Value.slice.injEq] at hsl
        omega
      have hS2 := hS1.sl (lo := 0) (hi := q) (by omega) (by omega)
      have e6 := fun w' => run_sl_to a1 n1 c1 q (by omega) w'
      obtain ⟨a2, c2, hsl2⟩ : ∃ a2 c2, sl a1 c1 0 q = .slice a2 q c2 := ⟨_, _, rfl⟩
      rw [hsl2] at hS2 e6
      have hc2 : c2 ≤ 9223372036854775807 := by
        simp only [sl, Value.slice.injEq] at hsl2
        omega
      have km : ∀ (ats : Array TypeId) (ty : TypeId) (w : World), (Builtin.min_ ats ty #[.int .i64 (n1 : Int), .int .i64 ((m : Int) - (j : Int))]).run Try.prog w = .ok (.int .i64 q) w := fun ats ty w => by
        have := run_min (P := Try.prog) ats ty n1 ((m : Int) - (j : Int)) w
        rw [this]
        congr 2
        omega
      have hmod : (k : Int) % 256 = (o : Int) := by omega
      rw [← hmod] at e5
      obtain ⟨pc, hpc⟩ : ∃ pc, pc = ((((pg.take 256).drop o).take q).drop 0) := ⟨_, rfl⟩
      rw [← hpc] at hS2
      have hpcl : pc.length = q := by
        have := HPL.out
        rw [hpc]
        simp only [List.drop_zero, List.length_take, List.length_drop]
        omega
      have hpiece : (((TS.bytes D T).drop a).take j) ++ pc = ((TS.bytes D T).drop a).take (j + q) := by
        have e1 := TS.stretch_piece HD.out.ok (lo := T.lo) (n := T.hi - T.lo) (by omega) (a := k) (m := q) hkq (by omega)
        have e0 : pg.take 256 = pg := List.take_of_length_le (by rw [HPL.out]; exact Nat.le_refl _)
        rw [hpc, List.drop_zero, e0, HPG.out, hoo, ← e1]
        show _ ++ List.take q (List.drop k (TS.bytes D T)) = _
        rw [List.take_add, List.drop_drop]
        congr 3
      obtain ⟨X, hX⟩ : ∃ X, X = ((TS.bytes D T).drop a).take j := ⟨_, rfl⟩
      obtain ⟨Y, hY⟩ : ∃ Y, Y = ((TS.bytes D T).drop a).take (j + q) := ⟨_, rfl⟩
      rw [← hX, ← hY] at hpiece
      rw [← hX] at HO5
      have HY := hid hY
      have HPC := hid hpiece
      have HQ := hid hq1
      have HS2 := hid hS2
      have HPCL := hid hpcl
      have hkq3 : k + q ≤ 1048576 := by have := HK.out; omega
      clear hX hY hpiece hpc hsl hsl2 hS1 hS2 hn1 hq hoo hmod hpcl hq1
      go_wp2_with (first | (go_at_call 108; refine (unless_ok _ _).mono ?_; rintro e w6 ⟨rfl, rfl⟩) | (at_builtin; refine wpList_app rfl (.tmp 47) (.tmp 48) 23 rfl w.heap.size 5 (.int .u8 0) 1 1 Try.underlying23 info5 rfl (by decide) j (X.map B) q (pc.map B) HO5.out ?src ?h63 ?hb HB5.out.size ?_))
      case src => have := HS2.out.src; rw [HPCL.out] at this; exact this
      case h63 => have := HQ.out; unfold maxLen; omega
      case hb => have := HQ.out; omega
      intro v7 w7 hown hgrow hat
      rw [← List.map_append, HPC.out, HY.out] at hown
      have hb7 : Below w.heap.size w w7 := HB5.out.grown hgrow HB5.out.size (fun i hi => (own_lt HO5.out i hi).1)
      obtain ⟨ao7, co7, rfl⟩ := own_form hown
      have HO7 := hid hown
      have HB7 := hid hb7
      clear hown hgrow hat hb7 e5 e6 km
      go_wp2
      go_roundw
      case rel => exact ⟨j + q, k + q, by have := HQ.out; omega, by have := HK.out; omega, by go_num, HO7, HB7⟩
      case measure => have := HQ.out; have := HK.out; simp [intOf]; omega
    · obtain rfl : j = m := by omega
      go_wp2
      go_ret
      have hl : (((TS.bytes D T).drop a).take j).length = j := by rw [List.length_take, List.length_drop, HL.out]; omega
      exact ⟨_, rfl, own_len hO.out hl.symm rfl, hB.out⟩
set_option maxRecDepth 100000 in
set_option maxHeartbeats 800000 in
theorem bytes_down (w : World) (t p : Nat) (own : Nat → Prop) (T : TS) (D : DS) (h : TapeIn w t p D.safe.length T) (hd : DrumAt w p own D) (ho : D.off = true) (k m : Nat) (hk2 : k < T.size) (hm : 0 < m) (hm2 : m ≤ 1048576) :
    Calls Try.prog 106 #[.pointer (some ⟨t, 0, none⟩), I k, I m] w fun e w' => e = .panicked (gaveUp 20) ∧ Below w.heap.size w w' := by
  obtain ⟨b1, b2, b3, b4, b5, b6, b7⟩ := h.bd
  have k0 : ∀ w', Ext w.drew w' → w'.cell? ⟨t, 0, none⟩ = some (.pointer (some ⟨p, 0, none⟩)) := fun w' hh => hh.cell h.c0
  have k1 : ∀ w', Ext w.drew w' → w'.cell? ⟨t, 1, none⟩ = some (I T.lo) := fun w' hh => hh.cell h.c1
  have HDW := hid (hd.below (Ext.drew w))
  have hkq : k / 256 < T.hi - T.lo := by unfold TS.size at hk2; omega
  have hlo : T.lo + k / 256 < D.safe.length := by omega
  have hrd : D.read ((T.lo : Int) + (k : Int) / 256) = (20, []) := by
    unfold DS.read
    rw [if_neg (by omega), if_pos ho]
  have HRD := hid hrd
  have hw1 : IntKind.i64.wrap ((k : Int) / 256) = (k : Int) / 256 := IntWalk.i64_in _ (by omega)
  have hw2 : IntKind.i64.wrap ((T.lo : Int) + (k : Int) / 256) = (T.lo : Int) + (k : Int) / 256 := IntWalk.i64_in _ (by omega)
  clear h hd ho b7 hrd
  go_enter Try.func106, Try.ntmps106
  go_wp2
  refine wp_loop_rounds 1 ?_
  rw [rounds_succ]
  go_wp2
  refine wp_region_order Ext [] [(0,0),(1,0),(2,0),(3,0),(4,0),(5,0),(6,0),(7,0),(8,0),(9,0),(10,0),(11,1),(12,0),(13,0),(14,0),(15,0),(16,0)] _ (by kernel_rfl) rfl Ext.refl Ext.trans (by kernel_rfl) (by simp only [pick, List.getElem?_toArray, List.getElem?_cons_zero, List.getElem?_cons_succ]; rfl) (fun c a d v w h => by cases d <;> exact h) ?_
  refine wpK_q (v := ?_) (a' := ?_) (by rfl) (fun w' hR => ?_) ?_ ?_
  rotate_left 2
  · go_simp; with_reducible rfl
  · simp only [Act.put, List.setIfInBounds_toArray, List.set_cons_zero, List.set_cons_succ]; rfl
  refine wpK_q (v := ?_) (a' := ?_) (by rfl) (fun w' hR => ?_) ?_ ?_
  rotate_left 2
  · go_simp; with_reducible rfl
  · simp only [Act.put, List.setIfInBounds_toArray, List.set_cons_zero, List.set_cons_succ]; rfl
  refine wpK_q (v := ?_) (a' := ?_) (by rfl) (fun w' hR => ?_) ?_ ?_
  rotate_left 2
  · go_simp; with_reducible rfl
  · simp only [Act.put, List.setIfInBounds_toArray, List.set_cons_zero, List.set_cons_succ]; rfl
  refine wpK_q (v := ?_) (a' := ?_) (by rfl) (fun w' hR => ?_) ?_ ?_
  rotate_left 2
  · go_simp; with_reducible rfl
  · simp only [Act.put, List.setIfInBounds_toArray, List.set_cons_zero, List.set_cons_succ]; rfl
  refine wpK_q (v := ?_) (a' := ?_) (by rfl) (fun w' hR => ?_) ?_ ?_
  rotate_left 2
  · go_simp; with_reducible rfl
  · simp only [Act.put, List.setIfInBounds_toArray, List.set_cons_zero, List.set_cons_succ]; rfl
  refine wpK_q (v := ?_) (a' := ?_) (by rfl) (fun w' hR => ?_) ?_ ?_
  rotate_left 2
  · go_simp; with_reducible rfl
  · simp only [Act.put, List.setIfInBounds_toArray, List.set_cons_zero, List.set_cons_succ]; rfl
  refine wpK_q (v := ?_) (a' := ?_) (by rfl) (fun w' hR => ?_) ?_ ?_
  rotate_left 2
  · go_simp; with_reducible rfl
  · simp only [Act.put, List.setIfInBounds_toArray, List.set_cons_zero, List.set_cons_succ]; rfl
  refine wpK_q (v := ?_) (a' := ?_) (by rfl) (fun w' hR => ?_) ?_ ?_
  rotate_left 2
  · go_simp; with_reducible rfl
  · simp only [Act.put, List.setIfInBounds_toArray, List.set_cons_zero, List.set_cons_succ]; rfl
  refine wpK_q (v := ?_) (a' := ?_) (by rfl) (fun w' hR => ?_) ?_ ?_
  rotate_left 2
  · go_simp; with_reducible rfl
  · simp only [Act.put, List.setIfInBounds_toArray, List.set_cons_zero, List.set_cons_succ]; rfl
  refine wpK_q (v := ?_) (a' := ?_) (by rfl) (fun w' hR => ?_) ?_ ?_
  rotate_left 2
  · go_simp; with_reducible rfl
  · simp only [Act.put, List.setIfInBounds_toArray, List.set_cons_zero, List.set_cons_succ]; rfl
  refine wpK_q (v := ?_) (a' := ?_) (by rfl) (fun w' hR => ?_) ?_ ?_
  rotate_left 2
  · go_simp; with_reducible rfl
  · simp only [Act.put, List.setIfInBounds_toArray, List.set_cons_zero, List.set_cons_succ]; rfl
  refine wpK_call Try.func58 (by kernel_rfl) rfl rfl (by rfl) #[.pointer (some ⟨p, 0, none⟩), .int .i64 ((T.lo : Int) + (k : Int) / 256)] (by simp only [List.map_toArray, List.map_cons, List.map_nil]; rfl) ?_
  refine (read_any _ p own D _ HDW.out (by omega)).mono ?_
  rw [HRD.out]
  rintro e w5 ⟨v5, rfl, ho5, hb5⟩
  refine ⟨_, rfl, fun _ => hb5, ?_⟩
  refine wpK_q (v := ?_) (a' := ?_) (by rfl) (fun w' hR => ?_) ?_ ?_
  rotate_left 2
  · go_simp; with_reducible rfl
  · simp only [Act.put, List.setIfInBounds_toArray, List.set_cons_zero, List.set_cons_succ]; rfl
  refine wpK_q (v := ?_) (a' := ?_) (by rfl) (fun w' hR => ?_) ?_ ?_
  rotate_left 2
  · go_simp; with_reducible rfl
  · simp only [Act.put, List.setIfInBounds_toArray, List.set_cons_zero, List.set_cons_succ]; rfl
  refine wpK_q (v := ?_) (a' := ?_) (by rfl) (fun w' hR => ?_) ?_ ?_
  rotate_left 2
  · go_simp; with_reducible rfl
  · simp only [Act.put, List.setIfInBounds_toArray, List.set_cons_zero, List.set_cons_succ]; rfl
  refine wpK_q (v := ?_) (a' := ?_) (by rfl) (fun w' hR => ?_) ?_ ?_
  rotate_left 2
  · go_simp; with_reducible rfl
  · simp only [Act.put, List.setIfInBounds_toArray, List.set_cons_zero, List.set_cons_succ]; rfl
  refine wpK_q (v := ?_) (a' := ?_) (by rfl) (fun w' hR => ?_) ?_ ?_
  rotate_left 2
  · go_simp; with_reducible rfl
  · simp only [Act.put, List.setIfInBounds_toArray, List.set_cons_zero, List.set_cons_succ]; rfl
  refine wpK_done ?_
  have HB5 := hid (Ext.trans _ _ _ (Ext.drew w) hb5)
  clear k0 k1 hw1 hw2 ho5 hb5
  go_wp2_with (go_at_call 108; refine (unless_no _ _).mono ?_; rintro e w6 ⟨rfl, rfl⟩)
  exact ⟨rfl, rfl, HB5.out⟩
end Go.Proofs.Ytoaeapnkefjpaaa

namespace Go.Proofs.Ytoaeapnkefjpaaa
open Go.RowKit
set_option linter.unusedVariables false
set_option linter.unusedSimpArgs false

/-- A call that panics. -/
theorem wpK_callp {P : Program} {ops : Array Oper} {Q : Exit → Act → World → Prop} {R : World → World → Prop} {o : Oper} {rest : List (Oper × Nat)} {a : Act} {w : World} {k : Nat} {f : FuncId} {fn : Func} (hf : P.funcs[f]? = some fn) (hname : (fn.name == "runtime.NumGoroutine") = false) (hb : fn.body.isSome = true) {xs : Array Operand} {ts : Array TypeId} (hop : o.op = .call { callee := .value (.func f), args := xs, argTypes := ts })
    (hw : Region.wanted o (yielded ops a.tmps) = true) (args : Array Value) (hargs : xs.map a.eval = args)
    (h : Calls P f args w fun e w' => ∃ chain, e = .panicked chain ∧ Q (.panic chain) a w') : wpK P ops Q R ((o, k + 1) :: rest) a w := by
  unfold wpK
  rw [if_pos hw]
  have he := enters hf hname hb args w
  have hrun : (execOp a.eval o).run P w = .ok (.enter f args) w := by
    unfold execOp
    simp [hop, resolve, Deferred.ofValue, invoke, Act.eval, hargs, he]
  unfold Oper.wp
  rw [hrun, Oper.upon_enter]
  refine h.mono fun e w'' hh => ?_
  obtain ⟨chain, rfl, hk⟩ := hh
  exact hk
theorem getD_drop_take (S : List UInt8) (a : Nat) (h : a + 12 ≤ S.length) : ((S.drop a).take 12)[0]? = some (S.getD a 0) := by
  rw [List.getElem?_take, if_pos (by omega), List.getElem?_drop, Nat.add_zero, List.getElem?_eq_getElem (by omega), List.getD_eq_getElem?_getD, List.getElem?_eq_getElem (by omega)]
  rfl
theorem below_drewN (w : World) (n : Nat) : Below w.heap.size w (w.drewN n) := ⟨rfl, rfl, rfl, Nat.le_refl _, fun _ _ => rfl⟩
/-- What 'next' comes to. -/
def Nexted (w : World) (t p n : Nat) (T : TS) (F : TS.Found) (e : Ending) (w' : World) : Prop :=
  match F with
  | .no => e = .returned (.tuple #[.slice none 0 0, .bool false]) ∧ Below w.heap.size w w'
  | .bad c => e = .panicked (gaveUp c) ∧ Below w.heap.size w w'
  | .yes r => ∃ v, e = .returned (.tuple #[v, .bool true]) ∧ w'.ownsRow w.heap.size 5 1 v r.length (r.map B) ∧ TapeIn w' t p n { T with pos := T.pos + 12 + r.length, count := T.count + 1 } ∧ Mod (fun k => k = t) w w'
set_option maxRecDepth 100000 in
set_option maxHeartbeats 1600000 in
theorem next_any (w : World) (t p : Nat) (own : Nat → Prop) (T : TS) (D : DS) (h : TapeIn w t p D.safe.length T) (hd : DrumAt w p own D) (ho : D.off = false) :
    Calls Try.prog 97 #[.pointer (some ⟨t, 0, none⟩)] w (Nexted w t p D.safe.length T (TS.found (TS.bytes D T) T.pos T.count)) := by
  obtain ⟨b1, b2, b3, b4, b5, b6, b7⟩ := h.bd
  have h0t := h.lt
  have H := hid h
  have HD := hid hd
  have HO := hid ho
  have hlen : (TS.bytes D T).length = T.size := TS.stretch_len hd.ok (by omega)
  have HL := hid hlen
  have c3 := h.c3
  have hs1 : IntKind.i64.wrap ((T.size : Int) - (T.pos : Int)) = (T.size : Int) - (T.pos : Int) := IntWalk.i64_in _ (by omega)
  clear h hd ho b7 hlen
  obtain ⟨F, hF⟩ : ∃ F, F = TS.found (TS.bytes D T) T.pos T.count := ⟨_, rfl⟩
  rw [← hF]
  have HF := hid hF
  clear hF
  by_cases hA : T.size < T.pos + 12
  · have HN : Hid (F = .no) := hid (by
      rw [HF.out]
      unfold TS.found
      rw [if_pos (by rw [HL.out]; exact hA)])
    have hA' : decide ((T.size : Int) - (T.pos : Int) < 12) = true := decide_eq_true (by omega)
    go_enter Try.func97, Try.ntmps97
    go_wp2
    go_quiet ((go_at_call 98; exact Calls.quiet_of (size_any _ t p _ T (H.out.keep rfl))))
    go_wp2
    go_ret2
    rw [HN.out]
    exact ⟨rfl, below_drewN _ _⟩
  have hA' : decide ((T.size : Int) - (T.pos : Int) < 12) = false := decide_eq_false (by omega)
  have h0 := getD_drop_take (TS.bytes D T) T.pos (by rw [HL.out]; omega)
  obtain ⟨c, hc⟩ : ∃ c, c = (TS.bytes D T).getD T.pos 0 := ⟨_, rfl⟩
  rw [← hc] at h0
  have H0 := hid h0
  have HC := hid hc
  clear h0 hc
  go_enter Try.func97, Try.ntmps97
  go_wp2
  go_quiet ((go_at_call 98; exact Calls.quiet_of (size_any _ t p _ T (H.out.keep rfl))))
  clear hs1
  have HW : Hid (TapeIn (w.drewN nq) t p D.safe.length T) := hid (H.out.keep rfl)
  have HDW : Hid (DrumAt (w.drewN nq) p own D) := hid (HD.out.below ⟨rfl, rfl, rfl, Nat.le_refl _, fun _ _ => rfl⟩)
  have hb12 := bytes_on (w.drewN nq) t p own T D HW.out HDW.out HO.out T.pos 12 (by omega)
  have c3' : (w.drewN nq).cell? ⟨t, 3, none⟩ = some (I T.pos) := c3
  have HBEL := hid (below_drewN w nq)
  have HZZ := hid (show (w.drewN nq).heap.size = w.heap.size from rfl)
  generalize w.drewN nq = w1 at *
  have HB12 := hid hb12
  clear hb12 c3 H HD
  by_cases hB : c = 0
  · have HN : Hid (F = .no) := hid (by
      rw [HF.out]
      unfold TS.found
      rw [if_neg (by rw [HL.out]; exact hA), if_pos (by rw [← HC.out]; exact hB)])
    have hc0 : ((c.toNat : Int) == 0) = true := by rw [hB]; rfl
    have H0' := H0
    clear HC H0
    go_wp2_with (go_at_call 106; refine HB12.out.mono ?_; rintro e w5 ⟨v, rfl, ho5, hb5⟩; have hl12 : (List.take 12 (List.drop T.pos (TS.bytes D T))).length = 12 := (by rw [List.length_take, List.length_drop, HL.out]; omega); rw [hl12] at ho5; obtain ⟨g, cap, rfl, g1, g2, g3, g4⟩ := own_slice ho5 (by omega); have hcell := own_cell ho5 (i := 0) (u := B c) (by rw [List.getElem?_map, H0'.out]; rfl); have HB5 := hid hb5; clear ho5 hb5 hl12)
    go_ret2
    rw [HN.out]
    exact ⟨rfl, HBEL.out.trans (HB5.out.mono (by rw [HZZ.out]; exact Nat.le_refl _))⟩
  have hc0 : ((c.toNat : Int) == 0) = false := by
    rw [beq_eq_false_iff_ne]
    intro e
    apply hB
    have : c.toNat = 0 := by omega
    exact UInt8.toNat_inj.1 this
  have hk1 : T.pos + 12 ≤ T.size := by omega
  obtain ⟨n0, hn0⟩ : ∃ n0, n0 = TS.lenAt (TS.bytes D T) T.pos := ⟨_, rfl⟩
  have hn0b : n0 < 16777216 := by rw [hn0]; exact TS.lenAt_lt _ _
  have HN0 := hid hn0
  clear hn0
  go_wp2_with (first | (go_at_call 106; refine HB12.out.mono ?_; rintro e w5 ⟨v, rfl, ho5, hb5⟩; have hl12 : (List.take 12 (List.drop T.pos (TS.bytes D T))).length = 12 := (by rw [List.length_take, List.length_drop, HL.out]; omega); rw [hl12] at ho5; obtain ⟨g, cap, rfl, g1, g2, g3, g4⟩ := own_slice ho5 (by omega); unfold maxLen at g2; have hcell := own_cell ho5 (i := 0) (u := B c) (by rw [List.getElem?_map, H0.out]; rfl); have HB5 := hid hb5; have HS5 := hid (own_sees' ho5 hl12); have S4 := HS5.out.sl (lo := 1) (hi := 4) (by omega) (by omega); have hs4 : sl (some ⟨g, 0, none⟩) cap 1 4 = .slice (some ⟨g, 1, none⟩) 3 (cap - 1) := (by unfold sl; rw [if_neg (by omega)]; rfl); rw [hs4] at S4; have HS4 := hid S4; clear ho5 hb5 hl12 hs4 S4 HB12))
  have hl3 : (((List.take 12 (List.drop T.pos (TS.bytes D T))).take 4).drop 1) = ((TS.bytes D T).drop (T.pos + 1)).take 3 := by
    rw [List.take_take, List.drop_take, List.drop_drop]
    rfl
  have hnum : Sum.num (((List.take 12 (List.drop T.pos (TS.bytes D T))).take 4).drop 1) = (n0 : Int) := by
    rw [hl3, HN0.out]
    unfold TS.lenAt
    have := (Sum.num_range ((TS.bytes D T).drop (T.pos + 1) |>.take 3)).1
    omega
  have hl3' : (((List.take 12 (List.drop T.pos (TS.bytes D T))).take 4).drop 1).length ≤ 6 := by
    rw [hl3]; have := List.length_take_le 3 ((TS.bytes D T).drop (T.pos + 1)); omega
  have hnn := number_any w5 _ _ HS4.out hl3'
  rw [hnum] at hnn
  refine hnn.mono ?_
  rintro e w6 ⟨rfl, rfl⟩
  clear hl3 hnum hl3' hnn
  have HWt := hid (HW.out.below HB5.out)
  have HDt := hid (HDW.out.below HB5.out)
  have k0 : ∀ w', Ext w5.drew w' → w'.cell? ⟨g, 0, none⟩ = some (B c) := fun w' hh => hh.cell hcell
  have k3 : ∀ w', Ext w5.drew w' → w'.cell? ⟨t, 3, none⟩ = some (I T.pos) := fun w' hh => hh.cell HWt.out.c3
  have hs1 : IntKind.i64.wrap ((T.size : Int) - (T.pos : Int)) = (T.size : Int) - (T.pos : Int) := IntWalk.i64_in _ (by omega)
  have hs2 : IntKind.i64.wrap ((T.size : Int) - (T.pos : Int) - 12) = (T.size : Int) - (T.pos : Int) - 12 := IntWalk.i64_in _ (by omega)
  have HBel : Hid (Below w.heap.size w w5) := hid (HBEL.out.trans (HB5.out.mono (by rw [HZZ.out]; exact Nat.le_refl _)))
  by_cases hC : c = 1
  rotate_left
  · have HN : Hid (F = .bad 11) := hid (by
      rw [HF.out]
      unfold TS.found
      rw [if_neg (by rw [HL.out]; exact hA), if_neg (by rw [← HC.out]; exact hB), if_neg (by rw [← HC.out]; exact fun hh => hC hh.1)])
    have hc1 : ((c.toNat : Int) == 1) = false := by
      rw [beq_eq_false_iff_ne]
      intro e
      apply hC
      have : c.toNat = 1 := by omega
      exact UInt8.toNat_inj.1 this
    clear hC hB hc0
    go_wp2
    refine wp_region_order Ext [] [(0,0),(1,0),(2,0),(3,0),(4,0),(5,0),(6,0),(7,0),(8,0),(9,0),(10,0),(12,0),(13,0),(14,0),(15,0),(11,1),(16,0),(17,0),(18,0),(19,0),(20,1)] _ (by kernel_rfl) rfl Ext.refl Ext.trans (by kernel_rfl) (by simp only [pick, List.getElem?_toArray, List.getElem?_cons_zero, List.getElem?_cons_succ]; rfl) (fun c a d v w h => by cases d <;> exact h) ?_
    refine wpK_q (v := ?_) (a' := ?_) (by rfl) (fun w' hR => ?_) ?_ ?_
    rotate_left 2
    · go_simp; with_reducible rfl
    · simp only [Act.put, List.setIfInBounds_toArray, List.set_cons_zero, List.set_cons_succ]; rfl
    refine wpK_q (v := ?_) (a' := ?_) (by rfl) (fun w' hR => ?_) ?_ ?_
    rotate_left 2
    · go_simp; with_reducible rfl
    · simp only [Act.put, List.setIfInBounds_toArray, List.set_cons_zero, List.set_cons_succ]; rfl
    refine wpK_q (v := ?_) (a' := ?_) (by rfl) (fun w' hR => ?_) ?_ ?_
    rotate_left 2
    · go_simp; with_reducible rfl
    · simp only [Act.put, List.setIfInBounds_toArray, List.set_cons_zero, List.set_cons_succ]; rfl
    refine wpK_q (v := ?_) (a' := ?_) (by rfl) (fun w' hR => ?_) ?_ ?_
    rotate_left 2
    · go_simp; with_reducible rfl
    · simp only [Act.put, List.setIfInBounds_toArray, List.set_cons_zero, List.set_cons_succ]; rfl
    refine wpK_q (v := ?_) (a' := ?_) (by rfl) (fun w' hR => ?_) ?_ ?_
    rotate_left 2
    · go_simp; with_reducible rfl
    · simp only [Act.put, List.setIfInBounds_toArray, List.set_cons_zero, List.set_cons_succ]; rfl
    refine wpK_off (a' := ?_) (by rfl) ?_ ?_
    rotate_left
    · simp only [Act.put, List.setIfInBounds_toArray, List.set_cons_zero, List.set_cons_succ]; rfl
    refine wpK_off (a' := ?_) (by rfl) ?_ ?_
    rotate_left
    · simp only [Act.put, List.setIfInBounds_toArray, List.set_cons_zero, List.set_cons_succ]; rfl
    refine wpK_q (v := ?_) (a' := ?_) (by rfl) (fun w' hR => ?_) ?_ ?_
    rotate_left 2
    · go_simp; with_reducible rfl
    · simp only [Act.put, List.setIfInBounds_toArray, List.set_cons_zero, List.set_cons_succ]; rfl
    refine wpK_q (v := ?_) (a' := ?_) (by rfl) (fun w' hR => ?_) ?_ ?_
    rotate_left 2
    · go_simp; with_reducible rfl
    · simp only [Act.put, List.setIfInBounds_toArray, List.set_cons_zero, List.set_cons_succ]; rfl
    refine wpK_off (a' := ?_) (by rfl) ?_ ?_
    rotate_left
    · simp only [Act.put, List.setIfInBounds_toArray, List.set_cons_zero, List.set_cons_succ]; rfl
    refine wpK_off (a' := ?_) (by rfl) ?_ ?_
    rotate_left
    · simp only [Act.put, List.setIfInBounds_toArray, List.set_cons_zero, List.set_cons_succ]; rfl
    refine wpK_off (a' := ?_) (by rfl) ?_ ?_
    rotate_left
    · simp only [Act.put, List.setIfInBounds_toArray, List.set_cons_zero, List.set_cons_succ]; rfl
    refine wpK_off (a' := ?_) (by rfl) ?_ ?_
    rotate_left
    · simp only [Act.put, List.setIfInBounds_toArray, List.set_cons_zero, List.set_cons_succ]; rfl
    refine wpK_off (a' := ?_) (by rfl) ?_ ?_
    rotate_left
    · simp only [Act.put, List.setIfInBounds_toArray, List.set_cons_zero, List.set_cons_succ]; rfl
    refine wpK_off (a' := ?_) (by rfl) ?_ ?_
    rotate_left
    · simp only [Act.put, List.setIfInBounds_toArray, List.set_cons_zero, List.set_cons_succ]; rfl
    refine wpK_off (a' := ?_) (by rfl) ?_ ?_
    rotate_left
    · simp only [Act.put, List.setIfInBounds_toArray, List.set_cons_zero, List.set_cons_succ]; rfl
    refine wpK_off (a' := ?_) (by rfl) ?_ ?_
    rotate_left
    · simp only [Act.put, List.setIfInBounds_toArray, List.set_cons_zero, List.set_cons_succ]; rfl
    refine wpK_off (a' := ?_) (by rfl) ?_ ?_
    rotate_left
    · simp only [Act.put, List.setIfInBounds_toArray, List.set_cons_zero, List.set_cons_succ]; rfl
    refine wpK_off (a' := ?_) (by rfl) ?_ ?_
    rotate_left
    · simp only [Act.put, List.setIfInBounds_toArray, List.set_cons_zero, List.set_cons_succ]; rfl
    refine wpK_q (v := ?_) (a' := ?_) (by rfl) (fun w' hR => ?_) ?_ ?_
    rotate_left 2
    · go_simp; with_reducible rfl
    · simp only [Act.put, List.setIfInBounds_toArray, List.set_cons_zero, List.set_cons_succ]; rfl
    refine wpK_callp Try.func108 (by kernel_rfl) rfl rfl (by rfl) #[.bool false, I 11] (by simp only [List.map_toArray, List.map_cons, List.map_nil]; rfl) ?_
    refine (unless_no 11 _).mono ?_
    rintro e w7 ⟨rfl, rfl⟩
    refine ⟨_, rfl, ?_⟩
    refine And.intro rfl ?_
    rw [HN.out]
    exact ⟨rfl, Ext.trans _ _ _ HBel.out (Ext.drew w5)⟩
  have hc1 : ((c.toNat : Int) == 1) = true := by rw [hC]; rfl
  by_cases hE : 65536 < n0
  · have HN : Hid (F = .bad 11) := hid (by
      rw [HF.out]
      unfold TS.found
      rw [if_neg (by rw [HL.out]; exact hA), if_neg (by rw [← HC.out]; exact hB), if_neg (by rw [← HN0.out]; omega)])
    have hd1 : decide ((n0 : Int) ≤ 65536) = false := decide_eq_false (by omega)
    clear hC hB hc0
    go_wp2
    refine wp_region_order Ext [] [(0,0),(1,0),(2,0),(3,0),(4,0),(5,0),(6,0),(7,0),(8,0),(9,0),(10,0),(12,0),(13,0),(14,0),(15,0),(11,1),(16,0),(17,0),(18,0),(19,0),(20,1)] _ (by kernel_rfl) rfl Ext.refl Ext.trans (by kernel_rfl) (by simp only [pick, List.getElem?_toArray, List.getElem?_cons_zero, List.getElem?_cons_succ]; rfl) (fun c a d v w h => by cases d <;> exact h) ?_
    refine wpK_q (v := ?_) (a' := ?_) (by rfl) (fun w' hR => ?_) ?_ ?_
    rotate_left 2
    · go_simp; with_reducible rfl
    · simp only [Act.put, List.setIfInBounds_toArray, List.set_cons_zero, List.set_cons_succ]; rfl
    refine wpK_q (v := ?_) (a' := ?_) (by rfl) (fun w' hR => ?_) ?_ ?_
    rotate_left 2
    · go_simp; with_reducible rfl
    · simp only [Act.put, List.setIfInBounds_toArray, List.set_cons_zero, List.set_cons_succ]; rfl
    refine wpK_q (v := ?_) (a' := ?_) (by rfl) (fun w' hR => ?_) ?_ ?_
    rotate_left 2
    · go_simp; with_reducible rfl
    · simp only [Act.put, List.setIfInBounds_toArray, List.set_cons_zero, List.set_cons_succ]; rfl
    refine wpK_q (v := ?_) (a' := ?_) (by rfl) (fun w' hR => ?_) ?_ ?_
    rotate_left 2
    · go_simp; with_reducible rfl
    · simp only [Act.put, List.setIfInBounds_toArray, List.set_cons_zero, List.set_cons_succ]; rfl
    refine wpK_q (v := ?_) (a' := ?_) (by rfl) (fun w' hR => ?_) ?_ ?_
    rotate_left 2
    · go_simp; with_reducible rfl
    · simp only [Act.put, List.setIfInBounds_toArray, List.set_cons_zero, List.set_cons_succ]; rfl
    refine wpK_q (v := ?_) (a' := ?_) (by rfl) (fun w' hR => ?_) ?_ ?_
    rotate_left 2
    · go_simp; with_reducible rfl
    · simp only [Act.put, List.setIfInBounds_toArray, List.set_cons_zero, List.set_cons_succ]; rfl
    refine wpK_q (v := ?_) (a' := ?_) (by rfl) (fun w' hR => ?_) ?_ ?_
    rotate_left 2
    · go_simp; with_reducible rfl
    · simp only [Act.put, List.setIfInBounds_toArray, List.set_cons_zero, List.set_cons_succ]; rfl
    refine wpK_q (v := ?_) (a' := ?_) (by rfl) (fun w' hR => ?_) ?_ ?_
    rotate_left 2
    · go_simp; with_reducible rfl
    · simp only [Act.put, List.setIfInBounds_toArray, List.set_cons_zero, List.set_cons_succ]; rfl
    refine wpK_q (v := ?_) (a' := ?_) (by rfl) (fun w' hR => ?_) ?_ ?_
    rotate_left 2
    · go_simp; with_reducible rfl
    · simp only [Act.put, List.setIfInBounds_toArray, List.set_cons_zero, List.set_cons_succ]; rfl
    refine wpK_off (a' := ?_) (by rfl) ?_ ?_
    rotate_left
    · simp only [Act.put, List.setIfInBounds_toArray, List.set_cons_zero, List.set_cons_succ]; rfl
    refine wpK_off (a' := ?_) (by rfl) ?_ ?_
    rotate_left
    · simp only [Act.put, List.setIfInBounds_toArray, List.set_cons_zero, List.set_cons_succ]; rfl
    refine wpK_off (a' := ?_) (by rfl) ?_ ?_
    rotate_left
    · simp only [Act.put, List.setIfInBounds_toArray, List.set_cons_zero, List.set_cons_succ]; rfl
    refine wpK_off (a' := ?_) (by rfl) ?_ ?_
    rotate_left
    · simp only [Act.put, List.setIfInBounds_toArray, List.set_cons_zero, List.set_cons_succ]; rfl
    refine wpK_off (a' := ?_) (by rfl) ?_ ?_
    rotate_left
    · simp only [Act.put, List.setIfInBounds_toArray, List.set_cons_zero, List.set_cons_succ]; rfl
    refine wpK_off (a' := ?_) (by rfl) ?_ ?_
    rotate_left
    · simp only [Act.put, List.setIfInBounds_toArray, List.set_cons_zero, List.set_cons_succ]; rfl
    refine wpK_off (a' := ?_) (by rfl) ?_ ?_
    rotate_left
    · simp only [Act.put, List.setIfInBounds_toArray, List.set_cons_zero, List.set_cons_succ]; rfl
    refine wpK_off (a' := ?_) (by rfl) ?_ ?_
    rotate_left
    · simp only [Act.put, List.setIfInBounds_toArray, List.set_cons_zero, List.set_cons_succ]; rfl
    refine wpK_off (a' := ?_) (by rfl) ?_ ?_
    rotate_left
    · simp only [Act.put, List.setIfInBounds_toArray, List.set_cons_zero, List.set_cons_succ]; rfl
    refine wpK_off (a' := ?_) (by rfl) ?_ ?_
    rotate_left
    · simp only [Act.put, List.setIfInBounds_toArray, List.set_cons_zero, List.set_cons_succ]; rfl
    refine wpK_q (v := ?_) (a' := ?_) (by rfl) (fun w' hR => ?_) ?_ ?_
    rotate_left 2
    · go_simp; with_reducible rfl
    · simp only [Act.put, List.setIfInBounds_toArray, List.set_cons_zero, List.set_cons_succ]; rfl
    refine wpK_callp Try.func108 (by kernel_rfl) rfl rfl (by rfl) #[.bool false, I 11] (by simp only [List.map_toArray, List.map_cons, List.map_nil]; rfl) ?_
    refine (unless_no 11 _).mono ?_
    rintro e w7 ⟨rfl, rfl⟩
    refine ⟨_, rfl, ?_⟩
    refine And.intro rfl ?_
    rw [HN.out]
    exact ⟨rfl, Ext.trans _ _ _ HBel.out (Ext.drew w5)⟩
  have hd1 : decide ((n0 : Int) ≤ 65536) = true := decide_eq_true (by omega)
  by_cases hG : T.size < T.pos + 12 + n0
  · have HN : Hid (F = .bad 11) := hid (by
      rw [HF.out]
      unfold TS.found
      rw [if_neg (by rw [HL.out]; exact hA), if_neg (by rw [← HC.out]; exact hB), if_neg (by rw [← HN0.out, HL.out]; omega)])
    have hd2 : decide ((n0 : Int) ≤ (T.size : Int) - (T.pos : Int) - 12) = false := decide_eq_false (by omega)
    clear hC hB hc0
    go_wp2
    refine wp_region_order Ext [] [(0,0),(1,0),(2,0),(3,0),(4,0),(5,0),(6,0),(7,0),(8,0),(9,0),(10,0),(12,0),(13,0),(14,0),(15,0),(11,1),(16,0),(17,0),(18,0),(19,0),(20,1)] _ (by kernel_rfl) rfl Ext.refl Ext.trans (by kernel_rfl) (by simp only [pick, List.getElem?_toArray, List.getElem?_cons_zero, List.getElem?_cons_succ]; rfl) (fun c a d v w h => by cases d <;> exact h) ?_
    refine wpK_q (v := ?_) (a' := ?_) (by rfl) (fun w' hR => ?_) ?_ ?_
    rotate_left 2
    · go_simp; with_reducible rfl
    · simp only [Act.put, List.setIfInBounds_toArray, List.set_cons_zero, List.set_cons_succ]; rfl
    refine wpK_q (v := ?_) (a' := ?_) (by rfl) (fun w' hR => ?_) ?_ ?_
    rotate_left 2
    · go_simp; with_reducible rfl
    · simp only [Act.put, List.setIfInBounds_toArray, List.set_cons_zero, List.set_cons_succ]; rfl
    refine wpK_q (v := ?_) (a' := ?_) (by rfl) (fun w' hR => ?_) ?_ ?_
    rotate_left 2
    · go_simp; with_reducible rfl
    · simp only [Act.put, List.setIfInBounds_toArray, List.set_cons_zero, List.set_cons_succ]; rfl
    refine wpK_q (v := ?_) (a' := ?_) (by rfl) (fun w' hR => ?_) ?_ ?_
    rotate_left 2
    · go_simp; with_reducible rfl
    · simp only [Act.put, List.setIfInBounds_toArray, List.set_cons_zero, List.set_cons_succ]; rfl
    refine wpK_q (v := ?_) (a' := ?_) (by rfl) (fun w' hR => ?_) ?_ ?_
    rotate_left 2
    · go_simp; with_reducible rfl
    · simp only [Act.put, List.setIfInBounds_toArray, List.set_cons_zero, List.set_cons_succ]; rfl
    refine wpK_q (v := ?_) (a' := ?_) (by rfl) (fun w' hR => ?_) ?_ ?_
    rotate_left 2
    · go_simp; with_reducible rfl
    · simp only [Act.put, List.setIfInBounds_toArray, List.set_cons_zero, List.set_cons_succ]; rfl
    refine wpK_q (v := ?_) (a' := ?_) (by rfl) (fun w' hR => ?_) ?_ ?_
    rotate_left 2
    · go_simp; with_reducible rfl
    · simp only [Act.put, List.setIfInBounds_toArray, List.set_cons_zero, List.set_cons_succ]; rfl
    refine wpK_q (v := ?_) (a' := ?_) (by rfl) (fun w' hR => ?_) ?_ ?_
    rotate_left 2
    · go_simp; with_reducible rfl
    · simp only [Act.put, List.setIfInBounds_toArray, List.set_cons_zero, List.set_cons_succ]; rfl
    refine wpK_q (v := ?_) (a' := ?_) (by rfl) (fun w' hR => ?_) ?_ ?_
    rotate_left 2
    · go_simp; with_reducible rfl
    · simp only [Act.put, List.setIfInBounds_toArray, List.set_cons_zero, List.set_cons_succ]; rfl
    refine wpK_q (v := ?_) (a' := ?_) (by rfl) (fun w' hR => ?_) ?_ ?_
    rotate_left 2
    · go_simp; with_reducible rfl
    · simp only [Act.put, List.setIfInBounds_toArray, List.set_cons_zero, List.set_cons_succ]; rfl
    refine wpK_q (v := ?_) (a' := ?_) (by rfl) (fun w' hR => ?_) ?_ ?_
    rotate_left 2
    · go_simp; with_reducible rfl
    · simp only [Act.put, List.setIfInBounds_toArray, List.set_cons_zero, List.set_cons_succ]; rfl
    refine wpK_q (v := ?_) (a' := ?_) (by rfl) (fun w' hR => ?_) ?_ ?_
    rotate_left 2
    · go_simp; with_reducible rfl
    · simp only [Act.put, List.setIfInBounds_toArray, List.set_cons_zero, List.set_cons_succ]; rfl
    refine wpK_q (v := ?_) (a' := ?_) (by rfl) (fun w' hR => ?_) ?_ ?_
    rotate_left 2
    · go_simp; with_reducible rfl
    · simp only [Act.put, List.setIfInBounds_toArray, List.set_cons_zero, List.set_cons_succ]; rfl
    refine wpK_q (v := ?_) (a' := ?_) (by rfl) (fun w' hR => ?_) ?_ ?_
    rotate_left 2
    · go_simp; with_reducible rfl
    · simp only [Act.put, List.setIfInBounds_toArray, List.set_cons_zero, List.set_cons_succ]; rfl
    refine wpK_q (v := ?_) (a' := ?_) (by rfl) (fun w' hR => ?_) ?_ ?_
    rotate_left 2
    · go_simp; with_reducible rfl
    · simp only [Act.put, List.setIfInBounds_toArray, List.set_cons_zero, List.set_cons_succ]; rfl
    refine wpK_call Try.func98 (by kernel_rfl) rfl rfl (by rfl) #[.pointer (some ⟨t, 0, none⟩)] (by simp only [List.map_toArray, List.map_cons, List.map_nil]; rfl) ?_
    refine (size_any w5.drew t p _ T (HWt.out.keep rfl)).mono ?_
    rintro e w7 ⟨rfl, m7, rfl⟩
    refine ⟨_, rfl, fun _ => below_drewN _ _, ?_⟩
    refine wpK_q (v := ?_) (a' := ?_) (by rfl) (fun w' hR => ?_) ?_ ?_
    rotate_left 2
    · go_simp; with_reducible rfl
    · simp only [Act.put, List.setIfInBounds_toArray, List.set_cons_zero, List.set_cons_succ]; rfl
    refine wpK_q (v := ?_) (a' := ?_) (by rfl) (fun w' hR => ?_) ?_ ?_
    rotate_left 2
    · go_simp; with_reducible rfl
    · simp only [Act.put, List.setIfInBounds_toArray, List.set_cons_zero, List.set_cons_succ]; rfl
    refine wpK_q (v := ?_) (a' := ?_) (by rfl) (fun w' hR => ?_) ?_ ?_
    rotate_left 2
    · go_simp; with_reducible rfl
    · simp only [Act.put, List.setIfInBounds_toArray, List.set_cons_zero, List.set_cons_succ]; rfl
    refine wpK_q (v := ?_) (a' := ?_) (by rfl) (fun w' hR => ?_) ?_ ?_
    rotate_left 2
    · go_simp; with_reducible rfl
    · simp only [Act.put, List.setIfInBounds_toArray, List.set_cons_zero, List.set_cons_succ]; rfl
    refine wpK_callp Try.func108 (by kernel_rfl) rfl rfl (by rfl) #[.bool false, I 11] (by simp only [List.map_toArray, List.map_cons, List.map_nil]; rfl) ?_
    refine (unless_no 11 _).mono ?_
    rintro e w7 ⟨rfl, rfl⟩
    refine ⟨_, rfl, ?_⟩
    refine And.intro rfl ?_
    rw [HN.out]
    exact ⟨rfl, Ext.trans _ _ _ HBel.out (Ext.trans _ _ _ (Ext.drew w5) (below_drewN _ _))⟩
  have hd2 : decide ((n0 : Int) ≤ (T.size : Int) - (T.pos : Int) - 12) = true := decide_eq_true (by omega)
  have HCC := hid hC
  have HBB := hid hB
  clear hC hB hc0
  go_wp2
  refine wp_region_order Ext [] [(0,0),(1,0),(2,0),(3,0),(4,0),(5,0),(6,0),(7,0),(8,0),(9,0),(10,0),(12,0),(13,0),(14,0),(15,0),(11,1),(16,0),(17,0),(18,0),(19,0),(20,1)] _ (by kernel_rfl) rfl Ext.refl Ext.trans (by kernel_rfl) (by simp only [pick, List.getElem?_toArray, List.getElem?_cons_zero, List.getElem?_cons_succ]; rfl) (fun c a d v w h => by cases d <;> exact h) ?_
  refine wpK_q (v := ?_) (a' := ?_) (by rfl) (fun w' hR => ?_) ?_ ?_
  rotate_left 2
  · go_simp; with_reducible rfl
  · simp only [Act.put, List.setIfInBounds_toArray, List.set_cons_zero, List.set_cons_succ]; rfl
  refine wpK_q (v := ?_) (a' := ?_) (by rfl) (fun w' hR => ?_) ?_ ?_
  rotate_left 2
  · go_simp; with_reducible rfl
  · simp only [Act.put, List.setIfInBounds_toArray, List.set_cons_zero, List.set_cons_succ]; rfl
  refine wpK_q (v := ?_) (a' := ?_) (by rfl) (fun w' hR => ?_) ?_ ?_
  rotate_left 2
  · go_simp; with_reducible rfl
  · simp only [Act.put, List.setIfInBounds_toArray, List.set_cons_zero, List.set_cons_succ]; rfl
  refine wpK_q (v := ?_) (a' := ?_) (by rfl) (fun w' hR => ?_) ?_ ?_
  rotate_left 2
  · go_simp; with_reducible rfl
  · simp only [Act.put, List.setIfInBounds_toArray, List.set_cons_zero, List.set_cons_succ]; rfl
  refine wpK_q (v := ?_) (a' := ?_) (by rfl) (fun w' hR => ?_) ?_ ?_
  rotate_left 2
  · go_simp; with_reducible rfl
  · simp only [Act.put, List.setIfInBounds_toArray, List.set_cons_zero, List.set_cons_succ]; rfl
  refine wpK_q (v := ?_) (a' := ?_) (by rfl) (fun w' hR => ?_) ?_ ?_
  rotate_left 2
  · go_simp; with_reducible rfl
  · simp only [Act.put, List.setIfInBounds_toArray, List.set_cons_zero, List.set_cons_succ]; rfl
  refine wpK_q (v := ?_) (a' := ?_) (by rfl) (fun w' hR => ?_) ?_ ?_
  rotate_left 2
  · go_simp; with_reducible rfl
  · simp only [Act.put, List.setIfInBounds_toArray, List.set_cons_zero, List.set_cons_succ]; rfl
  refine wpK_q (v := ?_) (a' := ?_) (by rfl) (fun w' hR => ?_) ?_ ?_
  rotate_left 2
  · go_simp; with_reducible rfl
  · simp only [Act.put, List.setIfInBounds_toArray, List.set_cons_zero, List.set_cons_succ]; rfl
  refine wpK_q (v := ?_) (a' := ?_) (by rfl) (fun w' hR => ?_) ?_ ?_
  rotate_left 2
  · go_simp; with_reducible rfl
  · simp only [Act.put, List.setIfInBounds_toArray, List.set_cons_zero, List.set_cons_succ]; rfl
  refine wpK_q (v := ?_) (a' := ?_) (by rfl) (fun w' hR => ?_) ?_ ?_
  rotate_left 2
  · go_simp; with_reducible rfl
  · simp only [Act.put, List.setIfInBounds_toArray, List.set_cons_zero, List.set_cons_succ]; rfl
  refine wpK_q (v := ?_) (a' := ?_) (by rfl) (fun w' hR => ?_) ?_ ?_
  rotate_left 2
  · go_simp; with_reducible rfl
  · simp only [Act.put, List.setIfInBounds_toArray, List.set_cons_zero, List.set_cons_succ]; rfl
  refine wpK_q (v := ?_) (a' := ?_) (by rfl) (fun w' hR => ?_) ?_ ?_
  rotate_left 2
  · go_simp; with_reducible rfl
  · simp only [Act.put, List.setIfInBounds_toArray, List.set_cons_zero, List.set_cons_succ]; rfl
  refine wpK_q (v := ?_) (a' := ?_) (by rfl) (fun w' hR => ?_) ?_ ?_
  rotate_left 2
  · go_simp; with_reducible rfl
  · simp only [Act.put, List.setIfInBounds_toArray, List.set_cons_zero, List.set_cons_succ]; rfl
  refine wpK_q (v := ?_) (a' := ?_) (by rfl) (fun w' hR => ?_) ?_ ?_
  rotate_left 2
  · go_simp; with_reducible rfl
  · simp only [Act.put, List.setIfInBounds_toArray, List.set_cons_zero, List.set_cons_succ]; rfl
  refine wpK_q (v := ?_) (a' := ?_) (by rfl) (fun w' hR => ?_) ?_ ?_
  rotate_left 2
  · go_simp; with_reducible rfl
  · simp only [Act.put, List.setIfInBounds_toArray, List.set_cons_zero, List.set_cons_succ]; rfl
  refine wpK_call Try.func98 (by kernel_rfl) rfl rfl (by rfl) #[.pointer (some ⟨t, 0, none⟩)] (by simp only [List.map_toArray, List.map_cons, List.map_nil]; rfl) ?_
  refine (size_any w5.drew t p _ T (HWt.out.keep rfl)).mono ?_
  rintro e w7 ⟨rfl, m7, rfl⟩
  refine ⟨_, rfl, fun _ => below_drewN _ _, ?_⟩
  refine wpK_q (v := ?_) (a' := ?_) (by rfl) (fun w' hR => ?_) ?_ ?_
  rotate_left 2
  · go_simp; with_reducible rfl
  · simp only [Act.put, List.setIfInBounds_toArray, List.set_cons_zero, List.set_cons_succ]; rfl
  refine wpK_q (v := ?_) (a' := ?_) (by rfl) (fun w' hR => ?_) ?_ ?_
  rotate_left 2
  · go_simp; with_reducible rfl
  · simp only [Act.put, List.setIfInBounds_toArray, List.set_cons_zero, List.set_cons_succ]; rfl
  refine wpK_q (v := ?_) (a' := ?_) (by rfl) (fun w' hR => ?_) ?_ ?_
  rotate_left 2
  · go_simp; with_reducible rfl
  · simp only [Act.put, List.setIfInBounds_toArray, List.set_cons_zero, List.set_cons_succ]; rfl
  refine wpK_q (v := ?_) (a' := ?_) (by rfl) (fun w' hR => ?_) ?_ ?_
  rotate_left 2
  · go_simp; with_reducible rfl
  · simp only [Act.put, List.setIfInBounds_toArray, List.set_cons_zero, List.set_cons_succ]; rfl
  refine wpK_call Try.func108 (by kernel_rfl) rfl rfl (by rfl) #[.bool true, I 11] (by simp only [List.map_toArray, List.map_cons, List.map_nil]; rfl) ?_
  refine (unless_ok 11 _).mono ?_
  rintro e w8 ⟨rfl, rfl⟩
  refine ⟨_, rfl, fun _ => Ext.refl _, ?_⟩
  refine wpK_done ?_
  have HBel2 := hid (Ext.trans _ _ _ HBel.out (Ext.trans _ _ _ (Ext.drew w5) (below_drewN w5.drew m7)))
  have HWt2 : Hid (TapeIn (w5.drew.drewN m7) t p D.safe.length T) := hid (HWt.out.keep rfl)
  have HDt2 : Hid (DrumAt (w5.drew.drewN m7) p own D) := hid (HDt.out.below (Ext.trans _ _ _ (Ext.drew w5) (below_drewN w5.drew m7)))
  have HS52 : Hid (Sees (w5.drew.drewN m7) (.slice (some ⟨g, 0, none⟩) 12 cap) (List.take 12 (List.drop T.pos (TS.bytes D T)))) := hid (HS5.out.below (Ext.trans _ _ _ (Ext.drew w5) (below_drewN w5.drew m7)))
  have c3 := HWt2.out.c3
  clear k0 k3 c3' hcell HWt HDt HBel HB5 HS5 HS4 HW HDW HZZ HBEL hd1 hd2 hs1 hs2 hc1
  generalize w5.drew.drewN m7 = w9 at *
  have hb2 := bytes_on w9 t p own T D HWt2.out HDt2.out HO.out (T.pos + 12) n0 (by omega)
  have hp12 : ((T.pos + 12 : Nat) : Int) = (T.pos : Int) + 12 := by omega
  rw [hp12] at hb2
  have HB2 := hid hb2
  clear hb2 hp12
  obtain ⟨r, hr⟩ : ∃ r, r = List.take n0 (List.drop (T.pos + 12) (TS.bytes D T)) := ⟨_, rfl⟩
  rw [← hr] at HB2
  have hrl : r.length = n0 := by rw [hr, List.length_take, List.length_drop, HL.out]; omega
  have HRL := hid hrl
  have HR := hid hr
  clear hr hrl
  go_wp2_with (first | (go_at_call 106; refine HB2.out.mono ?_; rintro e w10 ⟨v10, rfl, ho10, hb10⟩; have HO10 := hid ho10; have HB10 := hid hb10; clear ho10 hb10 HB2))
  have hcap1 : ¬ cap = 1 := by omega
  obtain ⟨Y, hY⟩ : ∃ Y, Y = ((TS.bytes D T).drop (T.pos + 1)).take 11 := ⟨_, rfl⟩
  have S11 := HS52.out.sl (lo := 1) (hi := 12) (by omega) (by omega)
  have hs11 : sl (some ⟨g, 0, none⟩) cap 1 12 = .slice (some ⟨g, 1, none⟩) 11 (cap - 1) := by unfold sl; rw [if_neg (by omega)]; rfl
  have hl11 : ((List.take 12 (List.drop T.pos (TS.bytes D T))).take 12).drop 1 = Y := by
    rw [List.take_take, List.drop_take, List.drop_drop, hY]
    rfl
  rw [hs11, hl11] at S11
  have k9 : ∀ w', Ext w10.drew w' → (convert 23 9 (.slice (some ⟨g, 1, none⟩) 11 (cap - 1))).run Try.prog w' = .ok (.string (str Y)) w' := fun w' hh => run_str Try.underlying23 Try.underlying5 Try.underlying9 (S11.below (Ext.trans _ _ _ (Ext.trans _ _ _ HB10.out (Ext.drew w10)) hh))
  have HT10 := hid (HWt2.out.below HB10.out)
  have k4 : ∀ w', Ext w10.drew w' → w'.cell? ⟨t, 4, none⟩ = some (I T.count) := fun w' hh => hh.cell HT10.out.c4
  have HYY := hid hY
  have SR := hid ((own_sees' HO10.out rfl).drew)
  clear S11 hs11 hl11 hY
  obtain ⟨X, hX⟩ : ∃ X, X = TS.framed T.count r := ⟨_, rfl⟩
  have HX := hid hX
  clear hX
  obtain ⟨ao10, co10, rfl⟩ := own_form HO10.out
  by_cases hXY : X = Y
  rotate_left
  · have HN : Hid (F = .bad 12) := hid (by
      rw [HF.out]
      unfold TS.found
      rw [if_neg (by rw [HL.out]; exact hA), if_neg (by rw [← HC.out]; exact HBB.out), if_pos ⟨by rw [← HC.out]; exact HCC.out, by rw [← HN0.out]; omega, by rw [← HN0.out, HL.out]; omega⟩, if_neg (by rw [← HN0.out, ← HR.out, ← HX.out, ← HYY.out]; exact hXY)])
    have hne : ((str X).toList == (str Y).toList) = false := by rw [str_toList, str_toList, beq_eq_false_iff_ne]; exact hXY
    clear hXY
    refine wp_region_order Ext [] [(0,0),(1,0),(2,0),(3,0),(4,0),(7,0),(8,0),(9,0),(5,1),(6,0),(10,0),(11,1)] _ (by kernel_rfl) rfl Ext.refl Ext.trans (by kernel_rfl) (by simp only [pick, List.getElem?_toArray, List.getElem?_cons_zero, List.getElem?_cons_succ]; rfl) (fun c a d v w h => by cases d <;> exact h) ?_
    refine wpK_q (v := ?_) (a' := ?_) (by rfl) (fun w' hR => ?_) ?_ ?_
    rotate_left 2
    · go_simp; with_reducible rfl
    · simp only [Act.put, List.setIfInBounds_toArray, List.set_cons_zero, List.set_cons_succ]; rfl
    refine wpK_q (v := ?_) (a' := ?_) (by rfl) (fun w' hR => ?_) ?_ ?_
    rotate_left 2
    · go_simp; with_reducible rfl
    · simp only [Act.put, List.setIfInBounds_toArray, List.set_cons_zero, List.set_cons_succ]; rfl
    refine wpK_q (v := ?_) (a' := ?_) (by rfl) (fun w' hR => ?_) ?_ ?_
    rotate_left 2
    · go_simp; with_reducible rfl
    · simp only [Act.put, List.setIfInBounds_toArray, List.set_cons_zero, List.set_cons_succ]; rfl
    refine wpK_q (v := ?_) (a' := ?_) (by rfl) (fun w' hR => ?_) ?_ ?_
    rotate_left 2
    · go_simp; with_reducible rfl
    · simp only [Act.put, List.setIfInBounds_toArray, List.set_cons_zero, List.set_cons_succ]; rfl
    refine wpK_q (v := ?_) (a' := ?_) (by rfl) (fun w' hR => ?_) ?_ ?_
    rotate_left 2
    · go_simp; with_reducible rfl
    · simp only [Act.put, List.setIfInBounds_toArray, List.set_cons_zero, List.set_cons_succ]; rfl
    refine wpK_q (v := ?_) (a' := ?_) (by rfl) (fun w' hR => ?_) ?_ ?_
    rotate_left 2
    · go_simp; with_reducible rfl
    · simp only [Act.put, List.setIfInBounds_toArray, List.set_cons_zero, List.set_cons_succ]; rfl
    refine wpK_q (v := ?_) (a' := ?_) (by rfl) (fun w' hR => ?_) ?_ ?_
    rotate_left 2
    · go_simp; with_reducible rfl
    · simp only [Act.put, List.setIfInBounds_toArray, List.set_cons_zero, List.set_cons_succ]; rfl
    refine wpK_q (v := ?_) (a' := ?_) (by rfl) (fun w' hR => ?_) ?_ ?_
    rotate_left 2
    · go_simp; with_reducible rfl
    · simp only [Act.put, List.setIfInBounds_toArray, List.set_cons_zero, List.set_cons_succ]; rfl
    refine wpK_call Try.func109 (by kernel_rfl) rfl rfl (by rfl) #[I T.count, .slice ao10 r.length co10] (by simp only [List.map_toArray, List.map_cons, List.map_nil]; rfl) ?_
    refine (framed_of _ T.count (by omega) _ r SR.out (by rw [HRL.out]; omega)).mono ?_
    rw [← HX.out]
    rintro e w11 ⟨v11, rfl, ho11, hb11⟩
    refine ⟨_, rfl, fun _ => hb11, ?_⟩
    obtain ⟨ao11, co11, rfl⟩ := own_form ho11
    have S11 := hid (own_sees ho11)
    have k6 : ∀ w', Ext w11 w' → (convert 23 9 (.slice ao11 X.length co11)).run Try.prog w' = .ok (.string (str X)) w' := fun w' hh => run_str Try.underlying23 Try.underlying5 Try.underlying9 (S11.out.below hh)
    have HB11 := hid hb11
    clear ho11 hb11
    refine wpK_q (v := ?_) (a' := ?_) (by rfl) (fun w' hR => ?_) ?_ ?_
    rotate_left 2
    · go_simp; with_reducible rfl
    · simp only [Act.put, List.setIfInBounds_toArray, List.set_cons_zero, List.set_cons_succ]; rfl
    refine wpK_q (v := ?_) (a' := ?_) (by rfl) (fun w' hR => ?_) ?_ ?_
    rotate_left 2
    · go_simp; with_reducible rfl
    · simp only [Act.put, List.setIfInBounds_toArray, List.set_cons_zero, List.set_cons_succ]; rfl
    refine wpK_callp Try.func108 (by kernel_rfl) rfl rfl (by rfl) #[.bool false, I 12] (by simp only [List.map_toArray, List.map_cons, List.map_nil]; rfl) ?_
    refine (unless_no 12 _).mono ?_
    rintro e w7 ⟨rfl, rfl⟩
    refine ⟨_, rfl, ?_⟩
    refine And.intro rfl ?_
    rw [HN.out]
    exact ⟨rfl, Ext.trans _ _ _ HBel2.out (Ext.trans _ _ _ (Ext.trans _ _ _ HB10.out (Ext.drew w10)) HB11.out)⟩
  have HN : Hid (F = .yes r) := hid (by
    rw [HF.out]
    unfold TS.found
    rw [if_neg (by rw [HL.out]; exact hA), if_neg (by rw [← HC.out]; exact HBB.out), if_pos ⟨by rw [← HC.out]; exact HCC.out, by rw [← HN0.out]; omega, by rw [← HN0.out, HL.out]; omega⟩, if_pos (by rw [← HN0.out, ← HR.out, ← HX.out, ← HYY.out]; exact hXY), ← HN0.out, ← HR.out])
  subst hXY
  refine wp_region_order Ext [] [(0,0),(1,0),(2,0),(3,0),(4,0),(7,0),(8,0),(9,0),(5,1),(6,0),(10,0),(11,1)] _ (by kernel_rfl) rfl Ext.refl Ext.trans (by kernel_rfl) (by simp only [pick, List.getElem?_toArray, List.getElem?_cons_zero, List.getElem?_cons_succ]; rfl) (fun c a d v w h => by cases d <;> exact h) ?_
  refine wpK_q (v := ?_) (a' := ?_) (by rfl) (fun w' hR => ?_) ?_ ?_
  rotate_left 2
  · go_simp; with_reducible rfl
  · simp only [Act.put, List.setIfInBounds_toArray, List.set_cons_zero, List.set_cons_succ]; rfl
  refine wpK_q (v := ?_) (a' := ?_) (by rfl) (fun w' hR => ?_) ?_ ?_
  rotate_left 2
  · go_simp; with_reducible rfl
  · simp only [Act.put, List.setIfInBounds_toArray, List.set_cons_zero, List.set_cons_succ]; rfl
  refine wpK_q (v := ?_) (a' := ?_) (by rfl) (fun w' hR => ?_) ?_ ?_
  rotate_left 2
  · go_simp; with_reducible rfl
  · simp only [Act.put, List.setIfInBounds_toArray, List.set_cons_zero, List.set_cons_succ]; rfl
  refine wpK_q (v := ?_) (a' := ?_) (by rfl) (fun w' hR => ?_) ?_ ?_
  rotate_left 2
  · go_simp; with_reducible rfl
  · simp only [Act.put, List.setIfInBounds_toArray, List.set_cons_zero, List.set_cons_succ]; rfl
  refine wpK_q (v := ?_) (a' := ?_) (by rfl) (fun w' hR => ?_) ?_ ?_
  rotate_left 2
  · go_simp; with_reducible rfl
  · simp only [Act.put, List.setIfInBounds_toArray, List.set_cons_zero, List.set_cons_succ]; rfl
  refine wpK_q (v := ?_) (a' := ?_) (by rfl) (fun w' hR => ?_) ?_ ?_
  rotate_left 2
  · go_simp; with_reducible rfl
  · simp only [Act.put, List.setIfInBounds_toArray, List.set_cons_zero, List.set_cons_succ]; rfl
  refine wpK_q (v := ?_) (a' := ?_) (by rfl) (fun w' hR => ?_) ?_ ?_
  rotate_left 2
  · go_simp; with_reducible rfl
  · simp only [Act.put, List.setIfInBounds_toArray, List.set_cons_zero, List.set_cons_succ]; rfl
  refine wpK_q (v := ?_) (a' := ?_) (by rfl) (fun w' hR => ?_) ?_ ?_
  rotate_left 2
  · go_simp; with_reducible rfl
  · simp only [Act.put, List.setIfInBounds_toArray, List.set_cons_zero, List.set_cons_succ]; rfl
  refine wpK_call Try.func109 (by kernel_rfl) rfl rfl (by rfl) #[I T.count, .slice ao10 r.length co10] (by simp only [List.map_toArray, List.map_cons, List.map_nil]; rfl) ?_
  refine (framed_of _ T.count (by omega) _ r SR.out (by rw [HRL.out]; omega)).mono ?_
  rw [← HX.out]
  rintro e w11 ⟨v11, rfl, ho11, hb11⟩
  refine ⟨_, rfl, fun _ => hb11, ?_⟩
  obtain ⟨ao11, co11, rfl⟩ := own_form ho11
  have S11 := hid (own_sees ho11)
  have k6 : ∀ w', Ext w11 w' → (convert 23 9 (.slice ao11 X.length co11)).run Try.prog w' = .ok (.string (str X)) w' := fun w' hh => run_str Try.underlying23 Try.underlying5 Try.underlying9 (S11.out.below hh)
  have HB11 := hid hb11
  clear ho11 hb11
  refine wpK_q (v := ?_) (a' := ?_) (by rfl) (fun w' hR => ?_) ?_ ?_
  rotate_left 2
  · go_simp; with_reducible rfl
  · simp only [Act.put, List.setIfInBounds_toArray, List.set_cons_zero, List.set_cons_succ]; rfl
  refine wpK_q (v := ?_) (a' := ?_) (by rfl) (fun w' hR => ?_) ?_ ?_
  rotate_left 2
  · go_simp; with_reducible rfl
  · simp only [Act.put, List.setIfInBounds_toArray, List.set_cons_zero, List.set_cons_succ]; rfl
  refine wpK_call Try.func108 (by kernel_rfl) rfl rfl (by rfl) #[.bool true, I 12] (by simp only [List.map_toArray, List.map_cons, List.map_nil]; rfl) ?_
  refine (unless_ok 12 _).mono ?_
  rintro e w8 ⟨rfl, rfl⟩
  refine ⟨_, rfl, fun _ => Ext.refl _, ?_⟩
  refine wpK_done ?_
  have HB12 := hid (Ext.trans _ _ _ (Ext.drew w10) HB11.out)
  have HT12 := hid (HT10.out.below HB12.out)
  have HO12 := hid (own_below HO10.out HB12.out)
  clear k9 k4 k6 S11
  have c3 := HT12.out.c3
  have c4 := HT12.out.c4
  have cf := HT12.out.fr
  have hw3 : IntKind.i64.wrap ((T.pos : Int) + (12 + (n0 : Int))) = (T.pos : Int) + (12 + (n0 : Int)) := IntWalk.i64_in _ (by omega)
  have hw4 : IntKind.i64.wrap ((T.count : Int) + 1) = (T.count : Int) + 1 := IntWalk.i64_in _ (by omega)
  have hcnt : T.count ≤ 1048576 := by omega
  go_wp2
  go_ret2
  rw [HN.out]
  have ht := HT12.out
  have hm : Mod (fun k => k = t) w11 ((w11.setCell ⟨t, 3, none⟩ (.int .i64 ((T.pos : Int) + (12 + (n0 : Int))))).setCell ⟨t, 4, none⟩ (.int .i64 ((T.count : Int) + 1))) := (Mod.set (own := fun k => k = t) rfl).trans (Mod.set rfl)
  have hB2 : Below w.heap.size w w11 := Ext.trans _ _ _ (Ext.trans _ _ _ HBel2.out HB10.out) HB12.out
  have htw : t < w.heap.size := h0t
  refine ⟨_, rfl, ?_, ?_, (Mod.of_below _ hB2).trans hm⟩
  · have hbb : w.heap.size ≤ w9.heap.size := HBel2.out.size
    refine own_anew (own_mod HO12.out (fun k hk => ?_)) (fun k hk => Nat.le_trans hbb (own_lt HO12.out k hk).1)
    have hk1 := own_lt HO12.out k hk
    exact hm.block k hk1.2 (fun e => by omega)
  · have hrl := HRL.out
    have h1 := ht.ok
    refine ⟨⟨h1.lt, h1.le, by show T.pos + 12 + r.length ≤ T.size; omega, by show T.count + 1 ≤ T.pos + 12 + r.length; omega, h1.sick⟩, ht.n2, ?_⟩
    rw [heap_setCell_same _ t 4 _ _ _ (heap_setCell_same w11 t 3 _ _ _ ht.ht)]
    have e1 : (T.pos : Int) + (12 + (n0 : Int)) = ((T.pos + 12 + r.length : Nat) : Int) := by omega
    have e2 : (T.count : Int) + 1 = ((T.count + 1 : Nat) : Int) := by omega
    rw [e1, e2]
    rfl
end Go.Proofs.Ytoaeapnkefjpaaa

namespace Go.Proofs.Ytoaeapnkefjpaaa
open Go.RowKit
set_option linter.unusedVariables false
set_option linter.unusedSimpArgs false

/-- Block b stays. -/
def KeepOne (b : Nat) (w w' : World) : Prop := w'.heap[b]? = w.heap[b]? ∧ w.heap.size ≤ w'.heap.size
theorem KeepOne.refl {b : Nat} (w : World) : KeepOne b w w := ⟨rfl, Nat.le_refl _⟩
theorem KeepOne.trans {b : Nat} (w w' w'' : World) (h : KeepOne b w w') (k : KeepOne b w' w'') : KeepOne b w w'' := ⟨k.1.trans h.1, Nat.le_trans h.2 k.2⟩
theorem KeepOne.set {b : Nat} {w : World} {a : Addr} {v : Value} (h : b ≠ a.block) : KeepOne b w (w.setCell a v) := ⟨heap_setCell_other w a b v h, by simp⟩
theorem cell_one {w : World} {b : Nat} {cs : Array Value} {t : TypeId} (h : w.heap[b]? = some (.cells cs t (0, 0))) (hs : cs.size = 1) : ∃ v, w.cell? ⟨b, 0, none⟩ = some v := by
  rw [cell_of_row w b _ _ _ _ h]
  exact ⟨cs[0], Array.getElem?_eq_getElem (by omega)⟩
theorem set_one {w : World} {b : Nat} {cs : Array Value} {t : TypeId} (h : w.heap[b]? = some (.cells cs t (0, 0))) (hs : cs.size = 1) (v : Value) : (w.setCell ⟨b, 0, none⟩ v).heap[b]? = some (.cells #[v] t (0, 0)) := by
  rw [heap_setCell_same w b 0 _ _ v h]
  obtain ⟨l⟩ := cs
  match l, hs with
  | [x], _ => rfl
theorem catch_idle (p1 p2 p3 : Addr) (w : World) :
    CallsD Try.prog 96 #[.pointer (some p1), .pointer (some p2), .pointer (some p3)] .returning w fun e u' w' => e = .returned (.tuple #[]) ∧ u' = .returning ∧ w' = w := by
  refine callsD_of_wpS Try.func96 rfl fun c₀ cs hu => ?_
  apply wpS_seq
  apply wpS_region
  simp [wpOpsS, go_sem, recoverD, hu, Try.ntmps96, Exit.thenS]
  refine wpS_of_wp ?_
  go_wp2
  cases c₀
  simp_all [bodyPostS, results, Try.results96]
theorem gave_is (c : Int) (w : World) : (Instr.typeAssert (.iface 130 (.agg #[I c])) 20 130 true).run Try.prog w = .ok (.tuple #[.agg #[I c], .bool true]) w := by kernel_rfl
set_option maxRecDepth 100000 in
set_option maxHeartbeats 800000 in
theorem catch_gave (b1 b2 b3 : Nat) (c1 c2 c3 : Array Value) (t1 t2 t3 : TypeId) (c : Int) (w : World) (h1 : w.heap[b1]? = some (.cells c1 t1 (0, 0))) (h2 : w.heap[b2]? = some (.cells c2 t2 (0, 0))) (h3 : w.heap[b3]? = some (.cells c3 t3 (0, 0)))
    (s1 : c1.size = 1) (s2 : c2.size = 1) (s3 : c3.size = 1) (n12 : b1 ≠ b2) (n13 : b1 ≠ b3) (n23 : b2 ≠ b3) :
    CallsD Try.prog 96 #[.pointer (some ⟨b1, 0, none⟩), .pointer (some ⟨b2, 0, none⟩), .pointer (some ⟨b3, 0, none⟩)] (.panicking (gaveUp c)) w fun e u' w' =>
      e = .returned (.tuple #[]) ∧ u' = .panicking [{ v := .iface 130 (.agg #[I c]), recovered := true }] ∧
      (w'.heap[b1]? = some (.cells #[.pointer none] t1 (0, 0)) ∧ w'.heap[b2]? = some (.cells #[.slice none 0 0] t2 (0, 0)) ∧ w'.heap[b3]? = some (.cells #[I c] t3 (0, 0))) ∧ Mod (fun k => k = b1 ∨ k = b2 ∨ k = b3) w w' := by
  have hta := gave_is c
  refine callsD_of_wpS Try.func96 rfl fun c₀ cs hu => ?_
  apply wpS_seq
  apply wpS_region
  unfold gaveUp at hu
  simp [wpOpsS, go_sem, recoverD, hu, Try.ntmps96, Exit.thenS]
  refine wpS_of_wp ?_
  simp only [Array.replicate_succ, Array.replicate_zero, List.push_toArray, List.append_toArray, List.nil_append, List.cons_append, List.setIfInBounds_toArray, List.set_cons_zero, List.set_cons_succ]
  go_wp2
  obtain ⟨wa, hwa⟩ : ∃ wa, wa = w.alloc (.cells #[.int .i64 c] 130) := ⟨_, rfl⟩
  obtain ⟨b4, hb4⟩ : ∃ b4, b4 = w.heap.size := ⟨_, rfl⟩
  rw [← hwa, ← hb4]
  have l1 := (Array.getElem?_eq_some_iff.1 h1).1
  have l2 := (Array.getElem?_eq_some_iff.1 h2).1
  have l3 := (Array.getElem?_eq_some_iff.1 h3).1
  have g1 : wa.heap[b1]? = some (.cells c1 t1 (0, 0)) := by rw [hwa]; exact (Below.heap_alloc w _ _ l1).trans h1
  have g2 : wa.heap[b2]? = some (.cells c2 t2 (0, 0)) := by rw [hwa]; exact (Below.heap_alloc w _ _ l2).trans h2
  have g3 : wa.heap[b3]? = some (.cells c3 t3 (0, 0)) := by rw [hwa]; exact (Below.heap_alloc w _ _ l3).trans h3
  have g4 : wa.heap[b4]? = some (.cells #[.int .i64 c] 130 (0, 0)) := by rw [hwa, hb4]; exact heap_alloc_new _ _
  have hm : Mod (fun k => k = b1 ∨ k = b2 ∨ k = b3) w wa := by rw [hwa]; exact Mod.alloc _
  have n14 : b4 ≠ b1 := by omega
  have n24 : b4 ≠ b2 := by omega
  have n34 : b4 ≠ b3 := by omega
  obtain ⟨v1, hv1⟩ := cell_one g1 s1
  obtain ⟨v2, hv2⟩ := cell_one g2 s2
  obtain ⟨v3, hv3⟩ := cell_one g3 s3
  have k4 : ∀ w', KeepOne b4 wa.drew w' → w'.cell? ⟨b4, 0, none⟩ = some (I c) := fun w' hh => by rw [cell_of_row w' b4 _ _ _ _ (hh.1.trans g4)]; rfl
  have G1 := hid g1
  have G2 := hid g2
  have G3 := hid g3
  have HM := hid hm
  have HU := hid hu
  clear hwa hb4 h1 h2 h3 l1 l2 l3 hta g1 g2 g3 g4 hm hu
  refine wp_region_order (KeepOne b4) [] [(0,0),(1,0),(2,1),(3,1),(4,1)] _ (by kernel_rfl) rfl KeepOne.refl KeepOne.trans (by kernel_rfl) (by simp only [pick, List.getElem?_toArray, List.getElem?_cons_zero, List.getElem?_cons_succ]; rfl) (fun c a d v w h => by cases d <;> exact h) ?_
  refine wpK_q (v := ?_) (a' := ?_) (by rfl) (fun w' hR => ?_) ?_ ?_
  rotate_left 2
  · go_simp; with_reducible rfl
  · simp only [Act.put, List.setIfInBounds_toArray, List.set_cons_zero, List.set_cons_succ]; rfl
  refine wpK_q (v := ?_) (a' := ?_) (by rfl) (fun w' hR => ?_) ?_ ?_
  rotate_left 2
  · go_simp; with_reducible rfl
  · simp only [Act.put, List.setIfInBounds_toArray, List.set_cons_zero, List.set_cons_succ]; rfl
  refine wpK_s (by rfl) rfl (exec_store rfl (vx := .pointer (some ⟨b1, 0, none⟩)) (vy := .pointer none) rfl rfl (run_store1 (u := v1) (by kernel_rfl) rfl rfl hv1 (frozen_row G1.out 0))) (fun _ => KeepOne.set n14) ?_
  have hv2' : (wa.drew.setCell ⟨b1, 0, none⟩ (.pointer none)).cell? ⟨b2, 0, none⟩ = some v2 := (World.cell?_of_block (w := wa) (a := ⟨b2, 0, none⟩) (heap_setCell_other wa.drew ⟨b1, 0, none⟩ b2 _ (Ne.symm n12))).trans hv2
  have hf2' : (wa.drew.setCell ⟨b1, 0, none⟩ (.pointer none)).heap[b2]? = some (.cells c2 t2 (0, 0)) := (heap_setCell_other wa.drew ⟨b1, 0, none⟩ b2 _ (Ne.symm n12)).trans G2.out
  refine wpK_s (by rfl) rfl (exec_store rfl (vx := .pointer (some ⟨b2, 0, none⟩)) (vy := .slice none 0 0) rfl rfl (run_store1 (u := v2) (by kernel_rfl) rfl rfl hv2' (frozen_row hf2' 0))) (fun _ => KeepOne.set n24) ?_
  have hf3' : ((wa.drew.setCell ⟨b1, 0, none⟩ (.pointer none)).setCell ⟨b2, 0, none⟩ (.slice none 0 0)).heap[b3]? = some (.cells c3 t3 (0, 0)) := (heap_setCell_other _ ⟨b2, 0, none⟩ b3 _ (Ne.symm n23)).trans ((heap_setCell_other wa.drew ⟨b1, 0, none⟩ b3 _ (Ne.symm n13)).trans G3.out)
  have hv3' : ((wa.drew.setCell ⟨b1, 0, none⟩ (.pointer none)).setCell ⟨b2, 0, none⟩ (.slice none 0 0)).cell? ⟨b3, 0, none⟩ = some v3 := (World.cell?_of_block (w := wa) (a := ⟨b3, 0, none⟩) (hf3'.trans G3.out.symm)).trans hv3
  refine wpK_s (by rfl) rfl (exec_store rfl (vx := .pointer (some ⟨b3, 0, none⟩)) (vy := I c) rfl rfl (run_store1 (u := v3) (by kernel_rfl) rfl rfl hv3' (frozen_row hf3' 0))) (fun _ => KeepOne.set n34) ?_
  refine wpK_done ?_
  have e1 := set_one (show wa.drew.heap[b1]? = _ from G1.out) s1 (.pointer none)
  have e2 := set_one hf2' s2 (.slice none 0 0)
  have e3 := set_one hf3' s3 (I c)
  have r1 : (((wa.drew.setCell ⟨b1, 0, none⟩ (.pointer none)).setCell ⟨b2, 0, none⟩ (.slice none 0 0)).setCell ⟨b3, 0, none⟩ (I c)).heap[b1]? = some (.cells #[.pointer none] t1 (0, 0)) := (heap_setCell_other _ ⟨b3, 0, none⟩ b1 _ n13).trans ((heap_setCell_other _ ⟨b2, 0, none⟩ b1 _ n12).trans e1)
  have r2 : (((wa.drew.setCell ⟨b1, 0, none⟩ (.pointer none)).setCell ⟨b2, 0, none⟩ (.slice none 0 0)).setCell ⟨b3, 0, none⟩ (I c)).heap[b2]? = some (.cells #[.slice none 0 0] t2 (0, 0)) := (heap_setCell_other _ ⟨b3, 0, none⟩ b2 _ n23).trans e2
  have hmm : Mod (fun k => k = b1 ∨ k = b2 ∨ k = b3) w (((wa.drew.setCell ⟨b1, 0, none⟩ (.pointer none)).setCell ⟨b2, 0, none⟩ (.slice none 0 0)).setCell ⟨b3, 0, none⟩ (I c)) :=
    (((HM.out.trans (Mod.drew wa)).trans (Mod.set (.inl rfl))).trans (Mod.set (.inr (.inl rfl)))).trans (Mod.set (.inr (.inr rfl)))
  generalize ((wa.drew.setCell ⟨b1, 0, none⟩ (.pointer none)).setCell ⟨b2, 0, none⟩ (.slice none 0 0)).setCell ⟨b3, 0, none⟩ (I c) = w9 at *
  have hu := HU.out
  clear HU
  clear k4 hf3' hv3' hf2' hv2' e1 e2 G1 G2 G3 HM hv1 hv2 hv3
  simp only [Exit.inBlock]
  refine (show bodyPostS _ _ _ _ _ _ _ _ _ from ?_)
  simp [bodyPostS, results, Try.results96, r1, r2, e3, hmm]
end Go.Proofs.Ytoaeapnkefjpaaa

namespace Go.Proofs.Ytoaeapnkefjpaaa
open Go.RowKit
set_option linter.unusedVariables false
set_option linter.unusedSimpArgs false

theorem closes (fn : Fn) (first cap : Array Value) (w : World) : (Instr.makeFunc fn first cap).run Try.prog w = .ok (.func fn first cap) w := rfl
/-- Out through the door, nothing given up. -/
theorem door_ret {b1 b2 b3 : Nat} {tmps : Array Value} {w : World} {R : Ending → World → Prop} {u1 u2 u3 : Value} (h6 : tmps[6]?.getD undef = .pointer (some ⟨b1, 0, none⟩)) (h7 : tmps[7]?.getD undef = .pointer (some ⟨b2, 0, none⟩)) (h8 : tmps[8]?.getD undef = .pointer (some ⟨b3, 0, none⟩))
    (c1 : w.cell? ⟨b1, 0, none⟩ = some u1) (c2 : w.cell? ⟨b2, 0, none⟩ = some u2) (c3 : w.cell? ⟨b3, 0, none⟩ = some u3) (h : R (.returned (.tuple #[u1, u2, u3])) w) :
    bodyPostD Try.prog Try.f65 R Exit.ret { tmps := tmps, defers := [{ target := .fn (.func 96) #[.pointer (some ⟨b1, 0, none⟩), .pointer (some ⟨b2, 0, none⟩), .pointer (some ⟨b3, 0, none⟩)], args := #[] }] } w := by
  refine leaves_cons (f := 96) (args := #[.pointer (some ⟨b1, 0, none⟩), .pointer (some ⟨b2, 0, none⟩), .pointer (some ⟨b3, 0, none⟩)]) (by simp) (by simp [go_sem]) ?_
  refine (catch_idle _ _ _ _).mono ?_
  rintro e u' w'' ⟨rfl, rfl, rfl⟩
  simp [Leaves, settle, results, Try.results65, go_sem, h6, h7, h8, c1, c2, c3, h]
/-- Out through the door, something given up: the document's nil, nil, error. -/
theorem door_gave {b1 b2 b3 : Nat} {tmps : Array Value} {w : World} {R : Ending → World → Prop} {c : Int} {v1 v2 v3 : Array Value} (h6 : tmps[6]?.getD undef = .pointer (some ⟨b1, 0, none⟩)) (h7 : tmps[7]?.getD undef = .pointer (some ⟨b2, 0, none⟩)) (h8 : tmps[8]?.getD undef = .pointer (some ⟨b3, 0, none⟩))
    (g1 : w.heap[b1]? = some (.cells v1 86 (0, 0))) (g2 : w.heap[b2]? = some (.cells v2 45 (0, 0))) (g3 : w.heap[b3]? = some (.cells v3 46 (0, 0))) (s1 : v1.size = 1) (s2 : v2.size = 1) (s3 : v3.size = 1) (n12 : b1 ≠ b2) (n13 : b1 ≠ b3) (n23 : b2 ≠ b3)
    (h : ∀ w', Mod (fun k => k = b1 ∨ k = b2 ∨ k = b3) w w' → R (.returned (.tuple #[.pointer none, .slice none 0 0, I c])) w') :
    bodyPostD Try.prog Try.f65 R (Exit.panic (gaveUp c)) { tmps := tmps, defers := [{ target := .fn (.func 96) #[.pointer (some ⟨b1, 0, none⟩), .pointer (some ⟨b2, 0, none⟩), .pointer (some ⟨b3, 0, none⟩)], args := #[] }] } w := by
  refine leaves_cons (f := 96) (args := #[.pointer (some ⟨b1, 0, none⟩), .pointer (some ⟨b2, 0, none⟩), .pointer (some ⟨b3, 0, none⟩)]) (by simp) (by simp [go_sem]) ?_
  refine (catch_gave b1 b2 b3 v1 v2 v3 86 45 46 c w g1 g2 g3 s1 s2 s3 n12 n13 n23).mono ?_
  rintro e u' w'' ⟨rfl, rfl, ⟨r1, r2, r3⟩, hm⟩
  have c1 : w''.cell? ⟨b1, 0, none⟩ = some (.pointer none) := by rw [cell_of_row w'' b1 _ _ _ _ r1]; rfl
  have c2 : w''.cell? ⟨b2, 0, none⟩ = some (.slice none 0 0) := by rw [cell_of_row w'' b2 _ _ _ _ r2]; rfl
  have c3 : w''.cell? ⟨b3, 0, none⟩ = some (I c) := by rw [cell_of_row w'' b3 _ _ _ _ r3]; rfl
  have hh := h w'' hm
  simp [Leaves, settle, results, Try.results65, go_sem, h6, h7, h8, c1, c2, c3, hh]
set_option maxRecDepth 100000 in
theorem open_nil (w : World) (lo hi : Int) : Calls Try.prog 65 #[.pointer none, I lo, I hi] w fun e w' => e = .returned (.tuple #[.pointer none, .slice none 0 0, I 2]) ∧ Below w.heap.size w w' := by
  have hmf := closes
  go_enter_defers Try.func65, Try.ntmps65
  go_wp2
  refine door_ret rfl rfl rfl (u1 := .pointer none) (u2 := .slice none 0 0) (u3 := I 2) ?_ ?_ ?_ ⟨rfl, ?_⟩
  · go_simp
  · go_simp
  · go_simp
  · exact (((Below.refl _ _).alloc (Nat.le_refl _) _).alloc (by simp) _).alloc (by simp; omega) _
/-- What an opening comes to: an error, or the records, the place, the count. -/
def TS.opn (D : DS) (lo hi : Int) : Int × List (List UInt8) × Nat × Nat :=
  if lo < 0 ∨ (D.safe.length : Int) < hi ∨ hi ≤ lo then (1, [], 0, 0) else if D.off then (20, [], 0, 0)
  else TS.opened (TS.stretch D lo.toNat (hi.toNat - lo.toNat)) ((hi.toNat - lo.toNat) * 256 + 1) 0 0 []
set_option maxRecDepth 100000 in
theorem open_bad (w : World) (p : Nat) (own : Nat → Prop) (D : DS) (lo hi : Int) (hd : DrumAt w p own D) (hl : -9223372036854775808 ≤ lo ∧ lo ≤ 9223372036854775807) (hh : -9223372036854775808 ≤ hi ∧ hi ≤ 9223372036854775807) (hb : lo < 0 ∨ (D.safe.length : Int) < hi ∨ hi ≤ lo) :
    Calls Try.prog 65 #[.pointer (some ⟨p, 0, none⟩), I lo, I hi] w fun e w' => e = .returned (.tuple #[.pointer none, .slice none 0 0, I 1]) ∧ Below w.heap.size w w' := by
  have HD := hid hd
  clear hd
  have hmf := closes
  have hd' : ∀ w', Below w.heap.size w w' → DrumAt w' p own D := fun w' h => HD.out.below h
  have HDD := hid hd'
  clear hd'
  have h3 : lo < 0 ∨ (¬ lo < 0 ∧ (D.safe.length : Int) < hi) ∨ (¬ lo < 0 ∧ ¬ (D.safe.length : Int) < hi ∧ hi ≤ lo) := by omega
  clear hb
  rcases h3 with h3 | ⟨h3, h4⟩ | ⟨h3, h4, h5⟩
  all_goals
    go_enter_defers Try.func65, Try.ntmps65
    go_wp2_with (go_at_call 60; refine (pages_any _ p own D (HDD.out _ ((((Below.refl _ _).alloc (Nat.le_refl _) _).alloc (by simp) _).alloc (by simp; omega) _))).mono ?_; rintro e w1 ⟨rfl, rfl⟩)
    refine door_ret rfl rfl rfl (u1 := .pointer none) (u2 := .slice none 0 0) (u3 := I 1) ?_ ?_ ?_ ⟨rfl, ?_⟩
    · go_simp
    · go_simp
    · go_simp
    · exact (((Below.refl _ _).alloc (Nat.le_refl _) _).alloc (by simp) _).alloc (by simp; omega) _
theorem next_down (w : World) (t p : Nat) (own : Nat → Prop) (T : TS) (D : DS) (h : TapeIn w t p D.safe.length T) (hd : DrumAt w p own D) (ho : D.off = true) (hp : T.pos = 0) :
    Calls Try.prog 97 #[.pointer (some ⟨t, 0, none⟩)] w fun e w' => e = .panicked (gaveUp 20) ∧ Below w.heap.size w w' := by
  obtain ⟨b1, b2, b3, b4, b5, b6, b7⟩ := h.bd
  have H := hid h
  have HD := hid hd
  have HO := hid ho
  have c3 : w.cell? ⟨t, 3, none⟩ = some (I 0) := by have := h.c3; rw [hp] at this; exact this
  have hs1 : IntKind.i64.wrap ((T.size : Int) - 0) = (T.size : Int) := by rw [Int.sub_zero]; exact IntWalk.i64_in _ (by omega)
  have hs2 : IntKind.i64.wrap (T.size : Int) = (T.size : Int) := IntWalk.i64_in _ (by omega)
  have hsz : 256 ≤ T.size := by unfold TS.size; omega
  have hA' : decide ((T.size : Int) < 12) = false := decide_eq_false (by omega)
  clear h hd ho b7 hp
  go_enter Try.func97, Try.ntmps97
  go_wp2
  go_quiet ((go_at_call 98; exact Calls.quiet_of (size_any _ t p _ T (H.out.keep rfl))))
  have HW : Hid (TapeIn (w.drewN nq) t p D.safe.length T) := hid (H.out.keep rfl)
  have HDW : Hid (DrumAt (w.drewN nq) p own D) := hid (HD.out.below (below_drewN w nq))
  have hb12 := bytes_down (w.drewN nq) t p own T D HW.out HDW.out HO.out 0 12 (by omega) (by omega) (by omega)
  have c3' : (w.drewN nq).cell? ⟨t, 3, none⟩ = some (I 0) := c3
  have HBEL := hid (below_drewN w nq)
  have HZZ := hid (show (w.drewN nq).heap.size = w.heap.size from rfl)
  generalize w.drewN nq = w1 at *
  have HB12 := hid hb12
  clear hb12 c3 H HD hs1 hs2
  go_wp2_with (go_at_call 106; refine HB12.out.mono ?_; rintro e w5 ⟨rfl, hb5⟩; have HB5 := hid hb5; clear hb5)
  exact ⟨rfl, rfl, Ext.trans _ _ _ HBEL.out HB5.out⟩
/-- What is there behind the tape's four new blocks: the named results' and its own. -/
structure Born (w0 : World) (t p n : Nat) (T : TS) (sv : Value) (wr : World) : Prop where
  tt : t = w0.heap.size + 3
  g1 : wr.heap[w0.heap.size]? = some (.cells #[.pointer (some ⟨t, 0, none⟩)] 86 (0, 0))
  g2 : wr.heap[w0.heap.size + 1]? = some (.cells #[sv] 45 (0, 0))
  g3 : wr.heap[w0.heap.size + 2]? = some (.cells #[I 0] 46 (0, 0))
  tape : TapeIn wr t p n T
  below : Below w0.heap.size w0 wr
theorem heap_alloc_at {w : World} {o : Obj} {k : Nat} (h : w.heap.size = k) : (w.alloc o).heap[k]? = some o := by subst h; exact heap_alloc_new w o
theorem Born.start (w : World) (p n : Nat) (lo hi : Nat) (h1 : lo < hi) (h2 : hi ≤ n) (h3 : n ≤ 4096) :
    Born w (w.heap.size + 3) p n ⟨lo, hi, 0, 0, 0⟩ (.slice none 0 0) ((((w.alloc (.cells #[.pointer (some ⟨w.heap.size + 3, 0, none⟩)] 86)).alloc (.cells #[.slice none 0 0] 45)).alloc (.cells #[.int .i64 0] 46)).alloc (.cells #[.pointer (some ⟨p, 0, none⟩), I lo, I hi, .int .i64 0, .int .i64 0, .int .i64 0] 132)) := by
  have z1 : (w.alloc (.cells #[.pointer (some ⟨w.heap.size + 3, 0, none⟩)] 86)).heap.size = w.heap.size + 1 := by simp
  have z2 : ((w.alloc (.cells #[.pointer (some ⟨w.heap.size + 3, 0, none⟩)] 86)).alloc (.cells #[.slice none 0 0] 45)).heap.size = w.heap.size + 2 := by simp
  have z3 : (((w.alloc (.cells #[.pointer (some ⟨w.heap.size + 3, 0, none⟩)] 86)).alloc (.cells #[.slice none 0 0] 45)).alloc (.cells #[.int .i64 0] 46)).heap.size = w.heap.size + 3 := by simp
  refine ⟨rfl, ?_, ?_, ?_, ⟨⟨h1, h2, Nat.zero_le _, Nat.zero_le _, by simp⟩, h3, ?_⟩, ?_⟩
  · exact (Below.heap_alloc _ _ _ (by omega)).trans ((Below.heap_alloc _ _ _ (by omega)).trans ((Below.heap_alloc _ _ _ (by omega)).trans (heap_alloc_new _ _)))
  · refine (Below.heap_alloc _ _ _ (by omega)).trans ((Below.heap_alloc _ _ _ (by omega)).trans ?_)
    exact heap_alloc_at z1
  · refine (Below.heap_alloc _ _ _ (by omega)).trans ?_
    exact heap_alloc_at z2
  · exact heap_alloc_at z3
  · exact ((((Below.refl _ _).alloc (Nat.le_refl _) _).alloc (by omega) _).alloc (by omega) _).alloc (by omega) _
section
variable {w0 wr w' : World} {t p n : Nat} {T : TS} {sv : Value}
theorem Born.blocks (h : Born w0 t p n T sv wr) (hb : ∀ k, k = w0.heap.size ∨ k = w0.heap.size + 1 ∨ k = w0.heap.size + 2 → w'.heap[k]? = wr.heap[k]?) {T' : TS} (ht : TapeIn w' t p n T') (hB : Below w0.heap.size w0 w') : Born w0 t p n T' sv w' :=
  ⟨h.tt, (hb _ (.inl rfl)).trans h.g1, (hb _ (.inr (.inl rfl))).trans h.g2, (hb _ (.inr (.inr rfl))).trans h.g3, ht, hB⟩
theorem Born.lt (h : Born w0 t p n T sv wr) : w0.heap.size + 4 ≤ wr.heap.size := by
  have := h.tape.lt; have := h.tt; omega
theorem Born.on (h : Born w0 t p n T sv wr) (hb : Below wr.heap.size wr w') : Born w0 t p n T sv w' :=
  h.blocks (fun k hk => hb.block k (by have := h.lt; omega)) (h.tape.below hb) (h.below.trans (hb.mono h.below.size))
end
set_option maxRecDepth 100000 in
set_option maxHeartbeats 800000 in
theorem open_down (w : World) (p : Nat) (own : Nat → Prop) (D : DS) (lo hi : Nat) (hd : DrumAt w p own D) (h2 : hi ≤ D.safe.length) (h3 : lo < hi) (ho : D.off = true) :
    Calls Try.prog 65 #[.pointer (some ⟨p, 0, none⟩), I lo, I hi] w fun e w' => e = .returned (.tuple #[.pointer none, .slice none 0 0, I 20]) ∧ Below w.heap.size w w' := by
  have hn2 := hd.ok.n2
  have HD := hid hd
  have HO := hid ho
  have HN := hid (next_down)
  clear hd ho
  have hmf := closes
  have hd' : ∀ w', Below w.heap.size w w' → DrumAt w' p own D := fun w' h => HD.out.below h
  have HDD := hid hd'
  have HST := hid (Born.start w p D.safe.length lo hi h3 h2 hn2)
  have h4 : ¬ (D.safe.length : Int) < (hi : Int) := by omega
  have h5 : ¬ (hi : Int) ≤ (lo : Int) := by omega
  clear hd'
  go_enter_defers Try.func65, Try.ntmps65
  go_wp2_with (first | (go_at_call 60; refine (pages_any _ p own D (HDD.out _ ((((Below.refl _ _).alloc (Nat.le_refl _) _).alloc (by simp) _).alloc (by simp; omega) _))).mono ?_; rintro e w1 ⟨rfl, rfl⟩) | (go_at_call 97; refine (HN.out _ _ p own _ D HST.out.tape (HDD.out _ HST.out.below) HO.out rfl).mono ?_; rintro e w2 ⟨rfl, hb⟩; have HB := hid hb; clear hb))
  have hb := HST.out.on HB.out
  refine door_gave rfl rfl rfl hb.g1 hb.g2 hb.g3 rfl rfl rfl (by omega) (by omega) (by omega) (fun w' hm => ⟨rfl, ?_⟩)
  exact hb.below.trans (hm.below hb.below.size (fun i hi => by omega))
end Go.Proofs.Ytoaeapnkefjpaaa

namespace Go.Proofs.Ytoaeapnkefjpaaa
open Go.RowKit
set_option linter.unusedVariables false
set_option linter.unusedSimpArgs false

theorem info23t : (Try.prog.info? 23).map (fun i => (i.zero, i.size, i.bytes)) = some (some (.slice none 0 0), 1, 24) := by kernel_rfl
/-- Records in memory, from block 'base' on: the row v, its elements vs, whose blocks are pb's. -/
structure RecsIn (w : World) (base : Nat) (v : Value) (vs : List Value) (pb : Nat → Prop) (recs : List (List UInt8)) : Prop where
  row : w.ownsRow base 23 1 v recs.length vs
  len : vs.length = recs.length
  each : ∀ (i : Nat) (u : Value) (r : List UInt8), vs[i]? = some u → recs[i]? = some r → w.ownsRow base 5 1 u r.length (r.map B) ∧ ∀ k, u.ownBlock = some k → pb k
  pb1 : ∀ k, pb k → base ≤ k ∧ k < w.heap.size
  out : ∀ k, v.ownBlock = some k → ¬ pb k
def Recs (w : World) (base : Nat) (v : Value) (recs : List (List UInt8)) : Prop := ∃ vs pb, RecsIn w base v vs pb recs
theorem RecsIn.keep {w w' : World} {base : Nat} {v : Value} {vs : List Value} {pb : Nat → Prop} {recs : List (List UInt8)} (h : RecsIn w base v vs pb recs) (hb : ∀ k, base ≤ k → k < w.heap.size → w'.heap[k]? = w.heap[k]?) (hz : w.heap.size ≤ w'.heap.size) : RecsIn w' base v vs pb recs :=
  ⟨own_mod h.row (fun k hk => hb k (own_lt h.row k hk).1 (own_lt h.row k hk).2), h.len, fun i u r hu hr => ⟨own_mod (h.each i u r hu hr).1 (fun k hk => hb k (own_lt (h.each i u r hu hr).1 k hk).1 (own_lt (h.each i u r hu hr).1 k hk).2), (h.each i u r hu hr).2⟩, fun k hk => ⟨(h.pb1 k hk).1, Nat.lt_of_lt_of_le (h.pb1 k hk).2 hz⟩, h.out⟩
theorem Recs.below {w w' : World} {base : Nat} {v : Value} {recs : List (List UInt8)} (h : Recs w base v recs) (hb : Below w.heap.size w w') : Recs w' base v recs := by
  obtain ⟨vs, pb, h⟩ := h
  exact ⟨vs, pb, h.keep (fun k _ hk => hb.block k hk) hb.size⟩
theorem RecsIn.nil (w : World) (base : Nat) : RecsIn w base (.slice none 0 0) [] (fun _ => False) [] :=
  ⟨World.ownsRow_nil _ _ _ _, rfl, fun i u r hu => by simp at hu, fun k hk => hk.elim, fun k hk => by cases hk⟩
theorem Recs.form {w : World} {base : Nat} {v : Value} {recs : List (List UInt8)} (h : Recs w base v recs) : ∃ ao cap, v = .slice ao recs.length cap := by
  obtain ⟨vs, pb, h⟩ := h
  exact own_form h.row
/-- A record more: r's row u is new, and so is what the row has grown by. -/
theorem RecsIn.push {w w' : World} {base : Nat} {v v' u : Value} {vs : List Value} {pb : Nat → Prop} {recs : List (List UInt8)} {r : List UInt8} (h : RecsIn w base v vs pb recs)
    (hu : w.ownsRow base 5 1 u r.length (r.map B)) (hun : ∀ k, u.ownBlock = some k → ¬ pb k ∧ v.ownBlock ≠ some k) (hrow : w'.ownsRow base 23 1 v' (recs.length + 1) (vs ++ [u])) (hkeep : ∀ k, base ≤ k → k < w.heap.size → v.ownBlock ≠ some k → w'.heap[k]? = w.heap[k]?) (hz : w.heap.size ≤ w'.heap.size)
    (hv' : ∀ k, v'.ownBlock = some k → v.ownBlock = some k ∨ w.heap.size ≤ k) : RecsIn w' base v' (vs ++ [u]) (fun k => pb k ∨ u.ownBlock = some k) (recs ++ [r]) := by
  refine ⟨by rw [List.length_append]; exact hrow, by simp [h.len], fun i x q hx hq => ?_, fun k hk => ?_, fun k hk hp => ?_⟩
  · by_cases hi : i < vs.length
    · rw [List.getElem?_append_left hi] at hx
      rw [List.getElem?_append_left (by rw [← h.len]; exact hi)] at hq
      obtain ⟨e1, e2⟩ := h.each i x q hx hq
      exact ⟨own_mod e1 (fun k hk => hkeep k (own_lt e1 k hk).1 (own_lt e1 k hk).2 (fun e => h.out k e (e2 k hk))), fun k hk => .inl (e2 k hk)⟩
    · have e : i = vs.length := by
        have := (List.getElem?_eq_some_iff.1 hx).1
        simp at this; omega
      subst e
      rw [List.getElem?_append_right (Nat.le_refl _), Nat.sub_self] at hx
      rw [h.len, List.getElem?_append_right (Nat.le_refl _), Nat.sub_self] at hq
      simp at hx hq
      subst hx; subst hq
      exact ⟨own_mod hu (fun k hk => hkeep k (own_lt hu k hk).1 (own_lt hu k hk).2 (hun k hk).2), fun k hk => .inr hk⟩
  · rcases hk with hk | hk
    · exact ⟨(h.pb1 k hk).1, Nat.lt_of_lt_of_le (h.pb1 k hk).2 hz⟩
    · exact ⟨(own_lt hu k hk).1, Nat.lt_of_lt_of_le (own_lt hu k hk).2 hz⟩
  · rcases hv' k hk with h1 | h1
    · rcases hp with hp | hp
      · exact h.out k h1 hp
      · exact (hun k hp).2 h1
    · rcases hp with hp | hp
      · have := (h.pb1 k hp).2; omega
      · have := (own_lt hu k hp).2; omega
/-- Between two rounds of an opening: acc was found; r is pending (or none). -/
structure Op (w0 : World) (t p n : Nat) (T : TS) (acc : List (List UInt8)) (u : Value) (pr : Option (List UInt8)) (wr : World) : Prop where
  ex : ∃ (sv : Value) (vs : List Value) (pb : Nat → Prop), Born w0 t p n T sv wr ∧ RecsIn wr (w0.heap.size + 4) sv vs pb acc ∧ ∀ r, pr = some r → wr.ownsRow (w0.heap.size + 4) 5 1 u r.length (r.map B) ∧ ∀ k, u.ownBlock = some k → ¬ pb k ∧ sv.ownBlock ≠ some k
theorem Op.start {w0 : World} {t p n : Nat} {T : TS} {wr : World} (h : Born w0 t p n T (.slice none 0 0) wr) (u : Value) : Op w0 t p n T [] u none wr := ⟨_, _, _, h, RecsIn.nil _ _, fun r e => by cases e⟩
section
variable {w0 wr w' : World} {t p n : Nat} {T : TS} {acc : List (List UInt8)} {u : Value}
theorem Op.on (h : Op w0 t p n T acc u none wr) (hb : Below wr.heap.size wr w') (u' : Value) : Op w0 t p n T acc u' none w' := by
  obtain ⟨sv, vs, pb, h1, h2, h3⟩ := h.ex
  exact ⟨sv, vs, pb, h1.on hb, h2.keep (fun k _ hk => hb.block k hk) hb.size, fun r e => by cases e⟩
theorem Op.yes (h : Op w0 t p n T acc u none wr) {v : Value} {r : List UInt8} {T' : TS} (hv : w'.ownsRow wr.heap.size 5 1 v r.length (r.map B)) (ht : TapeIn w' t p n T') (hm : Mod (fun k => k = t) wr w') : Op w0 t p n T' acc v (some r) w' := by
  obtain ⟨sv, vs, pb, h1, h2, h3⟩ := h.ex
  have hlt := h1.lt
  have htt := h1.tt
  refine ⟨sv, vs, pb, h1.blocks (fun k hk => hm.block k (by omega) (by omega)) ht (h1.below.trans (hm.below h1.below.size (fun i hi => by omega))), h2.keep (fun k h5 hk => hm.block k hk (by omega)) hm.size, fun q e => ?_⟩
  cases e
  refine ⟨own_anew hv (fun k hk => by have := (own_lt hv k hk).1; omega), fun k hk => ?_⟩
  have := (own_lt hv k hk).1
  exact ⟨fun e => by have := (h2.pb1 k e).2; omega, fun e => by have := (own_lt h2.row k e).2; omega⟩
end
end Go.Proofs.Ytoaeapnkefjpaaa

namespace Go.Proofs.Ytoaeapnkefjpaaa
open Go.RowKit
set_option linter.unusedVariables false
set_option linter.unusedSimpArgs false
section
variable {P : Program} {ops : Array Oper} {Q : Exit → Act → World → Prop} {md : Region.Mode} {R : World → World → Prop} {ds : List Nat}
theorem wpC_of_wpK' (hrefl : ∀ w, R w w) (htr : ∀ w w' w'', R w w' → R w' w'' → R w w'') (hsel : Region.noSelect ops = true)
    (hQ : ∀ (i : Nat) (oi : Oper), ops[i]? = some oi → ∀ (c : List PanicEntry) (a : Act) (v : Value) (w : World), Q (.panic c) (Act.put a oi.dst v) w → Q (.panic c) a w) :
    ∀ (π : List (Nat × Nat)) (l : Array Bool) (a : Act) (w : World), fitsB md ops ds π l = true → wpK P ops Q R (pick ops π) a w → wpC P md ops Q R ds π.length l a w
  | [], l, a, w, hf, h => by
    simp only [fitsB, beq_iff_eq] at hf
    exact ⟨hf, h⟩
  | (i, 0) :: rest, l, a, w, hf, h => by
    simp only [fitsB, Bool.and_eq_true] at hf
    obtain ⟨⟨⟨⟨h1, h2⟩, h3⟩, h4⟩, h5⟩ := hf
    have hr : i ∈ Region.ready md ops l := by simpa using h2
    obtain ⟨_, oi, hoi, _⟩ := mem_ready.1 hr
    simp only [pick, hoi] at h
    obtain ⟨v, hy, hk⟩ := h
    exact wpC_first hrefl htr hoi (Region.noSelect_spec hsel) (fun c a w => hQ i oi hoi c a v w) ops.size _ l a w (Region.free_spec hoi h1) (shutB_spec h3)
      (fun d hm hun => by have := List.all_eq_true.1 h4 d hm; rw [hun] at this; simpa using this) hr hy (wpC_of_wpK' hrefl htr hsel hQ rest _ _ _ h5 hk)
  | (i, k + 1) :: rest, l, a, w, hf, h => by
    simp only [fitsB, Bool.and_eq_true, beq_iff_eq] at hf
    obtain ⟨⟨h1, h2⟩, h3⟩ := hf
    have hr : i ∈ Region.ready md ops l := by rw [h1]; exact List.mem_singleton.2 rfl
    obtain ⟨_, oi, hoi, _⟩ := mem_ready.1 hr
    simp only [pick, hoi] at h
    refine ⟨fun h0 => (by rw [h1] at h0; cases h0), fun j hj => ?_⟩
    rw [h1] at hj
    obtain rfl := List.mem_singleton.1 hj
    unfold wpOp
    simp only [hoi]
    unfold wpK at h
    by_cases hw : Region.wanted oi (yielded ops a.tmps) = true
    · rw [if_pos hw] at h ⊢
      refine .inl (Oper.wp_mono (fun a' w' hh => ⟨fun hnd => hh.1 ?_, wpC_of_wpK' hrefl htr hsel hQ rest _ _ _ h3 hh.2⟩) h)
      by_cases hk : k = 0
      · exact hk
      · rw [if_neg hk] at h2
        exact absurd (by simpa using h2) hnd
    · rw [if_neg hw] at h ⊢
      exact ⟨fun _ => hrefl w, wpC_of_wpK' hrefl htr hsel hQ rest _ _ _ h3 h⟩
/-- A region that draws, by one order; what is asked where it panics may read slots that the region does not write. -/
theorem wp_region_order' {id : Nat} {a : Act} {w : World} (R : World → World → Prop) (ds : List Nat) (π : List (Nat × Nat)) (l : List (Oper × Nat)) (hm : P.follows .mixedOrders = true) (hlen : π.length = ops.size) (hrefl : ∀ w, R w w) (htr : ∀ w w' w'', R w w' → R w' w'' → R w w'')
    (hc : (Region.noSelect ops && fitsB .any ops ds π (Array.replicate ops.size false)) = true) (hl : pick ops π = l) (hQ : ∀ (i : Nat) (oi : Oper), ops[i]? = some oi → ∀ (c : List PanicEntry) (a : Act) (v : Value) (w : World), Q (.panic c) (Act.put a oi.dst v) w → Q (.panic c) a w)
    (h : wpK P ops Q R l a w.drew) : (Code.region id ops true).wp P Q a w := by
  rw [Bool.and_eq_true] at hc
  subst hl
  refine wp_region_any hm (wpAny_of_wpC (R := R) (ds := ds) _ _ _ _ ?_)
  rw [← hlen]
  have := hc.2
  rw [← hlen] at this
  exact wpC_of_wpK' hrefl htr hc.1 hQ π _ a _ this h
end
theorem leaves_tmps {P : Program} {fn : Func} {tmps tmps' : Array Value} {R : Ending → World → Prop} (h : results fn tmps = results fn tmps') : ∀ (ds : List Deferred) (u : FrameMode) (w : World), Leaves P fn tmps R ds u w → Leaves P fn tmps' R ds u w
  | [], .returning, w, hh => by unfold Leaves at hh ⊢; rw [← h]; exact hh
  | [], .panicking chain, w, hh => hh
  | [], .run, _, hh => hh
  | d :: ds, u, w, hh => by
    unfold Leaves at hh ⊢
    obtain ⟨h1, fv, cap, f, args, h2, h3, h4⟩ := hh
    refine ⟨h1, fv, cap, f, args, h2, h3, h4.mono fun e u' w' hR => ?_⟩
    cases e with
    | returned v => exact leaves_tmps h ds _ _ hR
    | panicked chain => exact leaves_tmps h ds _ _ hR
    | outgrown => exact hR
theorem door_ops {P : Program} {ops : Array Oper} {fn : Func} {R : Ending → World → Prop} (ts : List Nat) (hr : ∀ (d : Tmp) (v : Value) (tmps : Array Value), d ∉ ts → results fn (tmps.setIfInBounds d v) = results fn tmps) (hck : (ops.all fun o => o.dst.all fun d => !ts.contains d) = true) :
    ∀ (i : Nat) (oi : Oper), ops[i]? = some oi → ∀ (c : List PanicEntry) (a : Act) (v : Value) (w : World), bodyPostD P fn R (.panic c) (Act.put a oi.dst v) w → bodyPostD P fn R (.panic c) a w := by
  intro i oi hi c a v w h
  have h1 := Array.all_eq_true_iff_forall_mem.1 hck oi (Array.mem_of_getElem? hi)
  cases hd : oi.dst with
  | none => rw [hd] at h; exact h
  | some d =>
    rw [hd] at h h1
    have h2 : d ∉ ts := by simpa using h1
    exact leaves_tmps (hr d v a.tmps h2) _ _ _ h
end Go.Proofs.Ytoaeapnkefjpaaa

namespace Go.Proofs.Ytoaeapnkefjpaaa
open Go.RowKit
set_option linter.unusedVariables false
set_option linter.unusedSimpArgs false

theorem Op.push {w0 wr w1 : World} {t p n : Nat} {T : TS} {acc : List (List UInt8)} {u : Value} {r : List UInt8} {sv v' : Value} {vs : List Value} {pb : Nat → Prop} (h1 : Born w0 t p n T sv wr) (h2 : RecsIn wr (w0.heap.size + 4) sv vs pb acc)
    (hu : wr.ownsRow (w0.heap.size + 4) 5 1 u r.length (r.map B)) (hun : ∀ k, u.ownBlock = some k → ¬ pb k ∧ sv.ownBlock ≠ some k)
    (hown : w1.ownsRow (w0.heap.size + 4) 23 1 v' (acc.length + 1) (vs ++ [u])) (hgrow : (wr.alloc (.cells #[u] 23)).grownBy w1 sv.ownBlock) (hat : v'.ownBlock = sv.ownBlock ∨ v'.ownBlock = some (wr.heap.size + 1)) (u' : Value) :
    Op w0 t p n T (acc ++ [r]) u' none (w1.setCell ⟨w0.heap.size + 1, 0, none⟩ v') := by
  have hlt := h1.lt
  have htt := h1.tt
  have hz : (wr.alloc (.cells #[u] 23)).heap.size = wr.heap.size + 1 := by simp
  have hsv : ∀ k, sv.ownBlock = some k → w0.heap.size + 4 ≤ k := fun k hk => (own_lt h2.row k hk).1
  have k1 : ∀ k, k < wr.heap.size → sv.ownBlock ≠ some k → w1.heap[k]? = wr.heap[k]? := fun k hk hne => (hgrow.block k (by omega) (fun e => hne e.symm)).trans (Below.heap_alloc wr _ k hk)
  have k2 : ∀ k, k < wr.heap.size → sv.ownBlock ≠ some k → k ≠ w0.heap.size + 1 → (w1.setCell ⟨w0.heap.size + 1, 0, none⟩ v').heap[k]? = wr.heap[k]? := fun k hk hne h5 => (heap_setCell_other w1 ⟨w0.heap.size + 1, 0, none⟩ k v' h5).trans (k1 k hk hne)
  have hg2 : w1.heap[w0.heap.size + 1]? = some (.cells #[sv] 45 (0, 0)) := (k1 _ (by omega) (fun e => by have := hsv _ e; omega)).trans h1.g2
  have hs1 : wr.heap.size ≤ w1.heap.size := by have := hgrow.size; omega
  have hb1 : Below w0.heap.size w0 w1 := h1.below.trans ⟨hgrow.os, hgrow.tape, hgrow.output, by omega, fun k hk => k1 k (by omega) (fun e => by have := hsv _ e; omega)⟩
  refine ⟨v', vs ++ [u], _, ⟨htt, ?_, ?_, ?_, ?_, ?_⟩, h2.push hu hun ?_ ?_ ?_ ?_, fun q e => by cases e⟩
  · exact (k2 _ (by omega) (fun e => by have := hsv _ e; omega) (by omega)).trans h1.g1
  · exact set_one hg2 rfl v'
  · exact (k2 _ (by omega) (fun e => by have := hsv _ e; omega) (by omega)).trans h1.g3
  · exact h1.tape.keep (k2 _ (by omega) (fun e => by have := hsv _ e; omega) (by omega))
  · exact hb1.setCell (by simp) _
  · exact own_mod hown (fun k hk => heap_setCell_other w1 ⟨w0.heap.size + 1, 0, none⟩ k v' (fun e => by have := (own_lt hown k hk).1; simp only at e; omega))
  · exact fun k h5 hk hne => k2 k hk hne (by omega)
  · simpa using hs1
  · intro k hk
    rcases hat with e | e
    · exact .inl (e.symm.trans hk)
    · rw [e] at hk
      have := Option.some.inj hk
      exact .inr (by omega)
/-- Both blocks stay. -/
def KeepTwo (a b : Nat) (w w' : World) : Prop := w'.heap[a]? = w.heap[a]? ∧ w'.heap[b]? = w.heap[b]?
theorem KeepTwo.refl {a b : Nat} (w : World) : KeepTwo a b w w := ⟨rfl, rfl⟩
theorem KeepTwo.trans {a b : Nat} (w w' w'' : World) (h : KeepTwo a b w w') (k : KeepTwo a b w' w'') : KeepTwo a b w w'' := ⟨k.1.trans h.1, k.2.trans h.2⟩
/-- What Open comes to. -/
def Opened (w0 : World) (p n lo hi : Nat) (x : Int × List (List UInt8) × Nat × Nat) (e : Ending) (w' : World) : Prop :=
  (x.1 ≠ 0 ∧ e = .returned (.tuple #[.pointer none, .slice none 0 0, I x.1]) ∧ Below w0.heap.size w0 w') ∨
  (x.1 = 0 ∧ ∃ t v, e = .returned (.tuple #[.pointer (some ⟨t, 0, none⟩), v, I 0]) ∧ w0.heap.size ≤ t ∧ TapeIn w' t p n ⟨lo, hi, x.2.2.1, x.2.2.2, 0⟩ ∧ Recs w' (t + 1) v x.2.1 ∧ Below w0.heap.size w0 w')
/-- The place of the tape at t. -/
def posOf (t : Nat) (w : World) : Nat := match w.cell? ⟨t, 3, none⟩ with | some (.int _ n) => n.toNat | _ => 0
theorem posOf_is {w : World} {t p n : Nat} {T : TS} (h : TapeIn w t p n T) : posOf t w = T.pos := by unfold posOf; rw [h.c3]; rfl
def isOne (v : Value) : Nat := match v with | .bool true => 1 | _ => 0
theorem getD_set (tmps : Array Value) (d k : Nat) (v : Value) (h : d ≠ k) : (tmps.setIfInBounds d v)[k]?.getD undef = tmps[k]?.getD undef := by
  rw [Array.getElem?_setIfInBounds_ne h]
theorem res65 (d : Tmp) (v : Value) (tmps : Array Value) (h : d ∉ [6, 7, 8]) : results Try.f65 (tmps.setIfInBounds d v) = results Try.f65 tmps := by
  simp only [List.mem_cons, List.not_mem_nil, or_false, not_or] at h
  simp [results, Try.results65, getD_set tmps d 6 v h.1, getD_set tmps d 7 v h.2.1, getD_set tmps d 8 v h.2.2]
theorem hq65 {ops : Array Oper} {R : Ending → World → Prop} (hck : (ops.all fun o => o.dst.all fun d => ![6, 7, 8].contains d) = true) (i : Nat) (oi : Oper) (hi : ops[i]? = some oi) (c : List PanicEntry) (a : Act) (v : Value) (w : World) (h : bodyPostD Try.prog Try.f65 R (.panic c) (Act.put a oi.dst v) w) : bodyPostD Try.prog Try.f65 R (.panic c) a w :=
  door_ops [6, 7, 8] res65 hck i oi hi c a v w h
/-- A result of next, pending. -/
def Pend (w0 : World) (t p n lo hi : Nat) (S : List UInt8) (X : Int × List (List UInt8) × Nat × Nat) (v : Value) (b : Bool) (wr : World) : Prop :=
  ∃ (T : TS) (acc : List (List UInt8)), T.lo = lo ∧ T.hi = hi ∧ T.sick = 0 ∧
    ((b = false ∧ Op w0 t p n T acc v none wr ∧ X = (0, acc, T.pos, T.count) ∧ acc.length = T.count) ∨
     (∃ r k, b = true ∧ Op w0 t p n T acc v (some r) wr ∧ X = TS.opened S k T.pos T.count (acc ++ [r]) ∧ S.length + 1 ≤ k + T.pos ∧ acc.length + 1 = T.count))
theorem found_bad {S : List UInt8} {a c : Nat} {e : Int} (h : TS.found S a c = .bad e) : e ≠ 0 := by
  unfold TS.found at h
  split at h
  · cases h
  · split at h
    · cases h
    · split at h
      · split at h
        · cases h
        · cases h; decide
      · cases h; decide
theorem Op.tape {w0 wr : World} {t p n : Nat} {T : TS} {acc : List (List UInt8)} {u : Value} {pr : Option (List UInt8)} (h : Op w0 t p n T acc u pr wr) : TapeIn wr t p n T := by
  obtain ⟨sv, vs, pb, h1, h2, h3⟩ := h.ex
  exact h1.tape
theorem Op.below {w0 wr : World} {t p n : Nat} {T : TS} {acc : List (List UInt8)} {u : Value} {pr : Option (List UInt8)} (h : Op w0 t p n T acc u pr wr) : Below w0.heap.size w0 wr := by
  obtain ⟨sv, vs, pb, h1, h2, h3⟩ := h.ex
  exact h1.below
/-- One step more. -/
theorem next_step {w0 wr : World} {t p lo hi : Nat} {own : Nat → Prop} {T : TS} {D : DS} {acc : List (List UInt8)} {u : Value} {S : List UInt8} {X : Int × List (List UInt8) × Nat × Nat} {k : Nat} (h : Op w0 t p D.safe.length T acc u none wr) (hd : DrumAt wr p own D) (ho : D.off = false)
    (h1 : T.lo = lo) (h2 : T.hi = hi) (h3 : T.sick = 0) (hS : S = TS.stretch D lo (hi - lo)) (hX : X = TS.opened S k T.pos T.count acc) (hk : S.length + 1 ≤ k + T.pos) (hl : S.length = (hi - lo) * 256) (hc : acc.length = T.count) :
    Calls Try.prog 97 #[.pointer (some ⟨t, 0, none⟩)] wr fun e w' =>
      (∃ v b, e = .returned (.tuple #[v, .bool b]) ∧ Pend w0 t p D.safe.length lo hi S X v b w' ∧ ((b = false ∧ posOf t w' = T.pos) ∨ (b = true ∧ T.pos + 12 ≤ posOf t w')) ∧ posOf t w' ≤ S.length) ∨
      (∃ e0, X = (e0, [], 0, 0) ∧ e0 ≠ 0 ∧ e = .panicked (gaveUp e0) ∧ Below wr.heap.size wr w') := by
  have ht := h.tape
  have hS2 : TS.bytes D T = S := by unfold TS.bytes; rw [h1, h2, hS]
  have hn := next_any wr t p own T D ht hd ho
  rw [hS2] at hn
  have hpos := ht.ok.pos
  have hsz : T.size = S.length := by unfold TS.size; rw [h1, h2, hl]
  obtain ⟨k, rfl⟩ : ∃ m, k = m + 1 := ⟨k - 1, by omega⟩
  unfold TS.opened at hX
  cases hF : TS.found S T.pos T.count with
  | no =>
    rw [hF] at hn hX
    refine hn.mono fun e w' hh => .inl ?_
    obtain ⟨rfl, hb⟩ := hh
    have hop := h.on hb (.slice none 0 0)
    have hp := posOf_is hop.tape
    exact ⟨_, false, rfl, ⟨T, acc, h1, h2, h3, .inl ⟨rfl, hop, hX, hc⟩⟩, .inl ⟨rfl, hp⟩, by rw [hp]; omega⟩
  | bad e0 =>
    rw [hF] at hn hX
    refine hn.mono fun e w' hh => .inr ?_
    obtain ⟨rfl, hb⟩ := hh
    exact ⟨e0, hX, found_bad hF, rfl, hb⟩
  | yes r =>
    rw [hF] at hn hX
    refine hn.mono fun e w' hh => .inl ?_
    obtain ⟨v, rfl, hv, ht', hm⟩ := hh
    have hop := h.yes hv ht' hm
    have hp := posOf_is hop.tape
    have hy := TS.found_yes hF
    exact ⟨_, true, rfl, ⟨{ T with pos := T.pos + 12 + r.length, count := T.count + 1 }, acc, h1, h2, h3, .inr ⟨r, k, rfl, hop, hX, by show S.length + 1 ≤ k + (T.pos + 12 + r.length); omega, by show acc.length + 1 = T.count + 1; omega⟩⟩, .inr ⟨rfl, by rw [hp]; show T.pos + 12 ≤ T.pos + 12 + r.length; omega⟩, by rw [hp]; exact hy.1⟩
set_option maxRecDepth 100000 in
set_option maxHeartbeats 1600000 in
theorem open_on (w : World) (p : Nat) (own : Nat → Prop) (D : DS) (lo hi : Nat) (hd : DrumAt w p own D) (h2 : hi ≤ D.safe.length) (h3 : lo < hi) (ho : D.off = false) :
    Calls Try.prog 65 #[.pointer (some ⟨p, 0, none⟩), I lo, I hi] w (Opened w p D.safe.length lo hi (TS.opened (TS.stretch D lo (hi - lo)) ((hi - lo) * 256 + 1) 0 0 [])) := by
  have hn2 := hd.ok.n2
  have HD := hid hd
  have HO := hid ho
  obtain ⟨S, hS⟩ : ∃ S, S = TS.stretch D lo (hi - lo) := ⟨_, rfl⟩
  rw [← hS]
  have HS := hid hS
  have hSl : S.length = (hi - lo) * 256 := by rw [hS]; exact TS.stretch_len hd.ok (by omega)
  have HSL := hid hSl
  obtain ⟨X, hX⟩ : ∃ X, X = TS.opened S ((hi - lo) * 256 + 1) 0 0 [] := ⟨_, rfl⟩
  rw [← hX]
  have HX := hid hX
  clear hd ho hS hSl hX
  have hmf := closes
  have hd' : ∀ w', Below w.heap.size w w' → DrumAt w' p own D := fun w' h => HD.out.below h
  have HDD := hid hd'
  have HST := hid (Born.start w p D.safe.length lo hi h3 h2 hn2)
  have h4 : ¬ (D.safe.length : Int) < (hi : Int) := by omega
  have h5 : ¬ (hi : Int) ≤ (lo : Int) := by omega
  clear hd'
  go_enter_defers Try.func65, Try.ntmps65
  go_wp2_with (first | (go_at_call 60; refine (pages_any _ p own D (HDD.out _ ((((Below.refl _ _).alloc (Nat.le_refl _) _).alloc (by simp) _).alloc (by simp; omega) _))).mono ?_; rintro e w1 ⟨rfl, rfl⟩))
  refine (next_step (S := S) (X := X) (lo := lo) (hi := hi) (k := (hi - lo) * 256 + 1) (Op.start HST.out (.slice none 0 0)) (HDD.out _ HST.out.below) HO.out rfl rfl rfl HS.out HX.out (by rw [HSL.out]; omega) HSL.out rfl).mono ?_
  rintro e w2 (⟨v, b, rfl, hp, -, hp2⟩ | ⟨e0, hx, he, rfl, hb⟩)
  rotate_left
  · have hb := HST.out.on hb
    refine door_gave rfl rfl rfl hb.g1 hb.g2 hb.g3 rfl rfl rfl (by omega) (by omega) (by omega) (fun w' hm => .inl ⟨by rw [hx]; exact he, by rw [hx], ?_⟩)
    exact hb.below.trans (hm.below hb.below.size (fun i hi => by omega))
  have HP := hid hp
  have HP2 := hid hp2
  clear hp hp2 HST
  clear h4 h5
  go_wp2
  go_loopw [9, 10] (fun v is wr => ∃ b : Bool, is = .bool b ∧ Hid (Pend w (w.heap.size + 3) p D.safe.length lo hi S X v b wr)) (fun _ is wr => 2 * (S.length - posOf (w.heap.size + 3) wr) + isOne is)
  case atStart => exact ⟨b, rfl, HP⟩
  case round =>
    clear HP HP2
    obtain ⟨b', rfl, HP⟩ := hrel
    cases b'
    · obtain ⟨T, acc, e1, e2, e3, hh⟩ := HP.out
      have hop : Op w (w.heap.size + 3) p D.safe.length T acc u9 none wr ∧ X = (0, acc, T.pos, T.count) := by
        rcases hh with ⟨_, h1, h2, _⟩ | ⟨r, k, hb, _⟩
        · exact ⟨h1, h2⟩
        · cases hb
      obtain ⟨hop, hx⟩ := hop
      obtain ⟨sv, vs, pb, hB, hR, -⟩ := hop.ex
      have k1 : ∀ w', KeepTwo w.heap.size (w.heap.size + 1) wr.drew w' → w'.cell? ⟨w.heap.size, 0, none⟩ = some (.pointer (some ⟨w.heap.size + 3, 0, none⟩)) := fun w' hk => by rw [cell_of_row w' _ _ _ _ _ (hk.1.trans hB.g1)]; rfl
      have k2 : ∀ w', KeepTwo w.heap.size (w.heap.size + 1) wr.drew w' → w'.cell? ⟨w.heap.size + 1, 0, none⟩ = some sv := fun w' hk => by rw [cell_of_row w' _ _ _ _ _ (hk.2.trans hB.g2)]; rfl
      obtain ⟨aos, cos, rfl⟩ := own_form hR.row
      have HBo := hid hB
      have HRe := hid hR
      have HXX := hid hx
      have HT : Hid (T = ⟨lo, hi, T.pos, T.count, 0⟩) := hid (by cases T; simp only at e1 e2 e3; subst e1 e2 e3; rfl)
      clear hop hx hB hR hh e1 e2 e3 HP
      go_wp2
      refine wp_region_order' (KeepTwo w.heap.size (w.heap.size+1)) [3,4] [(0,0),(1,0),(2,1),(3,2),(4,2)] _ (by kernel_rfl) rfl KeepTwo.refl KeepTwo.trans (by kernel_rfl) (by simp only [pick, List.getElem?_toArray, List.getElem?_cons_zero, List.getElem?_cons_succ]; rfl) (fun i oi hi c a v w h => hq65 (by kernel_rfl) i oi hi c a v w h) ?_
      refine wpK_q (v := ?_) (a' := ?_) (by rfl) (fun w' hR => ?_) ?_ ?_
      rotate_left 2
      · go_simp; with_reducible rfl
      · simp only [Act.put, List.setIfInBounds_toArray, List.set_cons_zero, List.set_cons_succ]; rfl
      refine wpK_q (v := ?_) (a' := ?_) (by rfl) (fun w' hR => ?_) ?_ ?_
      rotate_left 2
      · go_simp; with_reducible rfl
      · simp only [Act.put, List.setIfInBounds_toArray, List.set_cons_zero, List.set_cons_succ]; rfl
      have hB := HBo.out
      have q1 : wr.drew.cell? ⟨w.heap.size, 0, none⟩ = some (.pointer (some ⟨w.heap.size + 3, 0, none⟩)) := k1 _ (KeepTwo.refl _)
      have s1 := set_one (show wr.drew.heap[w.heap.size]? = _ from hB.g1) rfl (.pointer (some ⟨w.heap.size + 3, 0, none⟩))
      refine wpK_s (by rfl) rfl (exec_store rfl (vx := .pointer (some ⟨w.heap.size, 0, none⟩)) (vy := .pointer (some ⟨w.heap.size + 3, 0, none⟩)) rfl rfl (run_store1 (u := .pointer (some ⟨w.heap.size + 3, 0, none⟩)) (by kernel_rfl) rfl rfl q1 (frozen_row (show wr.drew.heap[w.heap.size]? = _ from hB.g1) 0))) (fun _ => ⟨s1.trans hB.g1.symm, heap_setCell_other wr.drew ⟨w.heap.size, 0, none⟩ _ _ (by simp)⟩) ?_
      obtain ⟨wx, hwx⟩ : ∃ wx, wx = wr.drew.setCell ⟨w.heap.size, 0, none⟩ (.pointer (some ⟨w.heap.size + 3, 0, none⟩)) := ⟨_, rfl⟩
      have x1 : ∀ k, wx.heap[k]? = wr.heap[k]? := fun k => by
        rw [hwx]
        by_cases e : k = w.heap.size
        · rw [e, s1]; exact hB.g1.symm
        · exact heap_setCell_other wr.drew ⟨w.heap.size, 0, none⟩ k _ e
      have z1 : wx.heap.size = wr.heap.size := by rw [hwx]; simp
      have o1 : wx.os = wr.os ∧ wx.tape = wr.tape ∧ wx.output = wr.output := by rw [hwx]; exact ⟨rfl, rfl, rfl⟩
      rw [← hwx]
      have q2 : wx.cell? ⟨w.heap.size + 1, 0, none⟩ = some (.slice aos acc.length cos) := by rw [cell_of_row wx _ _ _ _ _ ((x1 _).trans hB.g2)]; rfl
      have s2 := set_one ((x1 _).trans hB.g2) rfl (.slice aos acc.length cos)
      refine wpK_s (by rfl) rfl (exec_store rfl (vx := .pointer (some ⟨w.heap.size + 1, 0, none⟩)) (vy := .slice aos acc.length cos) rfl rfl (run_store1 (u := .slice aos acc.length cos) (by kernel_rfl) rfl rfl q2 (frozen_row ((x1 _).trans hB.g2) 0))) (fun h => by cases h) ?_
      obtain ⟨wy, hwy⟩ : ∃ wy, wy = wx.setCell ⟨w.heap.size + 1, 0, none⟩ (.slice aos acc.length cos) := ⟨_, rfl⟩
      have x2 : ∀ k, wy.heap[k]? = wr.heap[k]? := fun k => by
        rw [hwy]
        by_cases e : k = w.heap.size + 1
        · rw [e, s2]; exact hB.g2.symm
        · exact (heap_setCell_other wx ⟨w.heap.size + 1, 0, none⟩ k _ e).trans (x1 k)
      have z2 : wy.heap.size = wr.heap.size := by rw [hwy]; simpa using z1
      have o2 : wy.os = wr.os ∧ wy.tape = wr.tape ∧ wy.output = wr.output := by rw [hwy]; exact o1
      rw [← hwy]
      have q3 : wy.cell? ⟨w.heap.size + 2, 0, none⟩ = some (I 0) := by rw [cell_of_row wy _ _ _ _ _ ((x2 _).trans hB.g3)]; rfl
      have s3 := set_one ((x2 _).trans hB.g3) rfl (I 0)
      refine wpK_s (by rfl) rfl (exec_store rfl (vx := .pointer (some ⟨w.heap.size + 2, 0, none⟩)) (vy := I 0) rfl rfl (run_store1 (u := I 0) (by kernel_rfl) rfl rfl q3 (frozen_row ((x2 _).trans hB.g3) 0))) (fun h => by cases h) ?_
      obtain ⟨wz, hwz⟩ : ∃ wz, wz = wy.setCell ⟨w.heap.size + 2, 0, none⟩ (I 0) := ⟨_, rfl⟩
      have x3 : ∀ k, wz.heap[k]? = wr.heap[k]? := fun k => by
        rw [hwz]
        by_cases e : k = w.heap.size + 2
        · rw [e, s3]; exact hB.g3.symm
        · exact (heap_setCell_other wy ⟨w.heap.size + 2, 0, none⟩ k _ e).trans (x2 k)
      have z3 : wz.heap.size = wr.heap.size := by rw [hwz]; simpa using z2
      have o3 : wz.os = wr.os ∧ wz.tape = wr.tape ∧ wz.output = wr.output := by rw [hwz]; exact o2
      rw [← hwz]
      have hBz : Below wr.heap.size wr wz := ⟨o3.1, o3.2.1, o3.2.2, by omega, fun k _ => x3 k⟩
      have HBz := hid hBz
      refine wpK_done ?_
      clear k1 k2 q1 s1 hwx x1 z1 o1 q2 s2 hwy x2 z2 o2 q3 s3 hwz x3 z3 o3 hBz hB
      have hB := HBo.out.on HBz.out
      have d1 : wz.cell? ⟨w.heap.size, 0, none⟩ = some (.pointer (some ⟨w.heap.size + 3, 0, none⟩)) := by rw [cell_of_row wz _ _ _ _ _ hB.g1]; rfl
      have d2 : wz.cell? ⟨w.heap.size + 1, 0, none⟩ = some (.slice aos acc.length cos) := by rw [cell_of_row wz _ _ _ _ _ hB.g2]; rfl
      have d3 : wz.cell? ⟨w.heap.size + 2, 0, none⟩ = some (I 0) := by rw [cell_of_row wz _ _ _ _ _ hB.g3]; rfl
      have HBB := hid hB
      clear hB
      go_wp2
      refine door_ret rfl rfl rfl d1 d2 d3 (.inr ?_)
      rw [HXX.out]
      refine ⟨rfl, _, _, rfl, by omega, ?_, ⟨vs, pb, HRe.out.keep (fun k _ hk => HBz.out.block k hk) HBz.out.size⟩, HBB.out.below⟩
      have := HBB.out.tape
      rw [HT.out] at this
      exact this
    · obtain ⟨T, acc, e1, e2, e3, hh⟩ := HP.out
      have hop : ∃ r k, Op w (w.heap.size + 3) p D.safe.length T acc u9 (some r) wr ∧ X = TS.opened S k T.pos T.count (acc ++ [r]) ∧ S.length + 1 ≤ k + T.pos ∧ acc.length + 1 = T.count := by
        rcases hh with ⟨hb, _⟩ | ⟨r, k, _, h1, h2, h3⟩
        · cases hb
        · exact ⟨r, k, h1, h2, h3⟩
      obtain ⟨r, k, hop, hx, hk, hcc⟩ := hop
      obtain ⟨sv, vs, pb, hB, hR, hU⟩ := hop.ex
      obtain ⟨hu, hun⟩ := hU r rfl
      have hac : acc.length ≤ 1048576 := by have := hop.tape.bd; omega
      have HCC := hid hcc
      obtain ⟨aos, cos, rfl⟩ := own_form hR.row
      obtain ⟨aou, cou, rfl⟩ := own_form hu
      have c1 : wr.cell? ⟨w.heap.size + 1, 0, none⟩ = some (.slice aos acc.length cos) := by rw [cell_of_row wr _ _ _ _ _ hB.g2]; rfl
      have hpo := posOf_is hop.tape
      have HBo := hid hB
      have HRe := hid hR
      have HU := hid hu
      have HUN := hid hun
      have HXX := hid hx
      have HK := hid hk
      have HPO := hid hpo
      have hbz : w.heap.size + 4 ≤ wr.heap.size := hB.lt
      have E1 := hid e1
      have E2 := hid e2
      have E3 := hid e3
      clear hop hx hB hR hh e1 e2 e3 HP hu hun hU hk hpo hcc
      go_wp2_with (at_builtin; refine wpList_app rfl (.tmp 45) (.tmp 47) 45 rfl (w.heap.size + 4) 23 (.slice none 0 0) 1 24 Try.underlying45 info23t rfl (by decide) acc.length vs 1 [.slice aou r.length cou] ?own ?src ?h63 ?hb ?hbase ?_)
      case own => exact HRe.out.row.alloc _
      case src => exact Src.new wr 1 23 [_] rfl (fun x hx => by obtain rfl := List.mem_singleton.1 hx; rfl)
      case h63 => unfold maxLen; omega
      case hb => omega
      case hbase => simp; omega
      intro v' w1 hown hgrow hat
      have hpush := Op.push HBo.out HRe.out HU.out HUN.out hown hgrow hat (.slice none 0 0)
      have hsv := fun k hk => (own_lt HRe.out.row k hk).1
      have hg2 : w1.heap[w.heap.size + 1]? = some (.cells #[.slice aos acc.length cos] 45 (0, 0)) := ((hgrow.block _ (by simp; omega) (fun e => by have := hsv _ e.symm; omega)).trans (Below.heap_alloc wr _ _ (by omega))).trans HBo.out.g2
      have hc2 : w1.cell? ⟨w.heap.size + 1, 0, none⟩ = some (.slice aos acc.length cos) := by rw [cell_of_row w1 _ _ _ _ _ hg2]; rfl
      have hf2 := frozen_row hg2 0
      obtain ⟨av, cv, rfl⟩ := own_form hown
      have HPU := hid hpush
      have hlen3 : (w1.setCell ⟨w.heap.size + 1, 0, none⟩ (.slice av (acc.length + 1) cv)).cell? ⟨w.heap.size, 0, none⟩ = some (.pointer (some ⟨w.heap.size + 3, 0, none⟩)) := by
        obtain ⟨sv2, vs2, pb2, hB2, -, -⟩ := hpush.ex
        rw [cell_of_row _ _ _ _ _ _ hB2.g1]; rfl
      have hlen4 : w1.cell? ⟨w.heap.size, 0, none⟩ = some (.pointer (some ⟨w.heap.size + 3, 0, none⟩)) := by
        refine (World.cell?_of_block (w := w1.setCell ⟨w.heap.size + 1, 0, none⟩ (.slice av (acc.length + 1) cv)) (a := ⟨w.heap.size, 0, none⟩) ?_).trans hlen3
        exact (heap_setCell_other w1 ⟨w.heap.size + 1, 0, none⟩ _ _ (by simp)).symm
      clear hown hgrow hat hpush hg2 hsv c1 hlen3
      go_wp2_with fail
      refine (next_step (S := S) (X := X) (lo := lo) (hi := hi) (k := k) (acc := acc ++ [r]) (T := T) HPU.out (HDD.out _ HPU.out.below) HO.out E1.out E2.out E3.out HS.out HXX.out HK.out HSL.out (by rw [List.length_append]; exact HCC.out)).mono ?_
      rintro e w2 (⟨v2, b2, rfl, hp, hq, hp2⟩ | ⟨e0, hx, he, rfl, hb⟩)
      · have HP := hid hp
        have HQ := hid hq
        have HP2 := hid hp2
        clear hp hq hp2
        go_wp2
        go_roundw
        case rel => exact ⟨b2, rfl, HP⟩
        case measure =>
          have h1 := HPO.out
          have h2 := HP2.out
          rw [h1]
          rcases HQ.out with ⟨rfl, h3⟩ | ⟨rfl, h3⟩
          · rw [h3]; simp [isOne]
          · show 2 * (S.length - posOf (w.heap.size + 3) w2) + 1 < 2 * (S.length - T.pos) + 1
            omega
      · have hb := HPU.out.on hb (.slice none 0 0)
        obtain ⟨sv2, vs2, pb2, hB2, -, -⟩ := hb.ex
        refine door_gave rfl rfl rfl hB2.g1 hB2.g2 hB2.g3 rfl rfl rfl (by omega) (by omega) (by omega) (fun w' hm => .inl ⟨by rw [hx]; exact he, by rw [hx], ?_⟩)
        exact hB2.below.trans (hm.below hB2.below.size (fun i hi => by omega))
end Go.Proofs.Ytoaeapnkefjpaaa

namespace Go.Proofs.Ytoaeapnkefjpaaa
open Go.RowKit
set_option linter.unusedVariables false
set_option linter.unusedSimpArgs false
section
variable {P : Program} {F : Fence} {n : Nat}
/-- What is asked at a round's end; a panic passes the round. -/
def roundPostP (P : Program) (l : Nat) (R : Ending → World → Prop) : Exit → Act → World → Prop
  | .normal, _, w => ∃ v w', (Instr.endRound l none).run P w = .ok v w' ∧ R (.returned v) w'
  | .panic chain, a, w => a.defers = [] ∧ R (.panicked chain) w
  | _, _, _ => False
theorem roundIn_of_wpInP {l : Nat} {f : FuncId} {fn : Func} {tmps : Array Value} {assign body : Code} {w : World} {R : Ending → World → Prop} (hF : F.fn f) (hfn : P.funcs[f]? = some fn)
    (h : assign.wpIn (F.inRound l) n P (Exit.then (fun a₁ w₁ => ∃ w₂, (Instr.beginRound l).run P w₁ = .ok () w₂ ∧ body.wpIn (F.inRound l) n P (roundPostP P l R) a₁ w₂) (fun _ _ _ => False))
      { tmps := tmps, defers := [] } w) :
    RoundIn F n P l f tmps assign body w R := by
  refine ⟨hF, fun c cs hr => ?_⟩
  let b : Frame := { (default : Frame) with fn := f, kind := .normal, roundOf := some l }
  have hb0 : Frame.round l f tmps assign body .normal = b.atR { tmps := tmps, defers := [] } [.code assign, .beginRound, .code body] := by
    simp [Frame.round, Frame.atR, b]
  have hr' : (F.inRound l).room ((c :: cs).length + 1 + n) := hr
  have hF' : (F.inRound l).fn b.fn := hF
  obtain ⟨e, a₁, w₁, hq, harr⟩ := h b [.beginRound, .code body] (c :: cs) rfl hF' hr'
  rw [← hb0] at harr
  cases e with
  | normal =>
    obtain ⟨w₂, hbr, hbody⟩ := hq
    have s1 : StepsIn (Machine.fenced P (F.inRound l)) P (lone (b.atR a₁ [.beginRound, .code body]) (c :: cs) w₁) (lone (b.atR a₁ [.code body]) (c :: cs) w₂) :=
      .one (fenced_calm (fr := b.atR a₁ [.beginRound, .code body]) hF' hr' rfl) (stepR_beginRound rfl hbr)
    obtain ⟨e₂, a₂, w₃, hq₂, harr₂⟩ := hbody b [] (c :: cs) rfl hF' hr'
    cases e₂ with
    | normal =>
      obtain ⟨v, w₄, hend, hR⟩ := hq₂
      exact ⟨.returned v, w₄, hR, (StepsIn.trans harr s1).trans (StepsIn.trans harr₂ (.one (fenced_calm (fr := b.atR a₂ []) hF' hr' rfl) (stepR_round_end rfl rfl hend)))⟩
    | panic chain =>
      obtain ⟨hd, hR⟩ := hq₂
      obtain ⟨todo, hs⟩ := harr₂
      have hl : ({ b.atR a₂ todo with mode := .panicking chain } : Frame).leaving P w₃ (.panicked chain) := ⟨rfl, hd, fn, hfn⟩
      refine ⟨.panicked chain, w₃, hR, (StepsIn.trans harr s1).trans (StepsIn.trans hs (.one ?_ (step_leave_panicked hl)))⟩
      exact fenced_leaving (n := n) hF' hr' hl
    | ret => exact hq₂.elim
    | exit id => exact hq₂.elim
    | goto t => exact hq₂.elim
    | outgrown => exact hq₂.elim
  | exit id => exact hq.elim
  | goto t => exact hq.elim
  | ret => exact hq.elim
  | panic chain => exact hq.elim
  | outgrown => exact hq.elim
/-! ### an operation in a round -/
theorem operIn_of {l : Nat} {o : Oper} {a : Act} {w : World} {next : Act → World → Prop} {Q : Exit → Act → World → Prop} (hd : ∀ c, o.op ≠ .defer c) (h : o.wp P a w next Q) : o.wpIn (Fence.wide.inRound l) n P a w next Q := by
  unfold Oper.wp at h
  unfold Oper.wpIn
  refine ⟨fun _ _ => trivial, ?_⟩
  rw [Oper.semAt_eq _ _ _ hd]
  generalize (execOp a.eval o).run P w = r at *
  have hn : (Fence.wide.inRound l).depth.isSome = true → 1 ≤ n := fun e => by simp [Fence.wide] at e
  cases r with
  | ok x w' =>
    cases x <;> simp only [Oper.upon, Oper.uponIn] at h ⊢ <;> first
      | exact h
      | exact ⟨hn, (callsIn_wide (n := n - 1)).2 h⟩
      | exact ⟨hn, fun c cs _ => let ⟨v, w'', r, s⟩ := h c cs; ⟨v, w'', r, stepsIn_wide.2 s⟩⟩
  | halt x w' => cases x <;> simp only [Oper.upon, Oper.uponIn] at h ⊢ <;> exact h
variable {ops : Array Oper} {Q : Exit → Act → World → Prop} {md : Region.Mode} {R : World → World → Prop} {ds : List Nat}
theorem wpOpIn_of {l : Nat} (hno : ¬ LetsOut Q) (hnd : ∀ (j : Nat) (o : Oper), ops[j]? = some o → ∀ c, o.op ≠ .defer c) {i : Nat} {K : Act → World → Prop} {a : Act} {w : World} (h : wpOp P ops Q i K a w) : wpOpIn (Fence.wide.inRound l) n P ops Q i K a w := by
  unfold wpOp at h
  unfold wpOpIn
  cases ho : ops[i]? with
  | none => simpa [ho] using h
  | some o =>
    simp only [ho] at h ⊢
    split
    · rename_i hw
      rw [if_pos hw] at h
      rcases h with h | h
      · exact operIn_of (hnd i o ho) h
      · exact absurd h.2 hno
    · rename_i hw
      rw [if_neg hw] at h
      exact ⟨fun _ _ => trivial, h⟩
theorem wpAnyIn_of {l : Nat} (hno : ¬ LetsOut Q) (hnd : ∀ (j : Nat) (o : Oper), ops[j]? = some o → ∀ c, o.op ≠ .defer c) : ∀ (fuel : Nat) (listed : Array Bool) (a : Act) (w : World), wpAny P md ops Q fuel listed a w → wpAnyIn (Fence.wide.inRound l) n P md ops Q fuel listed a w
  | 0, _, _, _, h => h
  | fuel + 1, _, _, _, h => ⟨h.1, fun i hi => wpOpIn_mono (fun a' w' h' => wpAnyIn_of hno hnd fuel _ a' w' h') (wpOpIn_of hno hnd (h.2 i hi))⟩
def calmB (ops : Array Oper) : Bool := ops.all fun o => match o.op with | .defer _ => false | _ => true
theorem calmB_spec (h : calmB ops = true) : ∀ (j : Nat) (o : Oper), ops[j]? = some o → ∀ c, o.op ≠ .defer c := by
  intro j o ho c e
  have h1 := Array.all_eq_true_iff_forall_mem.1 h o (Array.mem_of_getElem? ho)
  rw [e] at h1
  cases h1
/-- A drawn region in a round, by one order. -/
theorem wpIn_region_round {l id : Nat} {a : Act} {w : World} (R : World → World → Prop) (ds : List Nat) (π : List (Nat × Nat)) (lst : List (Oper × Nat)) (hno : ¬ LetsOut Q) (hcalm : calmB ops = true) (hm : P.follows .mixedOrders = true) (hlen : π.length = ops.size) (hrefl : ∀ w, R w w) (htr : ∀ w w' w'', R w w' → R w' w'' → R w w'')
    (hc : (Region.noSelect ops && fitsB .any ops ds π (Array.replicate ops.size false)) = true) (hl : pick ops π = lst) (hQ : ∀ (i : Nat) (oi : Oper), ops[i]? = some oi → ∀ (c : List PanicEntry) (a : Act) (v : Value) (w : World), Q (.panic c) (Act.put a oi.dst v) w → Q (.panic c) a w)
    (h : wpK P ops Q R lst a w.drew) : (Code.region id ops true).wpIn (Fence.wide.inRound l) n P Q a w := by
  rw [Bool.and_eq_true] at hc
  subst hl
  refine wpIn_region_any hm (wpAnyIn_of hno (calmB_spec hcalm) _ _ _ _ (wpAny_of_wpC (R := R) (ds := ds) _ _ _ _ ?_))
  rw [← hlen]
  have := hc.2
  rw [← hlen] at this
  exact wpC_of_wpK' hrefl htr hc.1 hQ π _ a _ this h
/-- A plain region in a round. -/
theorem wpOpsIn_of {l : Nat} (hno : ¬ LetsOut Q) (hnd : ∀ (j : Nat) (o : Oper), ops[j]? = some o → ∀ c, o.op ≠ .defer c) : ∀ (is : List Nat) (a : Act) (w : World), wpOps P ops Q is a w → wpOpsIn (Fence.wide.inRound l) n P ops Q is a w
  | [], _, _, h => h
  | i :: is, a, w, h => by
    rw [wpOps_cons] at h
    rw [wpOpsIn_cons]
    exact wpOpIn_mono (fun a' w' h' => wpOpsIn_of hno hnd is a' w' h') (wpOpIn_of hno hnd h)
theorem wpIn_plain_round {l id : Nat} {a : Act} {w : World} (hno : ¬ LetsOut Q) (hcalm : calmB ops = true) (h : wpOps P ops Q (List.range ops.size) a w) : (Code.region id ops false).wpIn (Fence.wide.inRound l) n P Q a w :=
  wpIn_region (wpOpsIn_of hno (calmB_spec hcalm) _ a w h)
theorem wpIn_list_round {l id : Nat} {a : Act} {w : World} (hno : ¬ LetsOut Q) (hcalm : calmB ops = true) (h : wpList P ops Q ops.toList a w) : (Code.region id ops false).wpIn (Fence.wide.inRound l) n P Q a w := by
  refine wpIn_plain_round hno hcalm ?_
  have := wpOps_eq_wpList (P := P) (ops := ops) (Q := Q) ops.toList 0 (fun j => by simp)
  rw [List.range_eq_range', ← Array.length_toList, this]
  exact h
end
end Go.Proofs.Ytoaeapnkefjpaaa

namespace Go.Proofs.Ytoaeapnkefjpaaa
open Go.RowKit
set_option linter.unusedVariables false
set_option linter.unusedSimpArgs false

theorem zeros_list (k : Nat) : (Builtin.zeroCells (Value.int .u8 0).cells k).toList = List.replicate k (B 0) := by
  have h1 : (Builtin.zeroCells (Value.int .u8 0).cells k).toList.length = k := by rw [Array.length_toList, size_zeroCells]; exact Nat.mul_one k
  rw [List.eq_replicate_iff]
  refine ⟨h1, fun b hb => ?_⟩
  have e : (Value.int .u8 0).cells = #[Value.int .u8 0] := rfl
  rw [Array.mem_toList_iff, Builtin.zeroCells, Array.mem_map] at hb
  obtain ⟨a, -, rfl⟩ := hb
  rw [e]
  have e2 : a % (#[Value.int .u8 0] : Array Value).size = 0 := Nat.mod_one a
  rw [e2]
  rfl
theorem run_app_zeros (w : World) (base : Nat) (ty : TypeId) (v : Value) (n : Nat) (xs : List Value) (hown : w.ownsRow base 5 1 v n xs) (k : Nat) (hn : 0 < n) (hk : n + k ≤ 1000000000) (hbase : base ≤ w.heap.size) :
    ∃ v' w', (Builtin.append_ #[23, 3] ty #[v, .int .i64 k]).run Try.prog w = .ok v' w' ∧ w'.ownsRow base 5 1 v' (n + k) (xs ++ List.replicate k (B 0)) ∧ w.grownBy w' v.ownBlock ∧ (v'.ownBlock = v.ownBlock ∨ v'.ownBlock = some w.heap.size) := by
  obtain ⟨i, hi, hz0, hz1, hz2⟩ := info_parts info5'
  rcases hown.2 with ⟨rfl, h0⟩ | ⟨g, cap, cur, rfl, hbg, hg, hnc, hcm, hcs, htake⟩
  · omega
  by_cases hk0 : k = 0
  · subst hk0
    refine ⟨.slice (some ⟨g, 0, none⟩) n cap, w, ?_, by simpa using hown, ⟨rfl, rfl, rfl, Nat.le_refl _, fun _ _ _ => rfl⟩, .inl rfl⟩
    simp [Builtin.append_, run_underlying Try.underlying23, run_underlying Try.underlying3, sizeOf, typeInfo, hi, asInt, asIntOf, hnc, storeCells, IntKind.wrap_i64]
  by_cases hroom : n + k ≤ cap
  · have hl : (List.replicate k (B 0)).length = k := List.length_replicate
    have hfit : n * i.size + (List.replicate k (B 0)).length ≤ cur.size := by rw [hl, hz1, hcs]; omega
    have h1 : ∀ u ∈ List.replicate k (B 0), u.oneCell' = true := fun u hu => by rw [(List.mem_replicate.1 hu).2]; rfl
    have hst := run_storeCells_at Try.prog g (n * i.size) 5 (List.replicate k (B 0)) 0 cur w hg (by simpa using hfit) h1
    simp only [Nat.add_zero, hz1, Nat.mul_one] at hst
    have hzl := zeros_list k
    have hneg : ¬ ((k : Int) < 0) := by omega
    have h48 : ¬ (281474976710656 < (k : Int)) := by omega
    have hwr : IntKind.i64.wrap (k : Int) = k := IntWalk.i64_in _ (by omega)
    refine ⟨.slice (some ⟨g, 0, none⟩) (n + k) cap, _, ?_, ⟨by rw [List.length_append, hown.1, hl]; omega, .inr ⟨g, cap, _, rfl, hbg, setRow_heap w g cur ((cur.toList.take (n * i.size) ++ List.replicate k (B 0) ++ cur.toList.drop (n * i.size + k)).toArray) 5 _ hg, hroom, hcm, ?_, ?_⟩⟩, ⟨rfl, rfl, rfl, by simp, fun k _ hk => setRow_other w g k _ (fun e => hk (by simp [Value.ownBlock, e]))⟩, .inl rfl⟩
    · simp [Builtin.append_, run_underlying Try.underlying23, run_underlying Try.underlying3, sizeOf, typeInfo, zeroValue, hi, hz0, hz1, hz2, asInt, asIntOf, hwr, hroom, hk0, hneg, h48, hzl, hst, Addr.add_lit]
    · simp only [List.size_toArray, List.length_append, List.length_take, List.length_drop, Array.length_toList, hl]
      rw [hz1]; omega
    · have e1 : cur.toList.take (n * i.size) = xs := by rw [hz1]; exact htake
      have e2 : (n + k) * 1 = (xs ++ List.replicate k (B 0)).length := by rw [List.length_append, hown.1, hl]; omega
      rw [e1, e2]
      exact List.take_left
  · have holds : ∀ j u, xs[j]? = some u → w.cell? ((⟨g, 0, none⟩ : Addr).add j) = some u := hown.cells (g := g) rfl
    have hold := run_firstCells_some (P := Try.prog) w.drew i.size n ⟨g, 0, none⟩ n cap xs (by rw [hown.1, hz1]) holds
    have hr := Lib.run_append_grow_zeros (P := Try.prog) w 23 3 ty 5 i _ .i64 .i64 Try.underlying23 Try.underlying3 hi hz0 (some ⟨g, 0, none⟩) n cap xs hold k (by omega) (by rw [hz1]; decide) (by omega) (by omega) (by rw [hz2]; omega) (by rw [hz2]; exact growslice_fits (by omega) (by omega))
    have hge := grownCap_ge w (n + k) cap 5
    have hcm2 : grownCap w (n + k) cap 5 ≤ maxLen := grownCap_le_maxLen w (n + k) cap 5 (by unfold maxLen; omega)
    refine ⟨_, _, hr, ⟨by rw [List.length_append, hown.1, List.length_replicate]; omega, .inr ⟨w.heap.size, _, _, rfl, hbase, heap_alloc_new w.drew _, hge, hcm2, ?_, ?_⟩⟩, ⟨rfl, rfl, rfl, by simp, fun k hk _ => Below.heap_alloc w.drew _ k hk⟩, .inr rfl⟩
    · have e1 : (Value.int .u8 0).cells.size = 1 := rfl
      simp only [Array.size_append, List.size_toArray, size_zeroCells, hown.1, e1]
      omega
    · have e2 : (n + k) * 1 = (xs ++ List.replicate k (B 0)).length := by rw [List.length_append, hown.1, List.length_replicate]; omega
      simp only [Array.toList_append, zeros_list]
      rw [e2]
      exact List.take_left
end Go.Proofs.Ytoaeapnkefjpaaa

namespace Go.Proofs.Ytoaeapnkefjpaaa
open Go.RowKit
set_option linter.unusedVariables false
set_option linter.unusedSimpArgs false

theorem chunk_any (w : World) (v : Value) (hv : ∃ ao n cap, v = .slice ao n cap) : Calls Try.prog 114 #[v, I 256] w fun e w' => e = .returned (.func (.func 115) #[] #[.pointer (some ⟨w.heap.size, 0, none⟩), .pointer (some ⟨w.heap.size + 1, 0, none⟩)]) ∧ (w.alloc (.cells #[v] 23)).alloc (.cells #[I 256] 3) = w' := by
  obtain ⟨ao, n, cap, rfl⟩ := hv
  have hmf := closes
  go_enter Try.func114, Try.ntmps114
  go_wp2
  go_ret
  exact ⟨rfl, rfl⟩
set_option maxRecDepth 100000 in
set_option maxHeartbeats 800000 in
theorem iter_any {m : Nat} (l bs bn g off cap k N : Nat) (hN : N = k * 256) (w : World) (J : Nat → World → Prop) (R : Ending → World → Prop) (hcap : N ≤ cap) (hmax : cap ≤ 9223372036854775807) (h0 : J 0 w)
    (hcell : ∀ i W, J i W → W.cell? ⟨bs, 0, none⟩ = some (.slice (some ⟨g, off, none⟩) N cap) ∧ W.cell? ⟨bn, 0, none⟩ = some (I 256))
    (hround : ∀ i W, i < k → J i W → ∃ fn tmps assign body, (Instr.yield l #[.slice (some ⟨g, off + i * 256, none⟩) 256 256]).run Try.prog W = .ok (.round l fn tmps assign body) W ∧
      RoundIn Fence.wide m Try.prog l fn tmps assign body W (fun e W' => (e = .returned (.bool true) ∧ J (i + 1) W') ∨ ∃ c, e = .panicked c ∧ R (.panicked c) W'))
    (hdraw : ∀ i W n, J i W → J i (W.drewN n)) (hend : ∀ W, J k W → R (.returned (.tuple #[])) W) :
    CallsIn Fence.wide (m + 1) Try.prog 115 #[.func (.yield l) #[] #[], .pointer (some ⟨bs, 0, none⟩), .pointer (some ⟨bn, 0, none⟩)] w R := by
  have H0 := hid h0
  have HC := hid hcell
  have HR := hid hround
  have HD := hid hdraw
  have HE := hid hend
  have HN := hid hN
  clear h0 hcell hround hdraw hend hN
  refine (callsIn_wide).2 ?_
  go_enter Try.func115, Try.ntmps115
  go_wp2
  go_loopw [4] (fun y wr => ∃ i x : Nat, i ≤ k ∧ x ≤ N ∧ Hid (x = i * 256) ∧ y = I x ∧ Hid (J i wr)) (fun y _ => N - (intOf y).toNat)
  case atStart => exact ⟨0, 0, Nat.zero_le _, Nat.zero_le _, hid rfl, rfl, H0⟩
  case round =>
    clear H0
    obtain ⟨i, x, hi, hx, HX, rfl, HJ⟩ := hrel
    obtain ⟨cs, cn⟩ := HC.out i wr HJ.out
    by_cases hlt : i < k
    · have hxN : x + 256 ≤ N := by have := HX.out; have := HN.out; omega
      have hne : ¬ cap = x := by omega
      have km : ∀ (ats : Array TypeId) (ty : TypeId) (w : World), (Builtin.min_ ats ty #[.int .i64 256, .int .i64 ((N : Int) - (x : Int))]).run Try.prog w = .ok (.int .i64 256) w := fun ats ty w => by
        have := run_min (P := Try.prog) ats ty 256 ((N : Int) - (x : Int)) w
        rw [this]
        congr 2
        omega
      go_wp2
      go_quiet (fail)
      have HJ2 := hid (HD.out i wr nq HJ.out)
      obtain ⟨fn, tmps, assign, body, hy, hR⟩ := HR.out i (wr.drewN nq) hlt HJ2.out
      rw [← HX.out] at hy
      have cs2 : (wr.drewN nq).cell? ⟨bs, 0, none⟩ = some (.slice (some ⟨g, off, none⟩) N cap) := cs
      have HRR := hid hR
      have HY := hid hy
      clear hR km cs cn HJ HJ2 hy
      generalize wr.drewN nq = w1 at *
      go_upto_region 4 with (fail)
      refine (wpIn_wide (n := m + 1)).1 ?_
      have hy := HY.out
      gi_wp2
      have HXi := hid (show x + 256 = (i + 1) * 256 by have := HX.out; omega)
      clear hy HY cs2
      refine HRR.out.mono ?_
      rintro e W' (⟨rfl, hj⟩ | ⟨c, rfl, hr⟩)
      · have HJ := hid hj
        obtain ⟨-, cn3⟩ := HC.out _ _ hj
        clear hj
        gi_wp2
        go_wp2
        go_roundw
        case rel => exact ⟨i + 1, x + 256, by omega, by omega, HXi, by go_num, HJ⟩
        case measure => simp [intOf]; omega
      · exact And.intro rfl hr
    · have e : i = k := by omega
      have hxN : x = N := by rw [HX.out, HN.out, e]
      subst hxN
      subst e
      go_wp2
      ((try simp only [Exit.inBlock, Exit.then]); first | refine bodyPost_end (results_none rfl _ _ _) rfl ?_ | refine bodyPost_ret (results_none rfl _ _ _) rfl ?_)
      exact HE.out _ HJ.out
end Go.Proofs.Ytoaeapnkefjpaaa

namespace Go.Proofs.Ytoaeapnkefjpaaa
open Go.RowKit
set_option linter.unusedVariables false
set_option linter.unusedSimpArgs false

namespace TS
theorem wr_append : ∀ (D : DS) (a : Nat) (l m : List (List UInt8)), wr D a (l ++ m) = if (wr D a l).1 = 0 then wr (wr D a l).2 (a + l.length) m else wr D a l
  | D, a, [], m => by simp [wr]
  | D, a, p :: ps, m => by
    rw [List.cons_append, wr, wr]
    by_cases h : (D.write a p).1 = 0
    · rw [if_pos h, if_pos h, wr_append]
      rw [show a + 1 + ps.length = a + (p :: ps).length from by rw [List.length_cons]; omega]
    · rw [if_neg h, if_neg h, if_neg h]
theorem wr_snoc (D : DS) (a : Nat) (l : List (List UInt8)) (p : List UInt8) {D1 : DS} (h : wr D a l = (0, D1)) : wr D a (l ++ [p]) = D1.write (a + l.length : Nat) p := by
  rw [wr_append, h]
  simp only [if_true, wr]
  split
  · rename_i h0
    exact Prod.ext h0.symm rfl
  · rfl
theorem wr_stop (D : DS) (a : Nat) (l m : List (List UInt8)) (h : (wr D a l).1 ≠ 0) : wr D a (l ++ m) = wr D a l := by
  rw [wr_append, if_neg h]
theorem wr_safe : ∀ (l : List (List UInt8)) (D : DS) (a : Nat), D.Ok → (wr D a l).2.Ok
  | [], D, a, h => h
  | p :: ps, D, a, h => by
    rw [wr]
    split
    · exact wr_safe ps _ _ (h.write _ _)
    · exact h.write _ _
end TS
theorem DS.Off_waits' (D : DS) (k : Int) : (D.Off k).waits.length ≤ D.waits.length := by unfold DS.Off; split <;> simp
theorem DS.op_waits' (D : DS) : D.op.waits.length ≤ D.waits.length := by
  unfold DS.op
  split
  · split
    · exact DS.Off_waits' _ _
    · exact Nat.le_refl _
  · exact Nat.le_refl _
theorem DS.write_waits' (D : DS) (a : Int) (l : List UInt8) : (D.write a l).2.waits.length ≤ D.waits.length + 1 := by
  unfold DS.write
  split
  · simp
  · split
    · simp
    · simp only []
      have := DS.op_waits' { D with waits := D.waits ++ [(a.toNat, l)] }
      simp only [List.length_append, List.length_cons, List.length_nil] at this
      split <;> simpa using this
theorem TS.wr_waits : ∀ (l : List (List UInt8)) (D : DS) (a : Nat), (TS.wr D a l).2.waits.length ≤ D.waits.length + l.length
  | [], D, a => by simp [TS.wr]
  | p :: ps, D, a => by
    rw [TS.wr]
    have h1 := DS.write_waits' D a p
    split
    · have := TS.wr_waits ps (D.write a p).2 (a + 1)
      rw [List.length_cons]; omega
    · rw [List.length_cons]; omega
theorem bytes_zero (w : World) (t : Nat) (a : Int) : Calls Try.prog 106 #[.pointer (some ⟨t, 0, none⟩), I a, I 0] w fun e w' => e = .returned (.slice none 0 0) ∧ w = w' := by
  go_enter Try.func106, Try.ntmps106
  go_wp2
  refine wp_loop_rounds 1 ?_
  rw [rounds_succ]
  go_wp2
  go_ret
  exact ⟨rfl, rfl⟩
/-- What stands ahead on the first page. -/
def TS.ahead (D : DS) (T : TS) (a : Nat) : List UInt8 := ((TS.bytes D T).drop (a / 256 * 256)).take (a % 256)
theorem ahead_any (w : World) (t p : Nat) (own : Nat → Prop) (T : TS) (D : DS) (h : TapeIn w t p D.safe.length T) (hd : DrumAt w p own D) (a : Nat) (ha : a ≤ T.size) (ho : D.off = false ∨ a % 256 = 0) :
    Calls Try.prog 106 #[.pointer (some ⟨t, 0, none⟩), I (a / 256 * 256 : Nat), I (a % 256 : Nat)] w (Fresh w (TS.ahead D T a)) := by
  rcases ho with ho | ho
  · exact bytes_on w t p own T D h hd ho _ _ (by omega)
  · unfold TS.ahead
    rw [ho, List.take_zero]
    refine (bytes_zero w t _).mono fun e w' hh => ?_
    obtain ⟨rfl, rfl⟩ := hh
    exact ⟨_, rfl, World.ownsRow_nil _ _ _ _, Below.refl _ _⟩
end Go.Proofs.Ytoaeapnkefjpaaa

namespace Go.Proofs.Ytoaeapnkefjpaaa
open Go.RowKit
set_option linter.unusedVariables false
set_option linter.unusedSimpArgs false
section
variable {P : Program} {f : FuncId} {Q : Exit → Act → World → Prop} {a : Act} {w : World}
/-- A code's walk in the frames of function f, outside of any round. -/
def wpFn (P : Program) (f : FuncId) (c : Code) (Q : Exit → Act → World → Prop) (a : Act) (w : World) : Prop :=
  ∀ (b : Frame) (k : List Item) (cs : List Frame), b.roundOf = none → b.fn = f → ∃ e a' w', Q e a' w' ∧ ArrivesIn (Machine.fenced P Fence.wide) P (lone (b.atR a (.code c :: k)) cs w) b k cs e a' w'
theorem wpFn_of_wp {c : Code} (h : c.wp P Q a w) : wpFn P f c Q a w := fun b k cs hro _ => (wpIn_wide (n := 0)).2 h b k cs hro trivial (room_wide _)
theorem wpFn_seq {x y : Code} (h : x.wp P (Exit.then (fun a w => wpFn P f y Q a w) Q) a w) : wpFn P f (.seq x y) Q a w := by
  intro b k cs hro hf
  have go : ∀ {m : Machine} {e : Exit} {a₁ : Act} {w₁ : World}, ArrivesIn (Machine.fenced P Fence.wide) P m b k cs e a₁ w₁ → StepsIn (Machine.fenced P Fence.wide) P (lone (b.atR a (.code (.seq x y) :: k)) cs w) m → ArrivesIn (Machine.fenced P Fence.wide) P (lone (b.atR a (.code (.seq x y) :: k)) cs w) b k cs e a₁ w₁ := fun h1 h2 => .of_steps h2 h1
  have s0 : StepsIn (Machine.fenced P Fence.wide) P (lone (b.atR a (.code (.seq x y) :: k)) cs w) (lone (b.atR a (.code x :: .code y :: k)) cs w) := .one (fenced_wide _ _) stepR_seq
  obtain ⟨e, a₁, w₁, hq, harr⟩ := (wpIn_wide (n := 0)).2 h b (.code y :: k) cs hro trivial (room_wide _)
  cases e with
  | normal =>
    obtain ⟨e₂, a₂, w₂, hq₂, harr₂⟩ := hq b k cs hro hf
    exact ⟨e₂, a₂, w₂, hq₂, go harr₂ (s0.trans harr)⟩
  | exit id => exact ⟨_, a₁, w₁, hq, go (ArrivesIn.pass (x := .code y) rfl (fun _ _ => .inl (by simp)) harr) s0⟩
  | goto l => exact ⟨_, a₁, w₁, hq, go (ArrivesIn.pass (x := .code y) rfl (fun _ _ => .inl (by simp)) harr) s0⟩
  | ret => exact ⟨_, a₁, w₁, hq, go (ArrivesIn.pass (x := .code y) rfl (fun _ _ => .inl (by simp)) harr) s0⟩
  | panic ch => exact ⟨_, a₁, w₁, hq, go (ArrivesIn.pass (x := .code y) rfl (fun _ _ => .inl (by simp)) harr) s0⟩
  | outgrown => exact ⟨_, a₁, w₁, hq, go (ArrivesIn.pass (x := .code y) rfl (fun _ _ => .inl (by simp)) harr) s0⟩
/-- Off the end, or by a panic. -/
def Plain2 (Q : Exit → Act → World → Prop) : Exit → Act → World → Prop
  | .normal, a, w => Q .normal a w
  | .panic c, a, w => Q (.panic c) a w
  | _, _, _ => False
theorem wpFn_block {id : Nat} {c : Code} (h : wpFn P f c (Plain2 Q) a w) : wpFn P f (.block id c) Q a w := by
  intro b k cs hro hf
  have s0 : StepsIn (Machine.fenced P Fence.wide) P (lone (b.atR a (.code (.block id c) :: k)) cs w) (lone (b.atR a (.code c :: .inBlock id :: k)) cs w) := .one (fenced_wide _ _) stepR_block
  obtain ⟨e, a₁, w₁, hq, harr⟩ := h b (.inBlock id :: k) cs hro hf
  cases e with
  | normal => exact ⟨.normal, a₁, w₁, hq, s0.trans (StepsIn.trans harr (.one (fenced_wide _ _) stepR_inBlock))⟩
  | panic ch => exact ⟨.panic ch, a₁, w₁, hq, .of_steps s0 harr⟩
  | exit id' => exact hq.elim
  | goto l => exact hq.elim
  | ret => exact hq.elim
  | outgrown => exact hq.elim
theorem calls_of_wpFn {n : Nat} {fn : Func} {c : Code} {args : Array Value} {R : Ending → World → Prop} (hf : P.funcs[f]? = some fn) (hb : fn.body = some c)
    (h : wpFn P f c (bodyPostM Fence.wide n P fn R) { tmps := args ++ Array.replicate (fn.ntmps - args.size) undef, defers := [] } w) : Calls P f args w R := by
  refine (callsIn_wide (n := n)).1 ⟨trivial, fun cs hr => ?_⟩
  obtain ⟨b, hbd⟩ : ∃ b : Frame, b = { (default : Frame) with fn := f, kind := .normal, roundOf := none } := ⟨_, rfl⟩
  have hbf : b.fn = f := by rw [hbd]
  have henter : Frame.enter P f args .normal = b.atR { tmps := args ++ Array.replicate (fn.ntmps - args.size) undef, defers := [] } [.code c] := by
    rw [hbd]; simp [Frame.enter, Frame.atR, hf, hb]
  obtain ⟨e, a', w', hq, harr⟩ := h b [] cs (by rw [hbd]) hbf
  rw [← henter] at harr
  have hgo : ∀ (todo : List Item) (u : FrameMode), StepsIn (Machine.fenced P Fence.wide) P (lone (Frame.enter P f args .normal) cs w) (lone { b.atR a' todo with mode := u } cs w') → LeavesInM Fence.wide n P fn a'.tmps R a'.defers u w' →
      ∃ e w'' fr, R e w'' ∧ ComesIn (Machine.fenced P Fence.wide) P (lone (Frame.enter P f args .normal) cs w) (lone fr cs w'') e ∧ fr.fn = f ∧ fr.leaving P w'' e := by
    intro todo u hs hl
    obtain ⟨e', w'', fr', hR, hs', hfn, hl'⟩ := leaves_stepsInM a'.defers u w' { b.atR a' todo with mode := u } cs rfl rfl rfl (by show P.funcs[b.fn]? = some fn; rw [hbf]; exact hf) (by show b.kind = .normal; rw [hbd]) trivial (room_wide _) hl
    exact ⟨e', w'', fr', hR, ComesIn.of_steps hs hs', by rw [hfn]; exact hbf, hl'⟩
  cases e with
  | normal => exact hgo [] .returning (StepsIn.trans harr (.one (fenced_wide _ _) (stepR_end (by rw [hbd])))) hq
  | ret =>
    obtain ⟨todo, hs₀⟩ := harr.1 (by rw [hbd])
    exact hgo todo .returning hs₀ hq
  | panic chain =>
    obtain ⟨todo, hs₀⟩ := harr
    exact hgo todo (.panicking chain) hs₀ hq
  | exit id => exact hq.elim
  | goto l => exact hq.elim
  | outgrown => exact ⟨.outgrown, w', b, hq, harr.resolve_left (by rw [hbd]; simp), hbf, trivial⟩
/-- What is asked behind the function that was ranged over. -/
def rangeEnd (P : Program) (l : Nat) (Q : Exit → Act → World → Prop) (a : Act) : Ending → World → Prop
  | .returned _, w => ∃ w', (Instr.endLoop l).run P w = .ok none w' ∧ Q .normal a w'
  | .panicked c, w => Q (.panic c) a w
  | .outgrown, _ => False
theorem wpFn_range {g : Operand} {ps : Array Tmp} {assign body : Code} {it : FuncId} {lb : Array Value} (hg : a.eval g = .func (.func it) #[] lb) (hc : ∀ args W, (callFunc it args).run P W = .ok (.enter it args) W)
    (h : ∀ W, W = (w.alloc (.deferred (some []))).alloc (.loop { state := .ready, pending := none, fn := f, tmps := a.tmps, params := ps, assign := assign, body := body, defers := w.heap.size }) →
      Calls P it (#[.func (.yield (w.heap.size + 1)) #[] #[]] ++ lb) W (rangeEnd P (w.heap.size + 1) Q { a with defers := { target := .collected w.heap.size, args := #[] } :: a.defers })) :
    wpFn P f (.rangeFunc g ps assign body) Q a w := by
  intro b k cs hro hf
  obtain ⟨W, hW⟩ : ∃ W, W = (w.alloc (.deferred (some []))).alloc (.loop { state := .ready, pending := none, fn := f, tmps := a.tmps, params := ps, assign := assign, body := body, defers := w.heap.size }) := ⟨_, rfl⟩
  obtain ⟨a2, ha2⟩ : ∃ a2 : Act, a2 = { a with defers := { target := .collected w.heap.size, args := #[] } :: a.defers } := ⟨_, rfl⟩
  have hcall := h W hW
  rw [← ha2] at hcall
  have henter : step P (lone (b.atR a (.code (.rangeFunc g ps assign body) :: k)) cs w) = .next (lone (Frame.enter P it (#[.func (.yield (w.heap.size + 1)) #[] #[]] ++ lb) .normal) (b.atR a2 (.inRangeFunc (w.heap.size + 1) :: k) :: cs) W) := by
    rw [ha2]
    refine stepR_rangeFunc (l := w.heap.size + 1) (mark := [{ target := .collected w.heap.size, args := #[] }]) (w₁ := W) (w₁' := W) (d := { target := .fn (.func it) lb, args := #[.func (.yield (w.heap.size + 1)) #[] #[]] }) ?_ ?_ ?_
    · rw [hro, hf, hW]; exact run_enterLoop_outer _ _ _ _ _
    · simp only [resolve, hg]
      simp [go_sem]
    · simp [invoke, go_sem]
      exact hc _ _
  have s0 : StepsIn (Machine.fenced P Fence.wide) P (lone (b.atR a (.code (.rangeFunc g ps assign body) :: k)) cs w) (lone (Frame.enter P it (#[.func (.yield (w.heap.size + 1)) #[] #[]] ++ lb) .normal) (b.atR a2 (.inRangeFunc (w.heap.size + 1) :: k) :: cs) W) := .one (fenced_wide _ _) henter
  obtain ⟨e, w₃, fr, hR, hsteps, hfn, hleave⟩ := ((callsIn_wide (n := 0)).2 hcall).2 (b.atR a2 (.inRangeFunc (w.heap.size + 1) :: k) :: cs) (room_wide _)
  cases e with
  | outgrown => exact hR.elim
  | returned v =>
    obtain ⟨w₄, hend, hj⟩ := hR
    refine ⟨.normal, a2, w₄, hj, s0.trans (StepsIn.trans hsteps (.head (fenced_wide _ _) ?_ (.one (fenced_wide _ _) (stepR_endRangeFunc (b := b) (a := a2) (k := k) hend))))⟩
    rw [← finish_atR_inRangeFunc (w.heap.size + 1) v]; exact step_leave_returned hleave
  | panicked chain =>
    refine ⟨.panic chain, a2, w₃, hR, .inRangeFunc (w.heap.size + 1) :: k, s0.trans (StepsIn.trans hsteps (.one (fenced_wide _ _) ?_))⟩
    rw [← Frame.raise_atR]; exact step_leave_panicked hleave
end
end Go.Proofs.Ytoaeapnkefjpaaa

namespace Go.Proofs.Ytoaeapnkefjpaaa
open Go.RowKit
set_option linter.unusedVariables false
set_option linter.unusedSimpArgs false

def behind : Code → Code
  | .seq _ c => c
  | c => c
def within : Code → Code
  | .block _ c => c
  | c => c
def roundOf : Code → Code
  | .rangeFunc _ _ _ b => b
  | c => c
def assignOf : Code → Code
  | .rangeFunc _ _ b _ => b
  | c => c
noncomputable def layLoop : Code := within (behind (behind (behind (behind (behind (behind (Try.f111.body.getD .skip)))))))
noncomputable def layBody : Code := roundOf layLoop
noncomputable def layAssign : Code := assignOf layLoop
/-- Where the blocks lie. -/
structure LA where
  t : Nat
  p : Nat
  l : Nat
  kd : Nat
  b3 : Nat
  b6 : Nat
  b8 : Nat
  bs : Nat
  bn : Nat
  g : Nat
  n : Nat
  cap : Nat
/-- What stands all along the loop. -/
structure LW (w : World) (A : LA) (own0 : Nat → Prop) (T : TS) (a : Nat) (all : List UInt8) : Prop where
  tape : TapeIn w A.t A.p A.n T
  h3 : w.heap[A.b3]? = some (.cells #[.pointer (some ⟨A.t, 0, none⟩)] 86 (0, 0))
  h6 : w.heap[A.b6]? = some (.cells #[.int .i64 ((a : Int) / 256)] 3 (0, 0))
  pages : Sees w (.slice (some ⟨A.g, 0, none⟩) all.length A.cap) all
  hs : w.heap[A.bs]? = some (.cells #[.slice (some ⟨A.g, 0, none⟩) all.length A.cap] 23 (0, 0))
  hn : w.heap[A.bn]? = some (.cells #[I 256] 3 (0, 0))
  hd : w.heap[A.kd]? = some (.deferred (some []))
  out : ∀ k, k = A.t ∨ k = A.b3 ∨ k = A.b6 ∨ k = A.g ∨ k = A.bs ∨ k = A.bn ∨ k = A.kd → k < w.heap.size ∧ ¬ own0 k ∧ k ≠ A.b8 ∧ k ≠ A.l
  o8 : A.b8 < w.heap.size ∧ ¬ own0 A.b8 ∧ A.b8 ≠ A.l
  ol : A.l < w.heap.size ∧ ¬ own0 A.l
theorem LW.on {w W : World} {A : LA} {own0 : Nat → Prop} {T : TS} {a : Nat} {all : List UInt8} (h : LW w A own0 T a all) (hm : Mod (fun k => own0 k ∨ k = A.b8 ∨ k = A.l) w W) : LW W A own0 T a all := by
  have hk : ∀ k, k = A.t ∨ k = A.b3 ∨ k = A.b6 ∨ k = A.g ∨ k = A.bs ∨ k = A.bn ∨ k = A.kd → W.heap[k]? = w.heap[k]? := fun k hk => hm.block k (h.out k hk).1 (by have := h.out k hk; rintro (x | x | x) <;> simp_all)
  refine ⟨h.tape.keep (hk _ (by simp)), (hk _ (by simp)).trans h.h3, (hk _ (by simp)).trans h.h6, h.pages.keep (fun k e => hk k ?_), (hk _ (by simp)).trans h.hs, (hk _ (by simp)).trans h.hn, (hk _ (by simp)).trans h.hd, fun k e => ⟨Nat.lt_of_lt_of_le (h.out k e).1 hm.size, (h.out k e).2⟩, ⟨Nat.lt_of_lt_of_le h.o8.1 hm.size, h.o8.2⟩, ⟨Nat.lt_of_lt_of_le h.ol.1 hm.size, h.ol.2⟩⟩
  cases e
  simp
/-- Between two rounds: i pages are written. -/
structure LJ (wS : World) (A : LA) (own0 : Nat → Prop) (T : TS) (D0 : DS) (a : Nat) (all : List UInt8) (K : Nat) (rec : Loop) (i : Nat) (W : World) : Prop where
  mod : Mod (fun k => own0 k ∨ k = A.b8 ∨ k = A.l) wS W
  h8 : W.heap[A.b8]? = some (.cells #[.int .i64 (i : Int)] 3 (0, 0))
  hl : W.heap[A.l]? = some (.loop rec)
  drum : ∃ own D, DrumAt W A.p own D ∧ TS.wr D0 (T.lo + a / 256) ((TS.pagesOf all K).take i) = (0, D) ∧ ∀ k, own k → own0 k ∨ wS.heap.size ≤ k
theorem LJ.drewN {wS : World} {A : LA} {own0 : Nat → Prop} {T : TS} {D0 : DS} {a : Nat} {all : List UInt8} {K : Nat} {rec : Loop} {i : Nat} {W : World} (h : LJ wS A own0 T D0 a all K rec i W) (n : Nat) : LJ wS A own0 T D0 a all K rec i (W.drewN n) := by
  obtain ⟨own, D, h1, h2, h3⟩ := h.drum
  exact ⟨h.mod.trans (Mod.of_below _ (below_drewN W n)), h.h8, h.hl, own, D, h1.below (below_drewN W n), h2, h3⟩
theorem page_of (all : List UInt8) (k i : Nat) (h : all.length = k * 256) (hi : i < k) : (TS.pagesOf all k)[i]? = some ((all.drop (i * 256)).take 256) ∧ ((all.drop (i * 256)).take 256).length = 256 := by
  refine ⟨?_, by rw [List.length_take, List.length_drop, h]; have : (i + 1) * 256 ≤ k * 256 := Nat.mul_le_mul_right _ hi; omega⟩
  unfold TS.pagesOf
  rw [List.getElem?_map, List.getElem?_range hi, Nat.mul_comm i 256]
  rfl
/-- A page of what a slice shows, its capacity cut. -/
theorem Sees.page {w : World} {g cap : Nat} {L : List UInt8} {k i : Nat} (h : Sees w (.slice (some ⟨g, 0, none⟩) L.length cap) L) (hL : L.length = k * 256) (hi : i < k) : Sees w (.slice (some ⟨g, i * 256, none⟩) 256 256) ((L.drop (i * 256)).take 256) := by
  have hlen := (page_of L k i hL hi).2
  have hlt : (i + 1) * 256 ≤ k * 256 := Nat.mul_le_mul_right _ hi
  obtain ⟨ao, c, hv, hc1, hc2, h3⟩ := h
  obtain ⟨g', off', he, hc⟩ := h3 (by omega)
  simp only [Value.slice.injEq] at hv
  obtain ⟨rfl, -, rfl⟩ := hv
  simp only [Option.some.injEq, Addr.mk.injEq, and_true] at he
  obtain ⟨rfl, rfl⟩ := he
  refine ⟨_, 256, by rw [hlen], by rw [hlen]; exact Nat.le_refl _, by decide, fun _ => ⟨g, i * 256, rfl, fun j c hj => ?_⟩⟩
  rw [List.getElem?_take] at hj
  split at hj
  · rw [List.getElem?_drop] at hj
    have := hc _ c hj
    rw [Nat.zero_add] at this
    exact this
  · cases hj
theorem take_snoc {α : Type} {l : List α} {i : Nat} {x : α} (h : l[i]? = some x) : l.take (i + 1) = l.take i ++ [x] := by
  obtain ⟨hi, rfl⟩ := List.getElem?_eq_some_iff.1 h
  rw [List.take_succ_eq_append_getElem hi]
/-- As Ext, opaque to the simplifier. -/
structure Onto (a b : World) : Prop where
  ext : Ext a b
theorem Onto.refl (a : World) : Onto a a := ⟨Ext.refl a⟩
theorem Onto.trans (a b c : World) (h : Onto a b) (k : Onto b c) : Onto a c := ⟨Ext.trans _ _ _ h.ext k.ext⟩
set_option maxRecDepth 100000 in
set_option maxHeartbeats 1600000 in
theorem lay_round {m : Nat} (A : LA) (wS : World) (own0 : Nat → Prop) (T : TS) (D0 : DS) (a : Nat) (all : List UInt8) (K : Nat) (x : Nat → Value) (rec : Loop) (i : Nat) (W : World) (R : Ending → World → Prop)
    (hrec : rec = { state := .ready, pending := none, fn := 111, tmps := #[x 0, x 1, x 2, .pointer (some ⟨A.b3, 0, none⟩), x 4, x 5, .pointer (some ⟨A.b6, 0, none⟩), x 7, .pointer (some ⟨A.b8, 0, none⟩), x 9, x 10, x 11, x 12, x 13, x 14, x 15, x 16, x 17, x 18, x 19, x 20, x 21, x 22, x 23, x 24, x 25, x 26, x 27, x 28, x 29, x 30, x 31, x 32, x 33, x 34, x 35, x 36, x 37, x 38, x 39, x 40, x 41, x 42, x 43, x 44, x 45, x 46, x 47, x 48, x 49, x 50], params := #[30], assign := layAssign, body := layBody, defers := A.kd })
    (hL : all.length = K * 256) (hw : LW wS A own0 T a all) (hK : K ≤ 1000) (hN : D0.waits.length ≤ 900000000) (ha : a ≤ 1048576) (hi : i < K) (hj : LJ wS A own0 T D0 a all K rec i W)
    (hR : ∀ c W', c ≠ 0 → (∃ own D, DrumAt W' A.p own D ∧ TS.wr D0 (T.lo + a / 256) (TS.pagesOf all K) = (c, D) ∧ (∀ k, own k → own0 k ∨ wS.heap.size ≤ k) ∧ Mod (fun k => own0 k ∨ k = A.b8 ∨ k = A.l) wS W') → R (.panicked (gaveUp c)) W') :
    ∃ fn tmps assign body, (Instr.yield A.l #[.slice (some ⟨A.g, 0 + i * 256, none⟩) 256 256]).run Try.prog W = .ok (.round A.l fn tmps assign body) W ∧
      RoundIn Fence.wide m Try.prog A.l fn tmps assign body W (fun e W' => (e = .returned (.bool true) ∧ LJ wS A own0 T D0 a all K rec (i + 1) W') ∨ ∃ c, e = .panicked c ∧ R (.panicked c) W') := by
  have hy := run_yield (P := Try.prog) (args := #[.slice (some ⟨A.g, 0 + i * 256, none⟩) 256 256]) hj.hl (by rw [hrec]; rfl)
  have hbr := run_beginRound (P := Try.prog) hj.hl (by rw [hrec])
  obtain ⟨hp1, hp2⟩ := page_of all K i hL hi
  have hpg := (hw.on hj.mod).pages.page hL hi
  obtain ⟨pg, hpgd⟩ : ∃ pg, pg = (all.drop (i * 256)).take 256 := ⟨_, rfl⟩
  rw [← hpgd] at hp1 hp2 hpg
  obtain ⟨Wb, hWb⟩ : ∃ Wb, Wb = W.putObj A.l (.loop { rec with state := .busy }) := ⟨_, rfl⟩
  rw [← hWb] at hbr
  obtain ⟨own, D, hd, hwr, hsub⟩ := hj.drum
  have hlW : A.l < W.heap.size := (Array.getElem?_eq_some_iff.1 hj.hl).1
  have hol : ¬ own A.l := fun h => by rcases hsub _ h with h' | h' <;> have := hw.ol <;> simp_all <;> omega
  have hmodb : Mod (fun k => own0 k ∨ k = A.b8 ∨ k = A.l) W Wb := by
    rw [hWb]
    refine ⟨rfl, rfl, rfl, by simp, fun k hk ho => World.putObj_heap_other (fun e => ho (.inr (.inr e)))⟩
  have hob : ∀ k, k ≠ A.l → Wb.heap[k]? = W.heap[k]? := fun k hk => by rw [hWb]; exact World.putObj_heap_other hk
  have hlb : Wb.heap[A.l]? = some (.loop { rec with state := .busy }) := by rw [hWb]; exact World.putObj_heap_same hlW
  have hdb : DrumAt Wb A.p own D := hd.keep (fun k hk => hob k (fun e => hol (e ▸ hk))) (by rw [hWb]; simp)
  have hm2 := hj.mod.trans hmodb
  have hwb := hw.on hm2
  have h8b : Wb.heap[A.b8]? = some (.cells #[.int .i64 (i : Int)] 3 (0, 0)) := (hob _ hw.o8.2.2).trans hj.h8
  have hpb : Sees Wb (.slice (some ⟨A.g, i * 256, none⟩) 256 256) pg := hpg.keep (fun k e => hob k (by cases e; exact (hw.out A.g (by simp)).2.2.2))
  have hWN : D.waits.length ≤ 1000000000 := by
    have := TS.wr_waits ((TS.pagesOf all K).take i) D0 (T.lo + a / 256)
    rw [hwr] at this
    rw [List.length_take] at this
    simp only at this
    omega
  have hgo : ¬ own A.g := fun h => by rcases hsub _ h with h' | h' <;> have := hw.out A.g (by simp) <;> simp_all <;> omega
  obtain ⟨b1, b2, b3, b4, b5, b6, b7⟩ := hw.tape.bd
  have hwd := write_any Wb.drew A.p own D ((T.lo : Int) + (a : Int) / 256 + (i : Int)) _ pg (hdb.below (Ext.drew Wb)) hpb.drew (by omega) (fun k e => by cases e; exact hgo) hWN
  have hsn := TS.wr_snoc D0 (T.lo + a / 256) _ pg hwr
  rw [← take_snoc hp1, List.length_take] at hsn
  have hal : ((T.lo + a / 256 + min i (TS.pagesOf all K).length : Nat) : Int) = (T.lo : Int) + (a : Int) / 256 + (i : Int) := by
    have : (TS.pagesOf all K).length = K := by unfold TS.pagesOf; simp
    rw [this, Nat.min_eq_left (by omega)]; omega
  rw [hal] at hsn
  generalize hRR : D.write ((T.lo : Int) + (a : Int) / 256 + (i : Int)) pg = RR at hwd hsn
  obtain ⟨e0, D1⟩ := RR
  have HWD := hid hwd
  have HSN := hid hsn
  have HW := hid hwb
  have HM := hid hm2
  have HL := hid hlb
  have HB8 := hid h8b
  have HR := hid hR
  have HW0 := hid hw
  have HSUB := hid hsub
  have HP1 := hid hp1
  have HYY := hid hy
  have HBR := hid hbr
  have kk : ∀ w', Onto Wb.drew w' → ∀ k v ty, Wb.heap[k]? = some (.cells #[v] ty (0, 0)) → w'.cell? ⟨k, 0, none⟩ = some v := fun w' hh k v ty hk => by
    rw [cell_of_row _ _ _ _ _ _ ((hh.ext.block k (Array.getElem?_eq_some_iff.1 hk).1).trans hk)]; rfl
  have k3 : ∀ w', Onto Wb.drew w' → w'.cell? ⟨A.b3, 0, none⟩ = some (.pointer (some ⟨A.t, 0, none⟩)) := fun w' hh => kk w' hh _ _ _ hwb.h3
  have k6 : ∀ w', Onto Wb.drew w' → w'.cell? ⟨A.b6, 0, none⟩ = some (.int .i64 ((a : Int) / 256)) := fun w' hh => kk w' hh _ _ _ hwb.h6
  have k8 : ∀ w', Onto Wb.drew w' → w'.cell? ⟨A.b8, 0, none⟩ = some (.int .i64 (i : Int)) := fun w' hh => kk w' hh _ _ _ h8b
  have kt : ∀ w', Onto Wb.drew w' → TapeIn w' A.t A.p A.n T := fun w' hh => hwb.tape.below (Ext.trans _ _ _ (Ext.drew Wb) hh.ext)
  have kt0 : ∀ w', Onto Wb.drew w' → w'.cell? ⟨A.t, 0, none⟩ = some (.pointer (some ⟨A.p, 0, none⟩)) := fun w' hh => (kt w' hh).c0
  have kt1 : ∀ w', Onto Wb.drew w' → w'.cell? ⟨A.t, 1, none⟩ = some (I T.lo) := fun w' hh => (kt w' hh).c1
  clear kk kt
  have hw1 : IntKind.i64.wrap ((T.lo : Int) + (a : Int) / 256) = (T.lo : Int) + (a : Int) / 256 := IntWalk.i64_in _ (by omega)
  have hw2 : IntKind.i64.wrap ((T.lo : Int) + (a : Int) / 256 + (i : Int)) = (T.lo : Int) + (a : Int) / 256 + (i : Int) := IntWalk.i64_in _ (by omega)
  have HI := hid hi
  have HLL := hid hL
  clear hWb hpgd hwd hsn hwb hm2 hlb h8b hR hw hsub hp1 hy hbr hpg hpb hdb hd hwr hj hmodb hob hRR hal hgo hL hi
  refine ⟨_, _, _, _, HYY.out, ?_⟩
  clear HYY
  have e1 : rec.fn = 111 := by rw [hrec]
  have e2 : rec.assign = layAssign := by rw [hrec]
  have e3 : rec.body = layBody := by rw [hrec]
  have e4 := congrArg Loop.tmps hrec
  have e5 : rec.params = #[30] := by rw [hrec]
  have e6 : rec.state = .ready ∧ rec.pending = none := by rw [hrec]; exact ⟨rfl, rfl⟩
  have E6 := hid e6
  rw [e1, e2, e3, e4, e5]
  clear e1 e2 e3 e4 e5 e6 hrec
  refine roundIn_of_wpInP (fn := Try.f111) trivial Try.func111 ?_
  simp only [layAssign, layLoop, assignOf, behind, within, Try.f111, Option.getD_some, List.zip_toArray, List.zip_cons_cons, List.zip_nil_right, List.foldl_toArray', List.foldl_cons, List.foldl_nil, List.setIfInBounds_toArray, List.set_cons_zero, List.set_cons_succ]
  refine wpIn_list_round (fun ⟨_, _, h⟩ => h) (by kernel_rfl) ?_
  go_wp2_with fail
  refine ⟨_, HBR.out, ?_⟩
  clear HBR
  simp only [layBody, layLoop, roundOf, behind, within, Try.f111, Option.getD_some]
  refine wpIn_block (wpIn_seq ?_)
  refine wpIn_region_round Onto [13] [(0,0),(1,0),(2,0),(3,0),(4,0),(5,0),(6,0),(7,0),(8,0),(9,0),(10,0),(11,0),(12,0),(13,2),(14,0)] _ (fun ⟨_, _, h⟩ => h) (by kernel_rfl) (by kernel_rfl) rfl Onto.refl Onto.trans (by kernel_rfl) (by simp only [pick, List.getElem?_toArray, List.getElem?_cons_zero, List.getElem?_cons_succ]; rfl) (fun i oi hi c a v w h => by revert h; cases oi.dst <;> exact fun h => h) ?_
  refine wpK_q (v := ?_) (a' := ?_) (by rfl) (fun w' hR => ?_) ?_ ?_
  rotate_left 2
  · go_simp; with_reducible rfl
  · simp only [Act.put, List.setIfInBounds_toArray, List.set_cons_zero, List.set_cons_succ]; rfl
  refine wpK_q (v := ?_) (a' := ?_) (by rfl) (fun w' hR => ?_) ?_ ?_
  rotate_left 2
  · go_simp; with_reducible rfl
  · simp only [Act.put, List.setIfInBounds_toArray, List.set_cons_zero, List.set_cons_succ]; rfl
  refine wpK_q (v := ?_) (a' := ?_) (by rfl) (fun w' hR => ?_) ?_ ?_
  rotate_left 2
  · go_simp; with_reducible rfl
  · simp only [Act.put, List.setIfInBounds_toArray, List.set_cons_zero, List.set_cons_succ]; rfl
  refine wpK_q (v := ?_) (a' := ?_) (by rfl) (fun w' hR => ?_) ?_ ?_
  rotate_left 2
  · go_simp; with_reducible rfl
  · simp only [Act.put, List.setIfInBounds_toArray, List.set_cons_zero, List.set_cons_succ]; rfl
  refine wpK_q (v := ?_) (a' := ?_) (by rfl) (fun w' hR => ?_) ?_ ?_
  rotate_left 2
  · go_simp; with_reducible rfl
  · simp only [Act.put, List.setIfInBounds_toArray, List.set_cons_zero, List.set_cons_succ]; rfl
  refine wpK_q (v := ?_) (a' := ?_) (by rfl) (fun w' hR => ?_) ?_ ?_
  rotate_left 2
  · go_simp; with_reducible rfl
  · simp only [Act.put, List.setIfInBounds_toArray, List.set_cons_zero, List.set_cons_succ]; rfl
  refine wpK_q (v := ?_) (a' := ?_) (by rfl) (fun w' hR => ?_) ?_ ?_
  rotate_left 2
  · go_simp; with_reducible rfl
  · simp only [Act.put, List.setIfInBounds_toArray, List.set_cons_zero, List.set_cons_succ]; rfl
  refine wpK_q (v := ?_) (a' := ?_) (by rfl) (fun w' hR => ?_) ?_ ?_
  rotate_left 2
  · go_simp; with_reducible rfl
  · simp only [Act.put, List.setIfInBounds_toArray, List.set_cons_zero, List.set_cons_succ]; rfl
  refine wpK_q (v := ?_) (a' := ?_) (by rfl) (fun w' hR => ?_) ?_ ?_
  rotate_left 2
  · go_simp; with_reducible rfl
  · simp only [Act.put, List.setIfInBounds_toArray, List.set_cons_zero, List.set_cons_succ]; rfl
  refine wpK_q (v := ?_) (a' := ?_) (by rfl) (fun w' hR => ?_) ?_ ?_
  rotate_left 2
  · go_simp; with_reducible rfl
  · simp only [Act.put, List.setIfInBounds_toArray, List.set_cons_zero, List.set_cons_succ]; rfl
  refine wpK_q (v := ?_) (a' := ?_) (by rfl) (fun w' hR => ?_) ?_ ?_
  rotate_left 2
  · go_simp; with_reducible rfl
  · simp only [Act.put, List.setIfInBounds_toArray, List.set_cons_zero, List.set_cons_succ]; rfl
  refine wpK_q (v := ?_) (a' := ?_) (by rfl) (fun w' hR => ?_) ?_ ?_
  rotate_left 2
  · go_simp; with_reducible rfl
  · simp only [Act.put, List.setIfInBounds_toArray, List.set_cons_zero, List.set_cons_succ]; rfl
  refine wpK_q (v := ?_) (a' := ?_) (by rfl) (fun w' hR => ?_) ?_ ?_
  rotate_left 2
  · go_simp; with_reducible rfl
  · simp only [Act.put, List.setIfInBounds_toArray, List.set_cons_zero, List.set_cons_succ]; rfl
  refine wpK_call Try.func50 (by kernel_rfl) rfl rfl (by rfl) #[.pointer (some ⟨A.p, 0, none⟩), .int .i64 ((T.lo : Int) + (a : Int) / 256 + (i : Int)), .slice (some ⟨A.g, i * 256, none⟩) 256 256] (by simp only [List.map_toArray, List.map_cons, List.map_nil]; rfl) ?_
  refine HWD.out.mono ?_
  rintro e w' ⟨rfl, own', hd, hs', hm'⟩
  have hlt0 : ∀ k, k < wS.heap.size → own k → own0 k := fun k hk ho => (HSUB.out k ho).resolve_right (by omega)
  have hmw : Mod (fun k => own0 k ∨ k = A.b8 ∨ k = A.l) wS w' := (HM.out.trans (Mod.of_below _ (Ext.drew Wb))).then hm' (fun k hk ho => .inl (hlt0 k hk ho))
  have hsub' : ∀ k, own' k → own0 k ∨ wS.heap.size ≤ k := fun k hk => (hs' k hk).elim (HSUB.out k) (fun h => .inr (Nat.le_trans HM.out.size h))
  have hl' : w'.heap[A.l]? = some (.loop { rec with state := .busy }) := (hm'.block _ (Array.getElem?_eq_some_iff.1 HL.out).1 hol).trans HL.out
  have ho8 : ¬ own A.b8 := fun h => HW0.out.o8.2.1 (hlt0 _ HW0.out.o8.1 h)
  have h8' : w'.heap[A.b8]? = some (.cells #[.int .i64 (i : Int)] 3 (0, 0)) := (hm'.block _ (Array.getElem?_eq_some_iff.1 HB8.out).1 ho8).trans HB8.out
  have ho8' : ¬ own' A.b8 := fun h => (hs' _ h).elim ho8 (fun h => by have := (Array.getElem?_eq_some_iff.1 HB8.out).1; have e : Wb.drew.heap.size = Wb.heap.size := rfl; omega)
  have hol' : ¬ own' A.l := fun h => (hs' _ h).elim hol (fun h => by have := (Array.getElem?_eq_some_iff.1 HL.out).1; have e : Wb.drew.heap.size = Wb.heap.size := rfl; omega)
  have HD := hid hd
  have HS := hid hsub'
  have HMW := hid hmw
  have HL' := hid hl'
  have HO8 := hid ho8'
  have HOL := hid hol'
  have H8 := hid h8'
  have c8 : w'.cell? ⟨A.b8, 0, none⟩ = some (.int .i64 (i : Int)) := by rw [cell_of_row _ _ _ _ _ _ h8']; rfl
  have f8 : w'.frozen? ⟨A.b8, 0, none⟩ = false := frozen_row h8' 0
  have hi64 : IntKind.i64.wrap ((i : Int) + 1) = (i : Int) + 1 := IntWalk.i64_in _ (by have := HI.out; omega)
  clear hd k3 k6 k8 kt0 kt1 HWD hs' hm' hmw hsub' hl' ho8 h8' ho8' hol' hlt0 HL HB8 HW HM HSUB hol
  refine ⟨_, rfl, fun h => (by cases h), ?_⟩
  refine wpK_q (v := ?_) (a' := ?_) (by rfl) (fun w' hR => ?_) ?_ ?_
  rotate_left 2
  · go_simp; with_reducible rfl
  · simp only [Act.put, List.setIfInBounds_toArray, List.set_cons_zero, List.set_cons_succ]; rfl
  refine wpK_done ?_
  refine wpIn_seq ?_
  refine wpIn_list_round (fun ⟨_, _, h⟩ => h) (by kernel_rfl) ?_
  by_cases h0 : e0 = 0
  · subst h0
    go_wp2_with (go_at_call 108; refine (unless_ok _ _).mono ?_; rintro e w2 ⟨rfl, rfl⟩)
    refine wpIn_list_round (fun ⟨_, _, h⟩ => h) (by kernel_rfl) ?_
    go_wp2_with fail
    have hl2 := (heap_setCell_other w' ⟨A.b8, 0, none⟩ A.l (.int .i64 ((i : Int) + 1)) (Ne.symm HW0.out.o8.2.2)).trans HL'.out
    have hre : ({ rec with state := .ready, pending := none } : Loop) = rec := by
      obtain ⟨h1, h2⟩ := E6.out
      cases rec
      simp_all
    refine ⟨_, _, run_endRound (P := Try.prog) none hl2, .inl ⟨rfl, ?_⟩⟩
    simp only [Option.isNone_none, if_true]
    rw [hre]
    have hkp : ∀ k, k ≠ A.b8 → k ≠ A.l → ((w'.setCell ⟨A.b8, 0, none⟩ (.int .i64 ((i : Int) + 1))).putObj A.l (.loop rec)).heap[k]? = w'.heap[k]? := fun k h1 h2 => (World.putObj_heap_other h2).trans (heap_setCell_other w' ⟨A.b8, 0, none⟩ k _ h1)
    refine ⟨HMW.out.trans ⟨rfl, rfl, rfl, by simp, fun k hk ho => hkp k (fun e => ho (.inr (.inl e))) (fun e => ho (.inr (.inr e)))⟩, ?_, World.putObj_heap_same (Array.getElem?_eq_some_iff.1 hl2).1, ?_⟩
    · refine (World.putObj_heap_other HW0.out.o8.2.2).trans ?_
      rw [heap_setCell_same w' A.b8 0 _ _ _ H8.out]
      simp
    · exact ⟨own', D1, HD.out.keep (fun k hk => hkp k (fun e => HO8.out (e ▸ hk)) (fun e => HOL.out (e ▸ hk))) (by simp), HSN.out, HS.out⟩
  · have hb : (e0 == 0) = false := by simpa using h0
    have H0 := hid h0
    clear h0
    go_wp2_with (go_at_call 108; refine (unless_no _ _).mono ?_; rintro e w2 ⟨rfl, rfl⟩)
    refine ⟨rfl, .inr ⟨gaveUp e0, rfl, HR.out e0 w' H0.out ⟨own', D1, HD.out, ?_, HS.out, HMW.out⟩⟩⟩
    rw [← List.take_append_drop (i + 1) (TS.pagesOf all K), TS.wr_stop _ _ _ _ (by rw [HSN.out]; exact H0.out)]
    exact HSN.out
end Go.Proofs.Ytoaeapnkefjpaaa

namespace Go.Proofs.Ytoaeapnkefjpaaa
open Go.RowKit
set_option linter.unusedVariables false
set_option linter.unusedSimpArgs false

theorem wpList_zeros {ops : Array Oper} {rest : List Oper} {o : Oper} {a : Act} {w : World} {Q : Exit → Act → World → Prop} (hgd : o.guard = none) (s x : Operand)
    (ho : o.op = .call { callee := .builtin .append, args := #[s, x], argTypes := #[23, 3] }) (base n : Nat) (xs : List Value) (k : Nat) (hx : a.eval x = .int .i64 k)
    (hown : w.ownsRow base 5 1 (a.eval s) n xs) (hn : 0 < n) (hk : n + k ≤ 1000000000) (hbase : base ≤ w.heap.size)
    (h : ∀ v' w', w'.ownsRow base 5 1 v' (n + k) (xs ++ List.replicate k (B 0)) → w.grownBy w' (a.eval s).ownBlock → (v'.ownBlock = (a.eval s).ownBlock ∨ v'.ownBlock = some w.heap.size) → wpList Try.prog ops Q rest (a.put o.dst v') w') : wpList Try.prog ops Q (o :: rest) a w := by
  refine wpList_plain hgd fun K hK => ?_
  obtain ⟨v', w', hr, h2, h3, h4⟩ := run_app_zeros w base o.type (a.eval s) n xs hown k hn hk hbase
  unfold Oper.wp execOp
  simp only [ho, resolve, invoke, builtin, Sem.run_bind, Sem.run_pure, Result.andThen_ok, List.map_toArray, List.map_cons, List.map_nil, hx, hr]
  exact hK _ _ (h v' w' h2 h3 h4)
theorem heap_five {w W : World} {o0 o1 o2 o3 o4 : Obj} (h : W = ((((w.alloc o0).alloc o1).alloc o2).alloc o3).alloc o4) :
    W.heap.size = w.heap.size + 5 ∧ W.heap[w.heap.size]? = some o0 ∧ W.heap[w.heap.size + 1]? = some o1 ∧ W.heap[w.heap.size + 1 + 1]? = some o2 ∧ W.heap[w.heap.size + 3]? = some o3 ∧ W.heap[w.heap.size + 4]? = some o4 ∧ ∀ k, k < w.heap.size → W.heap[k]? = w.heap[k]? := by
  have e : ∀ (w : World) (o : Obj) (k : Nat), k < w.heap.size → (w.alloc o).heap[k]? = w.heap[k]? := fun w o k hk => Below.heap_alloc w o k hk
  have z : ∀ (w : World) (o : Obj), (w.alloc o).heap.size = w.heap.size + 1 := fun w o => by simp
  rw [h]
  refine ⟨by simp only [z], ?_, ?_, ?_, ?_, ?_, fun k hk => ?_⟩
  · rw [e _ _ _ (by simp only [z]; omega), e _ _ _ (by simp only [z]; omega), e _ _ _ (by simp only [z]; omega), e _ _ _ (by simp only [z]; omega)]; exact heap_alloc_new _ _
  · rw [e _ _ _ (by simp only [z]; omega), e _ _ _ (by simp only [z]; omega), e _ _ _ (by simp only [z]; omega)]; exact heap_alloc_at (z _ _)
  · rw [e _ _ _ (by simp only [z]; omega), e _ _ _ (by simp only [z]; omega)]; exact heap_alloc_at (by simp only [z])
  · rw [e _ _ _ (by simp only [z]; omega)]; exact heap_alloc_at (by simp only [z])
  · exact heap_alloc_at (by simp only [z])
  · rw [e _ _ _ (by simp only [z]; omega), e _ _ _ (by simp only [z]; omega), e _ _ _ (by simp only [z]; omega), e _ _ _ (by simp only [z]; omega), e _ _ _ hk]
theorem heap_alloc2 {w W : World} {x o : Obj} (h : W = (w.alloc x).alloc o) : W.heap[w.heap.size + 1]? = some o := by rw [h]; exact heap_alloc_at (by simp)
/-- The loop over the pages, and the way out of the function. -/
theorem lay_tail (A : LA) (W : World) (own : Nat → Prop) (T : TS) (D : DS) (a : Nat) (all : List UInt8) (K : Nat) (tm : Array Value) (act : Act) (R : Ending → World → Prop)
    (hl : W.heap[A.l]? = some (.loop { state := .ready, pending := none, fn := 111, tmps := tm, params := #[30], assign := layAssign, body := layBody, defers := A.kd }))
    (htm : tm = #[tm.getD 0 undef, tm.getD 1 undef, tm.getD 2 undef, .pointer (some ⟨A.b3, 0, none⟩), tm.getD 4 undef, tm.getD 5 undef, .pointer (some ⟨A.b6, 0, none⟩), tm.getD 7 undef, .pointer (some ⟨A.b8, 0, none⟩), tm.getD 9 undef, tm.getD 10 undef, tm.getD 11 undef, tm.getD 12 undef, tm.getD 13 undef, tm.getD 14 undef, tm.getD 15 undef, tm.getD 16 undef, tm.getD 17 undef, tm.getD 18 undef, tm.getD 19 undef, tm.getD 20 undef, tm.getD 21 undef, tm.getD 22 undef, tm.getD 23 undef, tm.getD 24 undef, tm.getD 25 undef, tm.getD 26 undef, tm.getD 27 undef, tm.getD 28 undef, tm.getD 29 undef, tm.getD 30 undef, tm.getD 31 undef, tm.getD 32 undef, tm.getD 33 undef, tm.getD 34 undef, tm.getD 35 undef, tm.getD 36 undef, tm.getD 37 undef, tm.getD 38 undef, tm.getD 39 undef, tm.getD 40 undef, tm.getD 41 undef, tm.getD 42 undef, tm.getD 43 undef, tm.getD 44 undef, tm.getD 45 undef, tm.getD 46 undef, tm.getD 47 undef, tm.getD 48 undef, tm.getD 49 undef, tm.getD 50 undef]) (hact : act.defers = [{ target := .collected A.kd, args := #[] }])
    (hL : all.length = K * 256) (hw : LW W A own T a all) (hd : DrumAt W A.p own D) (h8 : W.heap[A.b8]? = some (.cells #[.int .i64 0] 3 (0, 0))) (hK : K ≤ 1000) (hcap : all.length ≤ A.cap) (hcm : A.cap ≤ 9223372036854775807) (hN : D.waits.length ≤ 900000000) (ha : a ≤ 1048576)
    (hR : ∀ own' D' W' c, DrumAt W' A.p own' D' → TS.wr D (T.lo + a / 256) (TS.pagesOf all K) = (c, D') → (∀ k, own' k → own k ∨ W.heap.size ≤ k) → Mod (fun k => own k ∨ k = A.b8 ∨ k = A.l ∨ k = A.kd) W W' → R (endOr c (.tuple #[])) W') :
    Calls Try.prog 115 #[.func (.yield A.l) #[] #[], .pointer (some ⟨A.bs, 0, none⟩), .pointer (some ⟨A.bn, 0, none⟩)] W (rangeEnd Try.prog A.l (Plain2 (bodyPostM Fence.wide 5 Try.prog Try.f111 R)) act) := by
  obtain ⟨rec, hrec⟩ : ∃ rec : Loop, rec = { state := .ready, pending := none, fn := 111, tmps := tm, params := #[30], assign := layAssign, body := layBody, defers := A.kd } := ⟨_, rfl⟩
  rw [← hrec] at hl
  have hwr : TS.wr D (T.lo + a / 256) ((TS.pagesOf all K).take 0) = (0, D) := by simp [TS.wr]
  -- behind the mark
  have hkd : ∀ (own' : Nat → Prop) (D' : DS) (c : Int) (W' : World), DrumAt W' A.p own' D' → TS.wr D (T.lo + a / 256) (TS.pagesOf all K) = (c, D') → (∀ k, own' k → own k ∨ W.heap.size ≤ k) → Mod (fun k => own k ∨ k = A.b8 ∨ k = A.l) W W' →
      W'.heap[A.kd]? = some (.deferred (some [])) ∧ R (endOr c (.tuple #[])) (W'.putObj A.kd (.deferred none)) := by
    intro own' D' c W' h1 h2 h3 h4
    have hk := (hw.on h4).hd
    have hok : ¬ own' A.kd := fun h => by
      have := hw.out A.kd (by simp)
      rcases h3 _ h with h' | h'
      · exact this.2.1 h'
      · omega
    refine ⟨hk, hR own' D' _ c (h1.keep (fun k hk => World.putObj_heap_other (fun e => hok (e ▸ hk))) (by simp)) h2 h3 ?_⟩
    refine (h4.mono (fun k _ h => ?_)).trans ⟨rfl, rfl, rfl, by simp, fun k hk ho => World.putObj_heap_other (fun e => ho (.inr (.inr (.inr e))))⟩
    rcases h with h | h | h
    · exact .inl h
    · exact .inr (.inl h)
    · exact .inr (.inr (.inl h))
  refine (callsIn_wide (n := 1)).1 (iter_any (m := 0) A.l A.bs A.bn A.g 0 A.cap K all.length hL W (LJ W A own T D a all K rec) _ hcap hcm ?_ ?_ ?_ ?_ ?_)
  · exact ⟨Mod.refl _ _, h8, hl, own, D, hd, hwr, fun k hk => .inl hk⟩
  · intro i W' hj
    have h := hw.on hj.mod
    exact ⟨by rw [cell_of_row _ _ _ _ _ _ h.hs]; rfl, by rw [cell_of_row _ _ _ _ _ _ h.hn]; rfl⟩
  · intro i W' hi hj
    refine lay_round A W own T D a all K (fun i => tm.getD i undef) rec i W' _ ?_ hL hw hK hN ha hi hj ?_
    · rw [hrec]
      congr 1
    · rintro c W2 hc ⟨own', D', h1, h2, h3, h4⟩
      obtain ⟨k1, k2⟩ := hkd own' D' c W2 h1 h2 h3 h4
      show LeavesInM Fence.wide 5 Try.prog Try.f111 act.tmps R act.defers (.panicking (gaveUp c)) W2
      rw [hact]
      refine ⟨by simp, .inl ⟨_, _, rfl, run_takeDeferred k1, ?_⟩⟩
      show R (.panicked (gaveUp c)) _
      rw [endOr_no (by simpa using hc)]
      exact k2
  · exact fun i W' n hj => hj.drewN n
  · intro W' hj
    obtain ⟨own', D', h1, h2, h3⟩ := hj.drum
    have hal : (TS.pagesOf all K).take K = TS.pagesOf all K := List.take_of_length_le (by unfold TS.pagesOf; simp)
    rw [hal] at h2
    have hlt : A.l < W'.heap.size := (Array.getElem?_eq_some_iff.1 hj.hl).1
    have hol : ¬ own' A.l := fun h => by
      rcases h3 _ h with h' | h'
      · exact hw.ol.2 h'
      · have := hw.ol.1; omega
    have hend := run_endLoop (P := Try.prog) hj.hl (by rw [hrec]; simp)
    obtain ⟨W2, hW2⟩ : ∃ W2, W2 = W'.putObj A.l (.loop { rec with state := .exhausted }) := ⟨_, rfl⟩
    rw [← hW2, show rec.pending = none from by rw [hrec]] at hend
    obtain ⟨k1, k2⟩ := hkd own' D' 0 W2 (h1.keep (fun k hk => by rw [hW2]; exact World.putObj_heap_other (fun e => hol (e ▸ hk))) (by rw [hW2]; simp)) h2 h3 (hj.mod.trans (by rw [hW2]; exact ⟨rfl, rfl, rfl, by simp, fun k hk ho => World.putObj_heap_other (fun e => ho (.inr (.inr e)))⟩))
    refine ⟨W2, hend, ?_⟩
    show LeavesInM Fence.wide 5 Try.prog Try.f111 act.tmps R act.defers .returning W2
    rw [hact]
    refine ⟨by simp, .inl ⟨_, _, rfl, run_takeDeferred k1, ?_⟩⟩
    exact ⟨_, results_none rfl _ _ _, k2⟩
set_option maxRecDepth 100000 in
set_option maxHeartbeats 1600000 in
theorem tlay_any (w : World) (t p : Nat) (own : Nat → Prop) (T : TS) (D : DS) (a : Nat) (v : Value) (b : List UInt8) (h : TapeIn w t p D.safe.length T) (hd : DrumAt w p own D) (ht : ¬ own t) (ha : a ≤ T.size) (ho : D.off = false ∨ a % 256 = 0) (hv : Sees w v b) (hvo : ∀ k, v.ownBlock = some k → ¬ own k) (hb0 : 0 < b.length) (hb1 : b.length ≤ 66000) (hN : D.waits.length ≤ 900000000) :
    Calls Try.prog 111 #[.pointer (some ⟨t, 0, none⟩), I a, v] w fun e w' => e = endOr (TS.laid D T a b).1 (.tuple #[]) ∧ Drummed' own p w (TS.laid D T a b).2 w' := by
  obtain ⟨b1, b2, b3, b4, b5, b6, b7⟩ := h.bd
  have H := hid h
  have HD := hid hd
  have HV := hid hv
  have HVO := hid hvo
  have HT := hid ht
  have HO := hid ho
  have ha2 : a ≤ 1048576 := by omega
  clear h hd hv hvo ht ho b7
  obtain ⟨av, cv, rfl, hbl⟩ := HV.out.form0
  have hmf := closes
  refine calls_of_wpFn (n := 5) Try.func111 rfl ?_
  simp only [Try.ntmps111, List.size_toArray, List.length_cons, List.length_nil, Nat.reduceAdd, Nat.reduceSub, Array.replicate_succ, Array.replicate_zero, List.push_toArray, List.append_toArray, List.nil_append, List.cons_append]
  refine wpFn_seq ?_
  go_wp2_with fail
  refine wpFn_seq ?_
  go_wp2_with fail
  refine wpFn_seq ?_
  go_wp2_with fail
  obtain ⟨wA, hwA⟩ : ∃ wA, wA = (w.alloc (.cells #[.pointer (some ⟨t, 0, none⟩)] 86)).alloc (.cells #[.int .i64 ((a : Int) / 256)] 3) := ⟨_, rfl⟩
  rw [← hwA]
  have hBA : Below w.heap.size w wA := by rw [hwA]; exact ((Below.refl _ _).alloc (Nat.le_refl _) _).alloc (by simp) _
  have hzA : wA.heap.size = w.heap.size + 2 := by rw [hwA]; simp
  have hgt : wA.heap[w.heap.size]? = some (.cells #[.pointer (some ⟨t, 0, none⟩)] 86 (0, 0)) := by rw [hwA]; exact (Below.heap_alloc _ _ _ (by simp)).trans (heap_alloc_new _ _)
  have hg6 : wA.heap[w.heap.size + 1]? = some (.cells #[.int .i64 ((a : Int) / 256)] 3 (0, 0)) := by rw [hwA]; exact heap_alloc_at (by simp)
  have hah := ahead_any wA t p own T D (H.out.below hBA) (HD.out.below hBA) a ha HO.out
  have q1 : ((a / 256 * 256 : Nat) : Int) = (a : Int) / 256 * 256 := by omega
  have q2 : ((a % 256 : Nat) : Int) = (a : Int) % 256 := by omega
  rw [q1, q2] at hah
  obtain ⟨X0, hX0⟩ : ∃ X0, X0 = TS.ahead D T a := ⟨_, rfl⟩
  rw [← hX0] at hah
  have hX0l : X0.length = a % 256 := by
    rw [hX0]
    unfold TS.ahead
    have : (TS.bytes D T).length = T.size := TS.stretch_len HD.out.ok (by omega)
    rw [List.length_take, List.length_drop, this]; omega
  have HBA := hid hBA
  have HGT := hid hgt
  have HG6 := hid hg6
  have HX0 := hid hX0
  have HZA := hid hzA
  clear q1 q2 hwA hBA hgt hg6 hX0 hzA
  refine hah.mono ?_
  rintro e w1 ⟨v1, rfl, ho1, hb1'⟩
  rw [hX0l] at ho1
  obtain ⟨av1, cv1, rfl⟩ := own_form ho1
  have HO1 := hid ho1
  have HB1 := hid hb1'
  have hsA : wA.heap.size ≤ w1.heap.size := hb1'.size
  have HVs := hid (HV.out.below (Ext.trans _ _ _ HBA.out hb1'))
  clear ho1 hb1' hah
  obtain ⟨n1, hn1⟩ : ∃ n1 : Nat, n1 = a % 256 + b.length := ⟨_, rfl⟩
  obtain ⟨kz, hkz⟩ : ∃ kz : Nat, kz = (256 - n1 % 256) % 256 := ⟨_, rfl⟩
  obtain ⟨K, hK⟩ : ∃ K : Nat, n1 + kz = K * 256 := ⟨(n1 + kz) / 256, by omega⟩
  have hn1b : 0 < n1 ∧ n1 ≤ 66256 := by omega
  have hkzb : kz ≤ 255 := by omega
  go_wp2_with (at_builtin; refine wpList_app rfl (.tmp 18) (.tmp 19) 23 rfl wA.heap.size 5 (.int .u8 0) 1 1 Try.underlying23 info5 rfl (by decide) (a % 256) (X0.map B) b.length (b.map B) HO1.out HVs.out.src ?h63 ?hb hsA ?_)
  case h63 => unfold maxLen; omega
  case hb => omega
  intro v2 w2 hown hgrow hat
  rw [← List.map_append, ← hn1] at hown
  obtain ⟨av2, cv2, rfl⟩ := own_form hown
  have hb2 : Below w.heap.size w w2 := (Ext.trans _ _ _ HBA.out HB1.out).grown hgrow (by have := HBA.out.size; omega) (fun k hk => by have := (own_lt HO1.out k hk).1; have := HBA.out.size; omega)
  have hbA2 : Below wA.heap.size wA w2 := HB1.out.grown hgrow hsA (fun k hk => (own_lt HO1.out k hk).1)
  have HO2 := hid hown
  have HB2 := hid hb2
  have HBA2 := hid hbA2
  have HN1 := hid hn1
  have HKZ := hid hkz
  have HK := hid hK
  have hsz2 : wA.heap.size ≤ w2.heap.size := hbA2.size
  have hkk : (-((n1 : Int) % 256)) % 256 = (kz : Int) := by omega
  clear hown hgrow hat hb2 hn1 hkz hK HO1 HB1 HVs hbA2
  go_wp2_with fail
  refine wpFn_seq ?_
  go_wp2_with (at_builtin; refine wpList_zeros rfl (.tmp 21) (.tmp 26) rfl wA.heap.size n1 ((X0 ++ b).map B) kz ?hx HO2.out hn1b.1 ?hkn hsz2 ?_)
  case hx =>
    show Value.int .i64 ((256 - (n1 : Int) % 256) % 256) = _
    have := HKZ.out
    congr 1
    omega
  case hkn => omega
  intro v3 w3 hown hgrow hat
  have hz8 : (X0 ++ b ++ List.replicate kz 0).length = K * 256 := by
    have := HN1.out; have := HK.out
    rw [List.length_append, List.length_append, List.length_replicate, hX0l]; omega
  obtain ⟨all, hall⟩ : ∃ all, all = X0 ++ b ++ List.replicate kz 0 := ⟨_, rfl⟩
  have hrow : w3.ownsRow wA.heap.size 5 1 v3 (K * 256) (all.map B) := by
    exact own_len hown HK.out (by rw [hall]; simp)
  rw [← hall] at hz8
  obtain ⟨N, hNN⟩ : ∃ N, N = K * 256 := ⟨_, rfl⟩
  rw [← hNN] at hrow hz8
  obtain ⟨g, cap, rfl, g1, g2, g3, g4⟩ := own_slice hrow (by have := HK.out; omega)
  unfold maxLen at g2
  have hb3 : Below w.heap.size w w3 := HB2.out.grown hgrow (by have := HB2.out.size; omega) (fun k hk => by have := (own_lt HO2.out k hk).1; have := HBA.out.size; omega)
  have hgz : Below wA.heap.size wA w3 := HBA2.out.grown hgrow hsz2 (fun k hk => (own_lt HO2.out k hk).1)
  have HB3 := hid hb3
  have HS3 := hid (own_sees' hrow hz8)
  have HAL := hid hall
  have HLN := hid hz8
  have HNK := hid hNN
  have HG3 := hid hgz
  have hsz3 : wA.heap.size ≤ w3.heap.size := hgz.size
  clear hown hgrow hat hrow hall hz8 hNN hb3 HO2 HB2 HBA2 hgz
  go_wp2_with fail
  refine wpFn_seq ?_
  go_wp2_with fail
  refine wpFn_seq ?_
  go_wp2_with (go_at_call 114; refine (chunk_any _ _ ⟨_, _, _, rfl⟩).mono ?_; rintro e w4 ⟨rfl, hw4⟩)
  refine wpFn_block (wpFn_range (it := 115) rfl (fun args W => by simp [go_sem]) ?_)
  intro W hW
  have hz4 : w4.heap.size = w3.heap.size + 3 := by rw [← hw4]; simp
  have hzA := HZA.out
  have hz3 : w.heap.size + 2 ≤ w3.heap.size := by omega
  have hzW : W.heap.size = w3.heap.size + 5 := by rw [hW]; simp [hz4]
  have hlt := HD.out.lt
  have htl := H.out.lt
  obtain ⟨-, h8', hs', hn', -, -, ex⟩ := heap_five (show W = _ from by rw [hW, ← hw4])
  have ex0 : ∀ k, k < w.heap.size → W.heap[k]? = w.heap[k]? := fun k hk => (ex k (by omega)).trans (HB3.out.block k hk)
  have exA : ∀ k, k < w.heap.size + 2 → W.heap[k]? = wA.heap[k]? := fun k hk => (ex k (by omega)).trans (HG3.out.block k (by omega))
  have hl' := heap_alloc2 hW
  have hk' : W.heap[w4.heap.size]? = some (.deferred (some [])) := by rw [hW]; exact (Below.heap_alloc _ _ _ (by simp)).trans (heap_alloc_new _ _)
  have hxx : ((TS.stretch D T.lo (T.hi - T.lo)).drop (a / 256 * 256)).take (a % 256) = X0 := by rw [HX0.out]; rfl
  have hpad : TS.padded D T a b = all := by
    unfold TS.padded
    simp only [hxx]
    rw [HAL.out, List.length_append, hX0l, HKZ.out, HN1.out]
  have hNa := HLN.out
  have hNk := HNK.out
  subst hNa
  have hlaid : TS.laid D T a b = TS.wr D (T.lo + a / 256) (TS.pagesOf all K) := by
    unfold TS.laid
    rw [hpad, hNk, Nat.mul_div_cancel _ (by decide)]
  have hbW : Below w.heap.size w W := HB3.out.trans ⟨by rw [hW, ← hw4]; rfl, by rw [hW, ← hw4]; rfl, by rw [hW, ← hw4]; rfl, by omega, fun k hk => ex k (by omega)⟩
  refine lay_tail { t := t, p := p, l := w4.heap.size + 1, kd := w4.heap.size, b3 := w.heap.size, b6 := w.heap.size + 1, b8 := w3.heap.size, bs := w3.heap.size + 1, bn := w3.heap.size + 1 + 1, g := g, n := D.safe.length, cap := cap } W own T D a all K _ _ _ hl' ?htm rfl hNk ?hw (HD.out.below hbW) h8' ?hK g1 (by omega) hN ha2 ?hR
  case htm => rfl
  case hK => have := HK.out; omega
  case hR =>
    intro own' D' W' c h1 h2 h3 h4
    rw [hlaid, h2]
    refine ⟨rfl, own', h1, fun k hk => (h3 k hk).imp id (fun h => by omega), (Mod.of_below own hbW).then h4 (fun k hk h => ?_)⟩
    simp only at h
    rcases h with h | h | h | h
    · exact h
    all_goals omega
  case hw =>
    have nl : ∀ k, w.heap.size ≤ k → ¬ own k := fun k hk h => by have := hlt k h; omega
    refine ⟨(H.out.below hbW), (exA w.heap.size (by omega)).trans HGT.out, (exA (w.heap.size + 1) (by omega)).trans HG6.out, HS3.out.keep (fun k e => ex k (by cases e; exact g4)), hs', hn', hk', ?_, ⟨by simp only; omega, nl _ (by simp only; omega), by simp only; omega⟩, ⟨by simp only; omega, nl _ (by simp only; omega)⟩⟩
    · simp only
      rintro k (rfl | rfl | rfl | rfl | rfl | rfl | rfl)
      · exact ⟨by omega, HT.out, by omega, by omega⟩
      all_goals exact ⟨by omega, nl _ (by omega), by omega, by omega⟩
end Go.Proofs.Ytoaeapnkefjpaaa

namespace Go.Proofs.Ytoaeapnkefjpaaa
open Go.RowKit
set_option linter.unusedVariables false
set_option linter.unusedSimpArgs false

/-- An error's code. -/
def Code1 (c : Int) : Prop := c = 0 ∨ c = 1 ∨ c = 20
theorem Code1.bd {c : Int} (h : Code1 c) : -9223372036854775808 ≤ c ∧ c ≤ 9223372036854775807 := by rcases h with rfl | rfl | rfl <;> decide
theorem DS.Off_len (D : DS) (k : Int) : (D.Off k).safe.length = D.safe.length := by
  unfold DS.Off
  split
  · rfl
  · exact DS.lay_len _ _ _
theorem DS.op_len (D : DS) : D.op.safe.length = D.safe.length := by
  unfold DS.op
  split
  · split
    · exact DS.Off_len _ _
    · rfl
  · rfl
theorem DS.write_len (D : DS) (a : Int) (l : List UInt8) : (D.write a l).2.safe.length = D.safe.length := by
  unfold DS.write
  split
  · rfl
  · split
    · rfl
    · simp only []
      have := DS.op_len { D with waits := D.waits ++ [(a.toNat, l)] }
      split <;> exact this
theorem DS.Flush_len (D : DS) : D.Flush.2.safe.length = D.safe.length := by
  unfold DS.Flush
  split
  · rfl
  · simp only []
    have := DS.op_len D
    split
    · exact this
    · rw [DS.flush_len]; exact this
theorem DS.Flush_waits (D : DS) : D.Flush.2.waits.length ≤ D.waits.length := by
  unfold DS.Flush
  split
  · exact Nat.le_refl _
  · simp only []
    split
    · exact DS.op_waits' D
    · simp
theorem DS.Flush_on {D : DS} (h : D.Flush.1 = 0) : D.Flush.2.off = false := by
  unfold DS.Flush at h ⊢
  split at h
  · cases h
  · rename_i h1
    rw [if_neg h1]
    simp only [] at h ⊢
    split at h
    · cases h
    · rename_i h2
      rw [if_neg h2]
      simpa using h2
theorem DS.write_on' {D : DS} {a : Int} {l : List UInt8} (h : (D.write a l).1 = 0) : (D.write a l).2.off = false := by
  unfold DS.write at h ⊢
  split at h
  · cases h
  · rename_i h0
    rw [if_neg h0]
    split at h
    · cases h
    · rename_i h1
      rw [if_neg h1]
      simp only [] at h ⊢
      split at h
      · cases h
      · rename_i h2
        rw [if_neg h2]
        simpa using h2
theorem DS.write_code (D : DS) (a : Int) (l : List UInt8) : Code1 (D.write a l).1 := by
  unfold DS.write
  split
  · exact .inr (.inl rfl)
  · split
    · exact .inr (.inr rfl)
    · simp only []
      split
      · exact .inr (.inr rfl)
      · exact .inl rfl
theorem DS.Flush_code (D : DS) : Code1 D.Flush.1 := by
  unfold DS.Flush
  split
  · exact .inr (.inr rfl)
  · simp only []
    split
    · exact .inr (.inr rfl)
    · exact .inl rfl
theorem TS.wr_len : ∀ (l : List (List UInt8)) (D : DS) (a : Nat), (TS.wr D a l).2.safe.length = D.safe.length
  | [], _, _ => rfl
  | p :: ps, D, a => by
    rw [TS.wr]
    split
    · rw [TS.wr_len ps, DS.write_len]
    · exact DS.write_len _ _ _
theorem TS.wr_code : ∀ (l : List (List UInt8)) (D : DS) (a : Nat), Code1 (TS.wr D a l).1
  | [], _, _ => .inl rfl
  | p :: ps, D, a => by
    rw [TS.wr]
    split
    · exact TS.wr_code ps _ _
    · exact DS.write_code _ _ _
/-- What lay comes to. -/
def TS.layR (D : DS) (T : TS) (a : Nat) (b : List UInt8) : Int × DS := if D.off then (20, D) else TS.laid D T a b
theorem TS.layR_len (D : DS) (T : TS) (a : Nat) (b : List UInt8) : (TS.layR D T a b).2.safe.length = D.safe.length := by
  unfold TS.layR
  split
  · rfl
  · exact TS.wr_len _ _ _
theorem TS.layR_code (D : DS) (T : TS) (a : Nat) (b : List UInt8) : Code1 (TS.layR D T a b).1 := by
  unfold TS.layR
  split
  · exact .inr (.inr rfl)
  · exact TS.wr_code _ _ _
theorem TS.layR_waits (D : DS) (T : TS) (a : Nat) (b : List UInt8) (hb : b.length ≤ 66000) : (TS.layR D T a b).2.waits.length ≤ D.waits.length + 300 := by
  unfold TS.layR
  split
  · simp
  · unfold TS.laid
    have h := TS.wr_waits (TS.pagesOf (TS.padded D T a b) ((TS.padded D T a b).length / 256)) D (T.lo + a / 256)
    have h2 : (TS.pagesOf (TS.padded D T a b) ((TS.padded D T a b).length / 256)).length = (TS.padded D T a b).length / 256 := by unfold TS.pagesOf; simp
    have h3 : (TS.padded D T a b).length ≤ 67000 := by
      unfold TS.padded
      simp only [List.length_append, List.length_replicate]
      have := List.length_take_le (a % 256) ((TS.stretch D T.lo (T.hi - T.lo)).drop (a / 256 * 256))
      omega
    omega
/-- do, a step at a time. -/
theorem TS.doIt_eq (D : DS) (T : TS) (r : List UInt8) : TS.doIt D T r =
    (let x1 := TS.layR D T T.pos (TS.body T r)
     if x1.1 ≠ 0 then (x1.1, x1.2, { T with sick := x1.1 }) else
     let x2 := x1.2.Flush
     if x2.1 ≠ 0 then (x2.1, x2.2, { T with sick := x2.1 }) else
     let x3 := x2.2.write (T.lo + T.pos / 256 : Nat) (TS.marked x2.2 T)
     if x3.1 ≠ 0 then (x3.1, x3.2, { T with sick := x3.1 }) else
     let x4 := x3.2.Flush
     if x4.1 ≠ 0 then (x4.1, x4.2, { T with sick := x4.1 }) else
     (0, x4.2, { T with pos := T.pos + 12 + r.length, count := T.count + 1 })) := by
  unfold TS.doIt TS.layR
  cases D.off with
  | true => simp
  | false => simp
theorem TS.body_len' (T : TS) (r : List UInt8) : (TS.body T r).length = if T.pos + (12 + r.length) < T.size then 12 + r.length + 1 else 12 + r.length := by
  unfold TS.body
  simp only [List.length_cons, List.length_append, TS.framed_len]
  split <;> simp <;> omega
theorem TS.body_len (T : TS) (r : List UInt8) : 0 < (TS.body T r).length ∧ (TS.body T r).length ≤ 13 + r.length := by
  unfold TS.body
  simp only [List.length_cons, List.length_append, TS.framed_len]
  split <;> simp <;> omega
end Go.Proofs.Ytoaeapnkefjpaaa

namespace Go.Proofs.Ytoaeapnkefjpaaa
open Go.RowKit
set_option linter.unusedVariables false
set_option linter.unusedSimpArgs false

theorem TS.padded_len (D : DS) (T : TS) (a : Nat) (b : List UInt8) : (TS.padded D T a b).length % 256 = 0 := by
  unfold TS.padded
  simp only [List.length_append, List.length_replicate]
  omega
theorem TS.laid_off {D : DS} {T : TS} {a : Nat} {b : List UInt8} (hb : 0 < b.length) (ho : D.off = true) (ha : T.lo + a / 256 < D.safe.length) : TS.laid D T a b = (20, D) := by
  unfold TS.laid
  have hm := TS.padded_len D T a b
  have hp : 0 < (TS.padded D T a b).length := by
    unfold TS.padded
    simp only [List.length_append]
    omega
  obtain ⟨k, hk⟩ : ∃ k, (TS.padded D T a b).length / 256 = k + 1 := ⟨(TS.padded D T a b).length / 256 - 1, by omega⟩
  rw [hk]
  unfold TS.pagesOf
  rw [List.range_succ_eq_map, List.map_cons, TS.wr]
  have hl : (((TS.padded D T a b).drop (256 * 0)).take 256).length = 256 := by rw [List.length_take, List.length_drop]; omega
  have hw : D.write ((T.lo + a / 256 : Nat) : Int) (((TS.padded D T a b).drop (256 * 0)).take 256) = (20, D) := by
    unfold DS.write DS.bad
    have h1 : ¬ (((T.lo + a / 256 : Nat) : Int) < 0) := by omega
    have h2 : ¬ ((D.safe.length : Int) ≤ ((T.lo + a / 256 : Nat) : Int)) := by omega
    simp only [hl, h1, h2, ho]
    simp
  rw [hw]
  rfl
set_option maxRecDepth 100000 in
theorem tlay_down (w : World) (t p : Nat) (own : Nat → Prop) (T : TS) (D : DS) (a : Nat) (v : Value) (h : TapeIn w t p D.safe.length T) (hd : DrumAt w p own D) (ha : a < T.size) (ho : D.off = true) (h0 : 0 < a % 256) :
    Calls Try.prog 111 #[.pointer (some ⟨t, 0, none⟩), I a, v] w fun e w' => e = .panicked (gaveUp 20) ∧ Below w.heap.size w w' := by
  obtain ⟨b1, b2, b3, b4, b5, b6, b7⟩ := h.bd
  have H := hid h
  have HD := hid hd
  have HO := hid ho
  have ha2 : a ≤ 1048576 := by omega
  clear h hd ho b7
  go_enter Try.func111, Try.ntmps111
  go_wp2_with fail
  obtain ⟨wA, hwA⟩ : ∃ wA, wA = (w.alloc (.cells #[.pointer (some ⟨t, 0, none⟩)] 86)).alloc (.cells #[.int .i64 ((a : Int) / 256)] 3) := ⟨_, rfl⟩
  rw [← hwA]
  have hBA : Below w.heap.size w wA := by rw [hwA]; exact ((Below.refl _ _).alloc (Nat.le_refl _) _).alloc (by simp) _
  have hbd := bytes_down wA t p own T D (H.out.below hBA) (HD.out.below hBA) HO.out (a / 256 * 256) (a % 256) (by omega) h0 (by omega)
  have q1 : ((a / 256 * 256 : Nat) : Int) = (a : Int) / 256 * 256 := by omega
  have q2 : ((a % 256 : Nat) : Int) = (a : Int) % 256 := by omega
  rw [q1, q2] at hbd
  have HBA := hid hBA
  clear q1 q2 hwA hBA
  refine hbd.mono ?_
  rintro e w1 ⟨rfl, hb⟩
  exact ⟨rfl, rfl, HBA.out.trans (hb.mono HBA.out.size)⟩
theorem tlay_all (w : World) (t p : Nat) (own : Nat → Prop) (T : TS) (D : DS) (a : Nat) (v : Value) (b : List UInt8) (h : TapeIn w t p D.safe.length T) (hd : DrumAt w p own D) (ht : ¬ own t) (ha : a < T.size) (hv : Sees w v b) (hvo : ∀ k, v.ownBlock = some k → ¬ own k) (hb0 : 0 < b.length) (hb1 : b.length ≤ 66000) (hN : D.waits.length ≤ 900000000) :
    Calls Try.prog 111 #[.pointer (some ⟨t, 0, none⟩), I a, v] w fun e w' => e = endOr (TS.layR D T a b).1 (.tuple #[]) ∧ Drummed' own p w (TS.layR D T a b).2 w' := by
  cases ho : D.off with
  | false =>
    have := tlay_any w t p own T D a v b h hd ht (Nat.le_of_lt ha) (.inl ho) hv hvo hb0 hb1 hN
    unfold TS.layR
    rw [if_neg (by simp [ho])]
    exact this
  | true =>
    have e : TS.layR D T a b = (20, D) := by unfold TS.layR; rw [if_pos ho]
    rw [e]
    by_cases h0 : a % 256 = 0
    · have := tlay_any w t p own T D a v b h hd ht (Nat.le_of_lt ha) (.inr h0) hv hvo hb0 hb1 hN
      obtain ⟨b1, b2, b3, b4, b5, b6, b7⟩ := h.bd
      have hsz : T.size = (T.hi - T.lo) * 256 := rfl
      rw [TS.laid_off hb0 ho (by omega)] at this
      exact this
    · refine (tlay_down w t p own T D a v h hd ha ho (by omega)).mono ?_
      rintro e w' ⟨rfl, hb⟩
      exact ⟨rfl, own, hd.below hb, fun _ hk => .inl hk, Mod.of_below own hb⟩
/-! ### the door -/
set_option maxRecDepth 100000 in
set_option maxHeartbeats 1600000 in
theorem catch2_idle (p1 p2 : Addr) (w : World) :
    CallsD Try.prog 110 #[.pointer (some p1), .pointer (some p2)] .returning w fun e u' w' => e = .returned (.tuple #[]) ∧ u' = .returning ∧ w' = w := by
  refine callsD_of_wpS Try.func110 rfl fun c₀ cs hu => ?_
  apply wpS_seq
  apply wpS_region
  simp [wpOpsS, go_sem, recoverD, hu, Try.ntmps110, Exit.thenS]
  refine wpS_of_wp ?_
  go_wp2
  cases c₀
  simp_all [bodyPostS, results, Try.results110]
set_option maxRecDepth 100000 in
set_option maxHeartbeats 800000 in
theorem catch2_gave (b1 b2 t p n : Nat) (c1 : Array Value) (t1 : TypeId) (T : TS) (c : Int) (w : World) (h1 : w.heap[b1]? = some (.cells c1 t1 (0, 0))) (h2 : w.heap[b2]? = some (.cells #[.pointer (some ⟨t, 0, none⟩)] 86 (0, 0))) (h3 : TapeIn w t p n T)
    (s1 : c1.size = 1) (n12 : b1 ≠ b2) (n1t : b1 ≠ t) (n2t : b2 ≠ t) (hc : -9223372036854775808 ≤ c ∧ c ≤ 9223372036854775807) :
    CallsD Try.prog 110 #[.pointer (some ⟨b1, 0, none⟩), .pointer (some ⟨b2, 0, none⟩)] (.panicking (gaveUp c)) w fun e u' w' =>
      e = .returned (.tuple #[]) ∧ u' = .panicking [{ v := .iface 130 (.agg #[I c]), recovered := true }] ∧
      (w'.heap[b1]? = some (.cells #[I c] t1 (0, 0)) ∧ TapeIn w' t p n { T with sick := c }) ∧ Mod (fun k => k = b1 ∨ k = t) w w' := by
  have hta := gave_is c
  refine callsD_of_wpS Try.func110 rfl fun c₀ cs hu => ?_
  apply wpS_seq
  apply wpS_region
  unfold gaveUp at hu
  simp [wpOpsS, go_sem, recoverD, hu, Try.ntmps110, Exit.thenS]
  refine wpS_of_wp ?_
  simp only [Array.replicate_succ, Array.replicate_zero, List.push_toArray, List.append_toArray, List.nil_append, List.cons_append, List.setIfInBounds_toArray, List.set_cons_zero, List.set_cons_succ]
  go_wp2
  obtain ⟨wa, hwa⟩ : ∃ wa, wa = w.alloc (.cells #[.int .i64 c] 130) := ⟨_, rfl⟩
  obtain ⟨b4, hb4⟩ : ∃ b4, b4 = w.heap.size := ⟨_, rfl⟩
  rw [← hwa, ← hb4]
  have l1 := (Array.getElem?_eq_some_iff.1 h1).1
  have l2 := (Array.getElem?_eq_some_iff.1 h2).1
  have l3 := h3.lt
  have g1 : wa.heap[b1]? = some (.cells c1 t1 (0, 0)) := by rw [hwa]; exact (Below.heap_alloc w _ _ l1).trans h1
  have g2 : wa.heap[b2]? = some (.cells #[.pointer (some ⟨t, 0, none⟩)] 86 (0, 0)) := by rw [hwa]; exact (Below.heap_alloc w _ _ l2).trans h2
  have g3 : TapeIn wa t p n T := by rw [hwa]; exact h3.keep (Below.heap_alloc w _ _ l3)
  have g4 : wa.heap[b4]? = some (.cells #[.int .i64 c] 130 (0, 0)) := by rw [hwa, hb4]; exact heap_alloc_new _ _
  have hm : Mod (fun k => k = b1 ∨ k = t) w wa := by rw [hwa]; exact Mod.alloc _
  have n14 : b4 ≠ b1 := by omega
  have n24 : b4 ≠ b2 := by omega
  have n34 : b4 ≠ t := by omega
  obtain ⟨v1, hv1⟩ := cell_one g1 s1
  have k4 : ∀ w', KeepTwo b4 b2 wa.drew w' → w'.cell? ⟨b4, 0, none⟩ = some (I c) := fun w' hh => by rw [cell_of_row w' b4 _ _ _ _ (hh.1.trans g4)]; rfl
  have k2 : ∀ w', KeepTwo b4 b2 wa.drew w' → w'.cell? ⟨b2, 0, none⟩ = some (.pointer (some ⟨t, 0, none⟩)) := fun w' hh => by rw [cell_of_row w' b2 _ _ _ _ (hh.2.trans g2)]; rfl
  have G1 := hid g1
  have G2 := hid g2
  have G3 := hid g3
  have HM := hid hm
  have HU := hid hu
  clear hwa hb4 h1 h2 h3 l1 l2 l3 hta g1 g2 g3 g4 hm hu
  refine wp_region_order (KeepTwo b4 b2) [] [(0,0),(1,0),(2,0),(3,0),(4,0),(5,1),(6,0),(7,0),(8,1)] _ (by kernel_rfl) rfl KeepTwo.refl KeepTwo.trans (by kernel_rfl) (by simp only [pick, List.getElem?_toArray, List.getElem?_cons_zero, List.getElem?_cons_succ]; rfl) (fun c a d v w h => by cases d <;> exact h) ?_
  refine wpK_q (v := ?_) (a' := ?_) (by rfl) (fun w' hR => ?_) ?_ ?_
  rotate_left 2
  · go_simp; with_reducible rfl
  · simp only [Act.put, List.setIfInBounds_toArray, List.set_cons_zero, List.set_cons_succ]; rfl
  refine wpK_q (v := ?_) (a' := ?_) (by rfl) (fun w' hR => ?_) ?_ ?_
  rotate_left 2
  · go_simp; with_reducible rfl
  · simp only [Act.put, List.setIfInBounds_toArray, List.set_cons_zero, List.set_cons_succ]; rfl
  refine wpK_q (v := ?_) (a' := ?_) (by rfl) (fun w' hR => ?_) ?_ ?_
  rotate_left 2
  · go_simp; with_reducible rfl
  · simp only [Act.put, List.setIfInBounds_toArray, List.set_cons_zero, List.set_cons_succ]; rfl
  refine wpK_q (v := ?_) (a' := ?_) (by rfl) (fun w' hR => ?_) ?_ ?_
  rotate_left 2
  · go_simp; with_reducible rfl
  · simp only [Act.put, List.setIfInBounds_toArray, List.set_cons_zero, List.set_cons_succ]; rfl
  refine wpK_q (v := ?_) (a' := ?_) (by rfl) (fun w' hR => ?_) ?_ ?_
  rotate_left 2
  · go_simp; with_reducible rfl
  · simp only [Act.put, List.setIfInBounds_toArray, List.set_cons_zero, List.set_cons_succ]; rfl
  refine wpK_s (by rfl) rfl (exec_store rfl (vx := .pointer (some ⟨b1, 0, none⟩)) (vy := I c) rfl rfl (run_store1 (u := v1) (by kernel_rfl) rfl rfl hv1 (frozen_row G1.out 0))) (fun _ => ⟨heap_setCell_other wa.drew ⟨b1, 0, none⟩ b4 _ n14, heap_setCell_other wa.drew ⟨b1, 0, none⟩ b2 _ (Ne.symm n12)⟩) ?_
  refine wpK_q (v := ?_) (a' := ?_) (by rfl) (fun w' hR => ?_) ?_ ?_
  rotate_left 2
  · go_simp; with_reducible rfl
  · simp only [Act.put, List.setIfInBounds_toArray, List.set_cons_zero, List.set_cons_succ]; rfl
  refine wpK_q (v := ?_) (a' := ?_) (by rfl) (fun w' hR => ?_) ?_ ?_
  rotate_left 2
  · go_simp; with_reducible rfl
  · simp only [Act.put, List.setIfInBounds_toArray, List.set_cons_zero, List.set_cons_succ]; rfl
  obtain ⟨wx, hwx⟩ : ∃ wx, wx = wa.drew.setCell ⟨b1, 0, none⟩ (I c) := ⟨_, rfl⟩
  have x1 : wx.heap[b1]? = some (.cells #[I c] t1 (0, 0)) := by rw [hwx]; exact set_one (show wa.drew.heap[b1]? = _ from G1.out) s1 (I c)
  have xo : ∀ k, k ≠ b1 → wx.heap[k]? = wa.heap[k]? := fun k hk => by rw [hwx]; exact heap_setCell_other wa.drew ⟨b1, 0, none⟩ k _ hk
  have x3 : TapeIn wx t p n T := G3.out.keep (xo t (Ne.symm n1t))
  have xm : Mod (fun k => k = b1 ∨ k = t) w wx := by rw [hwx]; exact ((HM.out.trans (Mod.drew wa)).trans (Mod.set (.inl rfl)))
  rw [← hwx]
  have X1 := hid x1
  have X3 := hid x3
  have XM := hid xm
  refine wpK_s (by rfl) rfl (exec_store rfl (vx := .pointer (some ⟨t, 5, none⟩)) (vy := I c) rfl rfl (run_store1 (u := I T.sick) (by kernel_rfl) rfl rfl x3.c5 (x3.fr 5))) (fun _ => ⟨heap_setCell_other wx ⟨t, 5, none⟩ b4 _ n34, heap_setCell_other wx ⟨t, 5, none⟩ b2 _ n2t⟩) ?_
  have y1 : (wx.setCell ⟨t, 5, none⟩ (I c)).heap[b1]? = some (.cells #[I c] t1 (0, 0)) := (heap_setCell_other wx ⟨t, 5, none⟩ b1 _ n1t).trans X1.out
  have y3 : TapeIn (wx.setCell ⟨t, 5, none⟩ (I c)) t p n { T with sick := c } := by
    refine ⟨⟨x3.ok.lt, x3.ok.le, x3.ok.pos, x3.ok.count, hc⟩, x3.n2, ?_⟩
    rw [heap_setCell_same wx t 5 _ _ _ x3.ht]
    rfl
  have ym : Mod (fun k => k = b1 ∨ k = t) w (wx.setCell ⟨t, 5, none⟩ (I c)) := xm.trans (Mod.set (.inr rfl))
  refine wpK_done ?_
  generalize wx.setCell ⟨t, 5, none⟩ (I c) = w9 at *
  have hu := HU.out
  clear HU k4 k2 G1 G2 G3 HM X1 X3 XM x1 xo x3 xm hv1 hwx
  simp only [Exit.inBlock]
  refine (show bodyPostS _ _ _ _ _ _ _ _ _ from ?_)
  simp [bodyPostS, results, Try.results110, y1, y3, ym]
/-- Out through the door, nothing given up. -/
theorem door2_ret {b1 b2 : Nat} {tmps : Array Value} {w : World} {R : Ending → World → Prop} {u1 : Value} (h4 : tmps[4]?.getD undef = .pointer (some ⟨b1, 0, none⟩))
    (c1 : w.cell? ⟨b1, 0, none⟩ = some u1) (h : R (.returned u1) w) :
    bodyPostD Try.prog Try.f99 R Exit.ret { tmps := tmps, defers := [{ target := .fn (.func 110) #[.pointer (some ⟨b1, 0, none⟩), .pointer (some ⟨b2, 0, none⟩)], args := #[] }] } w := by
  refine leaves_cons (f := 110) (args := #[.pointer (some ⟨b1, 0, none⟩), .pointer (some ⟨b2, 0, none⟩)]) (by simp) (by simp [go_sem]) ?_
  refine (catch2_idle _ _ _).mono ?_
  rintro e u' w'' ⟨rfl, rfl, rfl⟩
  simp [Leaves, settle, results, Try.results99, go_sem, h4, c1, h]
/-- Out through the door, something given up: the tape is sick of it. -/
theorem door2_gave {b1 b2 t p n : Nat} {T : TS} {tmps : Array Value} {w : World} {R : Ending → World → Prop} {c : Int} {v1 : Array Value} (h4 : tmps[4]?.getD undef = .pointer (some ⟨b1, 0, none⟩))
    (g1 : w.heap[b1]? = some (.cells v1 46 (0, 0))) (g2 : w.heap[b2]? = some (.cells #[.pointer (some ⟨t, 0, none⟩)] 86 (0, 0))) (g3 : TapeIn w t p n T) (s1 : v1.size = 1) (n12 : b1 ≠ b2) (n1t : b1 ≠ t) (n2t : b2 ≠ t) (hc : -9223372036854775808 ≤ c ∧ c ≤ 9223372036854775807)
    (h : ∀ w', TapeIn w' t p n { T with sick := c } → Mod (fun k => k = b1 ∨ k = t) w w' → R (.returned (I c)) w') :
    bodyPostD Try.prog Try.f99 R (Exit.panic (gaveUp c)) { tmps := tmps, defers := [{ target := .fn (.func 110) #[.pointer (some ⟨b1, 0, none⟩), .pointer (some ⟨b2, 0, none⟩)], args := #[] }] } w := by
  refine leaves_cons (f := 110) (args := #[.pointer (some ⟨b1, 0, none⟩), .pointer (some ⟨b2, 0, none⟩)]) (by simp) (by simp [go_sem]) ?_
  refine (catch2_gave b1 b2 t p n v1 46 T c w g1 g2 g3 s1 n12 n1t n2t hc).mono ?_
  rintro e u' w'' ⟨rfl, rfl, ⟨r1, r2⟩, hm⟩
  have c1 : w''.cell? ⟨b1, 0, none⟩ = some (I c) := by rw [cell_of_row w'' b1 _ _ _ _ r1]; rfl
  have hh := h w'' r2 hm
  simp [Leaves, settle, results, Try.results99, go_sem, h4, c1, hh]
theorem res99 (d : Tmp) (v : Value) (tmps : Array Value) (hd : d ∉ [4]) : results Try.f99 (tmps.setIfInBounds d v) = results Try.f99 tmps := by
  have h : ¬ d = 4 := by simpa using hd
  simp [results, Try.results99, Array.getElem?_setIfInBounds_ne h]
end Go.Proofs.Ytoaeapnkefjpaaa
