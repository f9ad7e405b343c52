/-
  THE DOCUMENT'S DRUM, eighth file: New. Conditions: none beyond the number's range.
-/
import Derived.Test.YtoaeapnkefjpaaaRefP7
namespace Go.Proofs.Ytoaeapnkefjpaaa
open Go.RowKit
set_option linter.unusedVariables false
set_option linter.unusedSimpArgs false

set_option maxRecDepth 100000 in
set_option maxHeartbeats 3200000 in
theorem rnew_any (w : World) (n : Int) (hn : -9223372036854775808 ≤ n ∧ n ≤ 9223372036854775807) :
    Calls Try.prog 37 #[I n] w fun e w' => ∃ p own, e = .returned (.pointer (some ⟨p, 0, none⟩)) ∧ RefAt w' p own (DS.new (DS.clamp n)) ∧ (∀ k, own k → w.heap.size ≤ k) ∧ Below w.heap.size w w' := by
  obtain ⟨m, hm⟩ : ∃ m : Nat, m = DS.clamp n := ⟨_, rfl⟩
  have hm' : (m : Int) = min (max n 1) 4096 := by rw [hm]; unfold DS.clamp; omega
  rw [← hm]
  have HM := hid hm'
  clear hm hm'
  have hcase : n < 1 ∨ 4096 < n ∨ (1 ≤ n ∧ n ≤ 4096) := by omega
  rcases hcase with hc | hc | hc
  all_goals
    go_enter Try.func37, Try.ntmps37
    go_wp2
    go_loopw [4] (fun i wr => ∃ j : Nat, j ≤ m ∧ i = I j ∧ Hid (Mk w j wr)) (fun i _ => m - (intOf i).toNat)
    case atStart => 
      refine ⟨0, Nat.zero_le _, rfl, hid ⟨⟨.slice none 0 0, [], fun _ => False, heap_alloc_new w _, World.ownsRow_nil _ _ _ _, Pages.nil _ _, fun k hk => hk.elim, fun k hk => (by cases hk)⟩, (Below.refl _ _).alloc (Nat.le_refl _) _⟩⟩
    case round =>
      obtain ⟨j, hj, rfl, HK⟩ := hrel
      have hm2 := HM.out
      by_cases hlt : j < m
      · obtain ⟨sv, ss, pb, hp, hs, hP, hb, hv⟩ := HK.out.ex
        have hplt : w.heap.size < wr.heap.size := (Array.getElem?_eq_some_iff.1 hp).1
        have hsp : sv.ownBlock ≠ some w.heap.size := fun e => by have := (hv _ e).1; omega
        have c0 : wr.cell? ⟨w.heap.size, 0, none⟩ = some sv := by rw [cell_of_row wr _ _ _ _ _ hp]; rfl
        have HP := hid hp
        have HS := hid hs
        have HPP := hid hP
        have HB := hid hb
        have HVV := hid hv
        clear hp hs hP hb hv
        have hjm : (j : Int) < m := by omega
        go_wp2
        have k0 : ∀ w', KeepB sv.ownBlock wr.heap.size wr.drew w' → w'.cell? ⟨w.heap.size, 0, none⟩ = some sv := fun w' hh => hh.cell c0 hsp hplt
        refine wp_region_order (KeepB sv.ownBlock wr.heap.size) [10] [(0,0),(1,0),(2,0),(3,0),(4,0),(5,1),(6,1),(7,1),(8,0),(9,0),(10,2)] _ (by kernel_rfl) rfl KeepB.refl KeepB.trans (by kernel_rfl) (by simp only [pick, List.getElem?_toArray, List.getElem?_cons_zero, List.getElem?_cons_succ]; rfl) (fun c a d v w h => by cases d <;> exact h) ?_
        refine wpK_q (v := ?_) (a' := ?_) (by rfl) (fun w' hR => ?_) ?_ ?_
        rotate_left 2
        · go_simp; with_reducible rfl
        · simp only [Act.put, List.setIfInBounds_toArray, List.set_cons_zero, List.set_cons_succ]; rfl
        refine wpK_q (v := ?_) (a' := ?_) (by rfl) (fun w' hR => ?_) ?_ ?_
        rotate_left 2
        · go_simp; with_reducible rfl
        · simp only [Act.put, List.setIfInBounds_toArray, List.set_cons_zero, List.set_cons_succ]; rfl
        refine wpK_q (v := ?_) (a' := ?_) (by rfl) (fun w' hR => ?_) ?_ ?_
        rotate_left 2
        · go_simp; with_reducible rfl
        · simp only [Act.put, List.setIfInBounds_toArray, List.set_cons_zero, List.set_cons_succ]; rfl
        refine wpK_q (v := ?_) (a' := ?_) (by rfl) (fun w' hR => ?_) ?_ ?_
        rotate_left 2
        · go_simp; with_reducible rfl
        · simp only [Act.put, List.setIfInBounds_toArray, List.set_cons_zero, List.set_cons_succ]; rfl
        refine wpK_q (v := ?_) (a' := ?_) (by rfl) (fun w' hR => ?_) ?_ ?_
        rotate_left 2
        · go_simp; with_reducible rfl
        · simp only [Act.put, List.setIfInBounds_toArray, List.set_cons_zero, List.set_cons_succ]; rfl
        refine wpK_v (v := .slice (some ⟨wr.heap.size, 0, none⟩) 256 256) (w' := wr.drew.alloc (.cells (page0.map B).toArray 5)) (by rfl) (by have hh := val_of (page_made wr.drew); exact hh) (fun _ => KeepB.alloc _) (by simp only [Act.put, List.setIfInBounds_toArray, List.set_cons_zero, List.set_cons_succ]; rfl) ?_
        obtain ⟨w5, hw5⟩ : ∃ w5, w5 = wr.drew.alloc (.cells (page0.map B).toArray 5) := ⟨_, rfl⟩
        have hB5 : Below wr.heap.size wr w5 := by rw [hw5]; exact (Ext.trans _ _ _ (Ext.drew wr) ((Below.refl _ _).alloc (Nat.le_refl _) _)).below
        have hsee5 : Sees w5 (.slice (some ⟨wr.heap.size, 0, none⟩) 256 256) page0 := by rw [hw5]; exact page0_sees wr.drew
        have hz5 : w5.heap.size = wr.heap.size + 1 := by rw [hw5]; simp
        rw [← hw5]
        refine wpK_v (v := .slice (some ⟨w5.heap.size, 0, none⟩) 1 1) (w' := w5.alloc (.cells #[.slice (some ⟨wr.heap.size, 0, none⟩) 256 256] 23)) (by rfl) (by go_simp) (fun _ => KeepB.alloc _) (by simp only [Act.put, List.setIfInBounds_toArray, List.set_cons_zero, List.set_cons_succ]; rfl) ?_
        obtain ⟨w6, hw6⟩ : ∃ w6, w6 = w5.alloc (.cells #[.slice (some ⟨wr.heap.size, 0, none⟩) 256 256] 23) := ⟨_, rfl⟩
        have hB6 : Below wr.heap.size wr w6 := by rw [hw6]; exact hB5.alloc (by omega) _
        have hx6 : w6.ownsRow 0 23 1 sv j ss := own_mod HS.out (fun i hi => hB6.block i (own_lt HS.out i hi).2)
        have hsrc2 : Src w6 1 (.slice (some ⟨w5.heap.size, 0, none⟩) 1 1) 1 [.slice (some ⟨wr.heap.size, 0, none⟩) 256 256] := by
          rw [hw6]
          exact Src.new w5 1 23 [_] rfl (fun u hu => by obtain rfl := List.mem_singleton.1 hu; rfl)
        have hz6 : w6.heap.size = wr.heap.size + 2 := by rw [hw6]; simp [hz5]
        have hsee6 : Sees w6 (.slice (some ⟨wr.heap.size, 0, none⟩) 256 256) page0 := hsee5.keep (fun i hi => by
          obtain rfl : wr.heap.size = i := Option.some.inj hi
          rw [hw6]
          exact Below.heap_alloc w5 _ _ (by omega))
        rw [← hw6]
        obtain ⟨sv', w7, hr7, ho7, hg7, hb7⟩ := run_app (P := Try.prog) w6 0 45 45 23 _ 1 24 Try.underlying45 info23 rfl (by decide) sv j ss hx6 _ 1 _ hsrc2 (by unfold maxLen; omega) (by omega) (Nat.zero_le _)
        refine wpK_v (by rfl) (exec_append rfl _ (by simp only [List.map_toArray, List.map_cons, List.map_nil]; rfl) hr7) (fun _ => KeepB.grown hg7 (fun k hk => .inl hk)) (by simp only [Act.put, List.setIfInBounds_toArray, List.set_cons_zero, List.set_cons_succ]; rfl) ?_
        refine wpK_q (v := ?_) (a' := ?_) (by rfl) (fun w' hR => ?_) ?_ ?_
        rotate_left 2
        · go_simp; with_reducible rfl
        · simp only [Act.put, List.setIfInBounds_toArray, List.set_cons_zero, List.set_cons_succ]; rfl
        refine wpK_q (v := ?_) (a' := ?_) (by rfl) (fun w' hR => ?_) ?_ ?_
        rotate_left 2
        · go_simp; with_reducible rfl
        · simp only [Act.put, List.setIfInBounds_toArray, List.set_cons_zero, List.set_cons_succ]; rfl
        have hX7 : ∀ i, i < wr.heap.size → sv.ownBlock ≠ some i → w7.heap[i]? = wr.heap[i]? := fun i hi hne => (hg7.block i (Nat.lt_of_lt_of_le hi hB6.size) (fun e => hne e.symm)).trans (hB6.block i hi)
        have hp7 := (hX7 w.heap.size hplt hsp).trans HP.out
        refine wpK_s (by rfl) rfl (exec_store rfl (vx := .pointer (some ⟨w.heap.size, 0, none⟩)) (vy := sv') rfl rfl (run_store1 (u := sv) (by kernel_rfl) ?_ ?_ (by rw [cell_of_row w7 _ _ _ _ _ hp7]; rfl) (frozen_row hp7 0))) (fun h => by cases h) ?_
        · obtain ⟨ao, c, rfl⟩ := own_form ho7; rfl
        · obtain ⟨ao, c, rfl⟩ := own_form ho7; rfl
        refine wpK_done ?_
        have hsv' : ∀ i, sv'.ownBlock = some i → (sv.ownBlock = some i ∧ w.heap.size < i ∧ ¬ pb i ∧ i < wr.heap.size) ∨ i = wr.heap.size + 2 := fun i hi => by
          rcases hb7 with e | e
          · have e' := e.symm.trans hi
            exact .inl ⟨e', (HVV.out i e').1, (HVV.out i e').2.2, (HVV.out i e').2.1⟩
          · rw [e] at hi; have := Option.some.inj hi; exact .inr (by omega)
        have hs7 : w6.heap.size ≤ w7.heap.size := hg7.size
        have hbw : Below w.heap.size w wr := HK.out.below
        have hMk : Mk w (j + 1) (w7.setCell ⟨w.heap.size, 0, none⟩ sv') := by
          have hother : ∀ i, i ≠ w.heap.size → (w7.setCell ⟨w.heap.size, 0, none⟩ sv').heap[i]? = w7.heap[i]? := fun i hi => heap_setCell_other w7 ⟨w.heap.size, 0, none⟩ i _ hi
          refine ⟨⟨sv', ss ++ [.slice (some ⟨wr.heap.size, 0, none⟩) 256 256], (fun i => pb i ∨ i = wr.heap.size), ?_, ?_, ?_, ?_, ?_⟩, ?_⟩
          · rw [heap_setCell_same w7 w.heap.size 0 _ _ sv' hp7]; rfl
          · exact own_mod ho7 (fun i hi => hother i (fun e => by rcases hsv' i hi with h1 | h1 <;> omega))
          · have h1 := ((HPP.out.keep (w' := w7.setCell ⟨w.heap.size, 0, none⟩ sv') (fun i hi => (hother i (fun e => by have := (HB.out i hi).1; omega)).trans (hX7 i (HB.out i hi).2 (fun e => (HVV.out i e).2.2 hi)))).more (pb' := fun i => pb i ∨ i = wr.heap.size) (fun i hi => .inl hi)).snoc (q := page0) (v := .slice (some ⟨wr.heap.size, 0, none⟩) 256 256) (hsee6.keep (fun i hi => by
              obtain rfl : wr.heap.size = i := Option.some.inj hi
              exact (hother _ (fun e => by omega)).trans (hg7.block _ (by omega) (fun e => by
                have := (HVV.out _ e.symm).2.1; omega)))) (fun i hi => by cases hi; exact .inr rfl)
            rw [List.replicate_succ']
            exact h1
          · rintro i (e | e)
            · have := HB.out i e; refine ⟨this.1, ?_⟩; simp; omega
            · subst e; refine ⟨hplt, ?_⟩; simp; omega
          · intro i hi
            have := (own_lt ho7 i hi).2
            rcases hsv' i hi with h1 | h1
            · refine ⟨h1.2.1, by simpa using this, ?_⟩
              rintro (e | e)
              · exact h1.2.2.1 e
              · omega
            · refine ⟨by omega, by simpa using this, ?_⟩
              rintro (e | e)
              · have := (HB.out i e).2; omega
              · omega
          · refine ((hbw.trans (hB6.mono (by omega))).trans ⟨hg7.os, hg7.tape, hg7.output, hg7.size, fun i hi => hg7.block i (by omega) (fun e => by have := (HVV.out i e.symm).1; omega)⟩).trans ?_
            exact (Below.refl _ _).setCell (by simp) _
        generalize w7.setCell ⟨w.heap.size, 0, none⟩ sv' = w8 at *
        have HMK := hid hMk
        clear hMk hsv' hs7 hbw hp7 hX7 hr7 ho7 hg7 hb7 hz6 hsee6 hsrc2 hx6 hB6 hw6 hz5 hsee5 hB5 hw5 k0 c0
        go_wp2
        go_roundw
        case rel => exact ⟨j + 1, by omega, by go_num, HMK⟩
        case measure => simp [intOf]; omega
      · have e : j = m := by omega
        subst e
        obtain ⟨own, h1, h2⟩ := HK.out.new (by omega) (by omega)
        have hbb := HK.out.below
        clear HK
        go_wp2
        go_ret
        exact ⟨_, own, rfl, h1, h2, hbb⟩
end Go.Proofs.Ytoaeapnkefjpaaa
