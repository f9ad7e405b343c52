/-
  SealPieces of layer 2: the walk.
-/
import Derived.Test.YtoaeapnkefjpaaaSealC
import Derived.Test.YtoaeapnkefjpaaaOps
namespace Go.Proofs.Ytoaeapnkefjpaaa.sealPieces
open Go.RowKit
set_option linter.unusedVariables false
set_option linter.unusedSimpArgs false

theorem run_min_ (ats : Array TypeId) (ty : TypeId) (x y : Int) (w : World) : (Builtin.min_ ats ty #[.int .i64 x, .int .i64 y]).run Try.prog w = .ok (.int .i64 (min x y)) w := run_min ats ty x y w
theorem run_max_ (ats : Array TypeId) (ty : TypeId) (x y : Int) (w : World) : (Builtin.max_ ats ty #[.int .i64 x, .int .i64 y]).run Try.prog w = .ok (.int .i64 (max x y)) w := run_max ats ty x y w
set_option maxRecDepth 100000 in
set_option maxHeartbeats 1600000 in
theorem walk (a0 : Int) (a1 : Option Addr) (l : List UInt8) (cap : Nat) (x y : Int) (w : World) (w0 : 0 ≤ a0 ∧ a0 ≤ 18446744073709551615) (hv : Sees w (.slice a1 l.length cap) l) (hx : -9223372036854775808 ≤ x ∧ x ≤ 9223372036854775807) (hy : -9223372036854775808 ≤ y ∧ y ≤ 9223372036854775807) :
    Calls Try.prog 4 #[.int .u64 a0, .slice a1 l.length cap, .agg #[.int .i64 x, .int .i64 y]] w fun e w' => e = .returned (.bool true) ∧ Below w.heap.size w w' := by
  have hcap : l.length ≤ cap ∧ cap ≤ maxLen := by obtain ⟨ao, c, h, h1, h2, -⟩ := hv; simp only [Value.slice.injEq] at h; obtain ⟨-, -, rfl⟩ := h; exact ⟨h1, h2⟩
  unfold maxLen at hcap
  have HV := hid (hv.below (show Below w.heap.size w (w.alloc (.cells #[.int .i64 x, .int .i64 y] 29)) from (Below.refl _ _).alloc (Nat.le_refl _) _))
  clear hv
  have hbox := hid (cell_of_row (w.alloc (.cells #[.int .i64 x, .int .i64 y] 29)) w.heap.size 0 _ _ _ (heap_alloc_new w _))
  have hbox1 := hid (cell_of_row (w.alloc (.cells #[.int .i64 x, .int .i64 y] 29)) w.heap.size 1 _ _ _ (heap_alloc_new w _))
  go_enter Try.func4, Try.ntmps4
  go_wp2_with (go_at_call 23; refine (wakes2_any _).mono ?_; rintro e w1 ⟨rfl, hb⟩)
  have HV1 := hid (HV.out.below hb)
  have kx := hid ((hb.cell (p := ⟨w.heap.size, 0, none⟩) (by simp)).trans hbox.out)
  have ky := hid ((hb.cell (p := ⟨w.heap.size, 1, none⟩) (by simp)).trans hbox1.out)
  have HB := hid (((Below.refl w.heap.size w).alloc (Nat.le_refl _) (.cells #[.int .i64 x, .int .i64 y] 29)).trans (hb.mono (by simp)))
  clear hb hbox hbox1 HV
  have k1 : ∀ w', Ext w1.drew w' → w'.cell? ⟨w.heap.size, 0, none⟩ = some (.int .i64 x) := fun w' h => h.cell kx.out
  have k2 : ∀ w', Ext w1.drew w' → w'.cell? ⟨w.heap.size, 1, none⟩ = some (.int .i64 y) := fun w' h => h.cell ky.out
  have km := run_min_
  have kM := run_max_
  refine wp_region_order Ext [] [(0,0),(1,0),(2,0),(3,0),(4,0),(5,0),(6,0),(7,0),(8,0),(9,0),(10,0),(11,0)] _ (by kernel_rfl) rfl Ext.refl Ext.trans (by kernel_rfl) (by simp only [pick, List.getElem?_toArray, List.getElem?_cons_zero, List.getElem?_cons_succ]; rfl) (fun c a d v w h => by cases d <;> exact h) ?_
  refine wpK_q (v := ?_) (a' := ?_) (by rfl) (fun w' hR => ?_) ?_ ?_
  rotate_left 2
  · go_simp; with_reducible rfl
  · simp only [Act.put, List.setIfInBounds_toArray, List.set_cons_zero, List.set_cons_succ]; rfl
  refine wpK_q (v := ?_) (a' := ?_) (by rfl) (fun w' hR => ?_) ?_ ?_
  rotate_left 2
  · go_simp; with_reducible rfl
  · simp only [Act.put, List.setIfInBounds_toArray, List.set_cons_zero, List.set_cons_succ]; rfl
  refine wpK_q (v := ?_) (a' := ?_) (by rfl) (fun w' hR => ?_) ?_ ?_
  rotate_left 2
  · go_simp; with_reducible rfl
  · simp only [Act.put, List.setIfInBounds_toArray, List.set_cons_zero, List.set_cons_succ]; rfl
  refine wpK_q (v := ?_) (a' := ?_) (by rfl) (fun w' hR => ?_) ?_ ?_
  rotate_left 2
  · go_simp; with_reducible rfl
  · simp only [Act.put, List.setIfInBounds_toArray, List.set_cons_zero, List.set_cons_succ]; rfl
  refine wpK_q (v := ?_) (a' := ?_) (by rfl) (fun w' hR => ?_) ?_ ?_
  rotate_left 2
  · go_simp; with_reducible rfl
  · simp only [Act.put, List.setIfInBounds_toArray, List.set_cons_zero, List.set_cons_succ]; rfl
  refine wpK_q (v := ?_) (a' := ?_) (by rfl) (fun w' hR => ?_) ?_ ?_
  rotate_left 2
  · go_simp; with_reducible rfl
  · simp only [Act.put, List.setIfInBounds_toArray, List.set_cons_zero, List.set_cons_succ]; rfl
  refine wpK_q (v := ?_) (a' := ?_) (by rfl) (fun w' hR => ?_) ?_ ?_
  rotate_left 2
  · go_simp; with_reducible rfl
  · simp only [Act.put, List.setIfInBounds_toArray, List.set_cons_zero, List.set_cons_succ]; rfl
  refine wpK_q (v := ?_) (a' := ?_) (by rfl) (fun w' hR => ?_) ?_ ?_
  rotate_left 2
  · go_simp; with_reducible rfl
  · simp only [Act.put, List.setIfInBounds_toArray, List.set_cons_zero, List.set_cons_succ]; rfl
  refine wpK_q (v := ?_) (a' := ?_) (by rfl) (fun w' hR => ?_) ?_ ?_
  rotate_left 2
  · go_simp; with_reducible rfl
  · simp only [Act.put, List.setIfInBounds_toArray, List.set_cons_zero, List.set_cons_succ]; rfl
  refine wpK_q (v := ?_) (a' := ?_) (by rfl) (fun w' hR => ?_) ?_ ?_
  rotate_left 2
  · go_simp; with_reducible rfl
  · simp only [Act.put, List.setIfInBounds_toArray, List.set_cons_zero, List.set_cons_succ]; rfl
  refine wpK_q (v := ?_) (a' := ?_) (by rfl) (fun w' hR => ?_) ?_ ?_
  rotate_left 2
  · go_simp; with_reducible rfl
  · simp only [Act.put, List.setIfInBounds_toArray, List.set_cons_zero, List.set_cons_succ]; rfl
  refine wpK_q (v := ?_) (a' := ?_) (by rfl) (fun w' hR => ?_) ?_ ?_
  rotate_left 2
  · go_simp; with_reducible rfl
  · simp only [Act.put, List.setIfInBounds_toArray, List.set_cons_zero, List.set_cons_succ]; rfl
  refine wpK_done ?_
  obtain ⟨i, hi⟩ : ∃ i, i = min x y := ⟨_, rfl⟩
  obtain ⟨k, hk⟩ : ∃ k, k = max x y := ⟨_, rfl⟩
  rw [← hi, ← hk]
  have hik : i ≤ k ∧ k ≤ 9223372036854775807 ∧ -9223372036854775808 ≤ i := by omega
  clear k1 k2 km kM kx ky hi hk
  have HV2 := hid HV1.out.drew
  have HB2 := hid HB.out.drew
  clear HV1 HB
  by_cases h1 : l.length ≤ 16384
  case neg =>
    go_wp2
    go_ret
    exact ⟨rfl, HB2.out⟩
  by_cases h2 : i < 0
  · go_wp2
    go_ret
    exact ⟨rfl, HB2.out⟩
  by_cases h3 : (l.length : Int) < k
  · go_wp2
    go_ret
    exact ⟨rfl, HB2.out⟩
  obtain ⟨i, rfl⟩ : ∃ m : Nat, i = m := ⟨i.toNat, by omega⟩
  obtain ⟨k, rfl⟩ : ∃ m : Nat, k = m := ⟨k.toNat, by omega⟩
  have e1 : i ≤ k ∧ k ≤ l.length := by omega
  go_wp2
  generalize hw2 : w1.drew = w2 at *
  clear hw2
  have hS1 := HV2.out.sl (Nat.zero_le i) (show i ≤ l.length by omega)
  have hS2 := HV2.out.sl e1.1 e1.2
  have hS3 := HV2.out.sl e1.2 (Nat.le_refl _)
  have r0 := Sum.add_range a0 (l.take i)
  have hsum : Sum.add (Sum.add (Sum.add a0 ((l.take i).drop 0)) ((l.take k).drop i)) ((l.take l.length).drop k) = Sum.add a0 l := by
    have e2 : l.take i ++ (l.take k).drop i = l.take k := by
      have : l.take i = (l.take k).take i := by rw [List.take_take, Nat.min_eq_left e1.1]
      rw [this, List.take_append_drop]
    have e3 : (l.take i).drop 0 ++ (l.take k).drop i ++ (l.take l.length).drop k = l := by rw [List.drop_zero, e2, List.take_length, List.take_append_drop]
    rw [← Sum.add_append, ← Sum.add_append, ← List.append_assoc, e3]
  refine wp_region_order Ext [] [(0,0),(1,0),(2,0),(3,0),(5,0),(6,0),(7,0),(8,0),(10,0),(11,0),(12,0),(14,0),(15,0),(4,1),(9,1),(13,1),(16,1),(17,0),(18,0)] _ (by kernel_rfl) rfl Ext.refl Ext.trans (by kernel_rfl) (by simp only [pick, List.getElem?_toArray, List.getElem?_cons_zero, List.getElem?_cons_succ]; rfl) (fun c a d v w h => by cases d <;> exact h) ?_
  refine wpK_q (v := ?_) (a' := ?_) (by rfl) (fun w' hR => ?_) ?_ ?_
  rotate_left 2
  · go_simp; with_reducible rfl
  · simp only [Act.put, List.setIfInBounds_toArray, List.set_cons_zero, List.set_cons_succ]; rfl
  refine wpK_q (v := ?_) (a' := ?_) (by rfl) (fun w' hR => ?_) ?_ ?_
  rotate_left 2
  · go_simp; with_reducible rfl
  · simp only [Act.put, List.setIfInBounds_toArray, List.set_cons_zero, List.set_cons_succ]; rfl
  refine wpK_q (v := ?_) (a' := ?_) (by rfl) (fun w' hR => ?_) ?_ ?_
  rotate_left 2
  · go_simp; with_reducible rfl
  · simp only [Act.put, List.setIfInBounds_toArray, List.set_cons_zero, List.set_cons_succ]; rfl
  refine wpK_q (v := ?_) (a' := ?_) (by rfl) (fun w' hR => ?_) ?_ ?_
  rotate_left 2
  · have hh := val_of (run_sl_to a1 l.length cap i (by omega) w')
    exact hh
  · simp only [Act.put, List.setIfInBounds_toArray, List.set_cons_zero, List.set_cons_succ]; rfl
  refine wpK_q (v := ?_) (a' := ?_) (by rfl) (fun w' hR => ?_) ?_ ?_
  rotate_left 2
  · go_simp; with_reducible rfl
  · simp only [Act.put, List.setIfInBounds_toArray, List.set_cons_zero, List.set_cons_succ]; rfl
  refine wpK_q (v := ?_) (a' := ?_) (by rfl) (fun w' hR => ?_) ?_ ?_
  rotate_left 2
  · go_simp; with_reducible rfl
  · simp only [Act.put, List.setIfInBounds_toArray, List.set_cons_zero, List.set_cons_succ]; rfl
  refine wpK_q (v := ?_) (a' := ?_) (by rfl) (fun w' hR => ?_) ?_ ?_
  rotate_left 2
  · go_simp; with_reducible rfl
  · simp only [Act.put, List.setIfInBounds_toArray, List.set_cons_zero, List.set_cons_succ]; rfl
  refine wpK_q (v := ?_) (a' := ?_) (by rfl) (fun w' hR => ?_) ?_ ?_
  rotate_left 2
  · have hh := val_of (run_sl a1 l.length cap i k e1.1 (by omega) w')
    exact hh
  · simp only [Act.put, List.setIfInBounds_toArray, List.set_cons_zero, List.set_cons_succ]; rfl
  refine wpK_q (v := ?_) (a' := ?_) (by rfl) (fun w' hR => ?_) ?_ ?_
  rotate_left 2
  · go_simp; with_reducible rfl
  · simp only [Act.put, List.setIfInBounds_toArray, List.set_cons_zero, List.set_cons_succ]; rfl
  refine wpK_q (v := ?_) (a' := ?_) (by rfl) (fun w' hR => ?_) ?_ ?_
  rotate_left 2
  · go_simp; with_reducible rfl
  · simp only [Act.put, List.setIfInBounds_toArray, List.set_cons_zero, List.set_cons_succ]; rfl
  refine wpK_q (v := ?_) (a' := ?_) (by rfl) (fun w' hR => ?_) ?_ ?_
  rotate_left 2
  · have hh := val_of (run_sl_from a1 l.length cap k e1.2 w')
    exact hh
  · simp only [Act.put, List.setIfInBounds_toArray, List.set_cons_zero, List.set_cons_succ]; rfl
  refine wpK_q (v := ?_) (a' := ?_) (by rfl) (fun w' hR => ?_) ?_ ?_
  rotate_left 2
  · go_simp; with_reducible rfl
  · simp only [Act.put, List.setIfInBounds_toArray, List.set_cons_zero, List.set_cons_succ]; rfl
  refine wpK_q (v := ?_) (a' := ?_) (by rfl) (fun w' hR => ?_) ?_ ?_
  rotate_left 2
  · go_simp; with_reducible rfl
  · simp only [Act.put, List.setIfInBounds_toArray, List.set_cons_zero, List.set_cons_succ]; rfl
  refine wpK_call Try.func26 (by kernel_rfl) rfl rfl (by rfl) #[.int .u64 a0, sl a1 cap 0 i] (by simp only [List.map_toArray, List.map_cons, List.map_nil]; rfl) ?_
  refine (add_any a0 w0.1 (by omega) _ _ _ hS1.drew).mono ?_
  rintro e w3 ⟨rfl, rfl⟩
  refine ⟨_, rfl, fun _ => Ext.refl _, ?_⟩
  have r1 := Sum.add_range (Sum.add a0 ((l.take i).drop 0)) ((l.take k).drop i)
  have r2 := Sum.add_range a0 ((l.take i).drop 0)
  refine wpK_call Try.func26 (by kernel_rfl) rfl rfl (by rfl) #[.int .u64 (Sum.add a0 ((l.take i).drop 0)), sl a1 cap i k] (by simp only [List.map_toArray, List.map_cons, List.map_nil]; rfl) ?_
  refine (add_any _ r2.1 (by omega) _ _ _ hS2.drew).mono ?_
  rintro e w3 ⟨rfl, rfl⟩
  refine ⟨_, rfl, fun _ => Ext.refl _, ?_⟩
  refine wpK_call Try.func26 (by kernel_rfl) rfl rfl (by rfl) #[.int .u64 (Sum.add (Sum.add a0 ((l.take i).drop 0)) ((l.take k).drop i)), sl a1 cap k l.length] (by simp only [List.map_toArray, List.map_cons, List.map_nil]; rfl) ?_
  refine (add_any _ r1.1 (by omega) _ _ _ hS3.drew).mono ?_
  rintro e w3 ⟨rfl, rfl⟩
  refine ⟨_, rfl, fun _ => Ext.refl _, ?_⟩
  refine wpK_call Try.func26 (by kernel_rfl) rfl rfl (by rfl) #[.int .u64 a0, .slice a1 l.length cap] (by simp only [List.map_toArray, List.map_cons, List.map_nil]; rfl) ?_
  refine (add_any a0 w0.1 (by omega) _ _ _ HV2.out.drew).mono ?_
  rintro e w3 ⟨rfl, rfl⟩
  refine ⟨_, rfl, fun _ => Ext.refl _, ?_⟩
  rw [hsum]
  clear hsum hS1 hS2 hS3
  refine wpK_q (v := ?_) (a' := ?_) (by rfl) (fun w' hR => ?_) ?_ ?_
  rotate_left 2
  · go_simp; with_reducible rfl
  · simp only [Act.put, List.setIfInBounds_toArray, List.set_cons_zero, List.set_cons_succ]; rfl
  refine wpK_q (v := ?_) (a' := ?_) (by rfl) (fun w' hR => ?_) ?_ ?_
  rotate_left 2
  · go_simp; with_reducible rfl
  · simp only [Act.put, List.setIfInBounds_toArray, List.set_cons_zero, List.set_cons_succ]; rfl
  refine wpK_done ?_
  go_wp2
  go_ret
  exact ⟨rfl, HB2.out.drew⟩

end Go.Proofs.Ytoaeapnkefjpaaa.sealPieces
