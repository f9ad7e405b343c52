/-
  THE TAPE'S LAWS: wakes. Conditions: those that each contract names.
-/
import Derived.Test.YtoaeapnkefjpaaaTapeW2
namespace Go.Proofs.Ytoaeapnkefjpaaa
open Go.RowKit
set_option linter.unusedVariables false
set_option linter.unusedSimpArgs false
/-- All but block b stays. -/
structure AllBut (b : Nat) (w w' : World) : Prop where
  m : Mod (fun k => k = b) w w'
theorem AllBut.refl {b : Nat} (w : World) : AllBut b w w := ⟨Mod.refl _ _⟩
theorem AllBut.trans {b : Nat} (w w' w'' : World) (h : AllBut b w w') (k : AllBut b w' w'') : AllBut b w w'' := ⟨h.m.trans k.m⟩
theorem AllBut.sees {b : Nat} {w w' : World} (h : AllBut b w w') {v : Value} {l : List UInt8} (hv : Sees w v l) (hb : ∀ k, v.ownBlock = some k → k < w.heap.size ∧ k ≠ b) : Sees w' v l := hv.keep (fun k hk => h.m.block k (hb k hk).1 (hb k hk).2)
set_option maxRecDepth 100000 in
set_option maxHeartbeats 1600000 in
theorem wakes4_any (w : World) : Calls Try.prog 64 #[] w fun e w' => e = .returned (.bool true) ∧ Below w.heap.size w w' := by
  have k23 := fun (w : World) (C : Array Value) (n c : Nat) => Lib.run_convert_bytes_const (P := Try.prog) w 23 5 C n c Try.underlying23 Try.underlying5
  go_enter Try.func64, Try.ntmps64
  go_wp2_with (go_at_call 36; refine (st_new _ 3 (by omega)).mono ?_; rintro e w1 ⟨p, own, rfl, h⟩; have H := hid (show St w own p Wk4.D0 w1 from h); clear h)
  have hop := tst_open H.out 1 3 (by omega) (by omega)
  rw [Wk4.opn0] at hop
  refine hop.mono ?_
  rintro e w2 (⟨h1, -⟩ | ⟨-, t, v, rfl, ht, hlt, hrc, hb⟩)
  · exact absurd rfl h1
  obtain ⟨ao, co, rfl⟩ := hrc.form
  have HT := hid (show TSt w own p t Wk4.T0 Wk4.D0 w2 from ht)
  clear ht hrc hb hop H hlt
  rw [show (((0 : Int), ([] : List (List UInt8)), (0 : Nat), (0 : Nat)).snd.fst.length) = 0 from rfl]
  have hS := Sees.lit w2 Wk4.hi2 (2, 3) (by decide)
  have hcells : (Wk4.hi2.map B).toArray = #[Value.int .u8 104, Value.int .u8 105] := rfl
  rw [hcells] at hS
  have hb : Below w2.heap.size w2 (w2.alloc (.cells #[.int .u8 104, .int .u8 105] 5 (2, 3))) := (Below.refl _ _).alloc (Nat.le_refl _) _
  have hap := tst_append (HT.out.on hb) (v := .slice (some ⟨w2.heap.size, 0, none⟩) 2 2) (r := Wk4.hi2) hS (by decide)
  have hap2 : Calls Try.prog 66 #[.pointer (some ⟨t, 0, none⟩), .slice (some ⟨w2.heap.size, 0, none⟩) 2 2] (w2.alloc (.cells #[.int .u8 104, .int .u8 105] 5 (2, 3))) fun e w' => e = .returned (I 0) ∧ ∃ own', TSt w own' p t Wk4.T1 Wk4.D1 w' := hap.mono fun e w' hx => by
    obtain ⟨h1, own', h2, -⟩ := hx
    exact ⟨by rw [h1]; show Ending.returned (I Wk4.X1.1) = _; rw [Wk4.x1], own', h2⟩
  have HAP := hid hap2
  clear hS hcells hb hap hap2
  go_wp2_with (go_at_call 66; refine HAP.out.mono ?_; rintro e w4 ⟨rfl, own', ht⟩; have HT2 := hid ht; clear ht)
  have hops := ops_any w4 p own' Wk4.D1 HT2.out.drum.at'
  rw [Wk4.ops1] at hops
  refine hops.mono ?_
  rintro e w5 ⟨rfl, rfl⟩
  clear hops
  go_wp2_with fail
  have hrd := st_read HT2.out.drum 1 (by omega)
  rw [Wk4.rd1] at hrd
  refine hrd.mono ?_
  rintro e w6 ⟨v6, rfl, hst, ho, hb⟩
  have ho' : w6.ownsRow w4.heap.size 5 1 v6 256 (Wk4.P1.map B) := own_len ho Wk4.len1 rfl
  obtain ⟨g6, cap6, rfl, g1, g2, g3, g4⟩ := own_slice ho' (by decide)
  have HS6 := hid (own_sees' ho' Wk4.len1)
  have HB6 := hid (hst.below)
  clear hrd hst ho hb ho' HAP
  go_wp2_with fail
  obtain ⟨n0, hn0⟩ : ∃ n, n = w6.heap.size := ⟨_, rfl⟩
  have hgn : g6 < n0 := by omega
  have k1 : ∀ w', AllBut n0 w6.drew w' → (convert 23 9 (.slice (some ⟨g6, 0, none⟩) 14 cap6)).run Try.prog w' = .ok (.string (str (Wk4.P1.take 14))) w' := fun w' hh => run_str Try.underlying23 Try.underlying5 Try.underlying9 (hh.sees (by
    have h0 := HS6.out
    have := Sees.take (g := g6) (off := 0) (n := 256) (cap := cap6) (L := Wk4.P1) h0 14 (by rw [Wk4.len1]; omega)
    exact this.drew) (fun k hk => by have h2 : g6 = k := Option.some.inj hk; have h3 : w6.drew.heap.size = w6.heap.size := rfl; exact ⟨by omega, by omega⟩))
  have HN0 := hid hn0
  have hcap : (14 : Int) ≤ (cap6 : Int) := by omega
  clear hn0 g1 g2 g3 g4
  refine wp_region_order (AllBut n0) [] [(0,0),(1,0),(2,0),(3,0),(4,0),(5,0),(6,0),(7,0),(8,0),(9,0),(10,0),(11,1),(12,1),(13,1),(14,0),(15,0),(16,0),(17,0)] _ (by kernel_rfl) rfl AllBut.refl AllBut.trans (by kernel_rfl) (by simp only [pick, List.getElem?_toArray, List.getElem?_cons_zero, List.getElem?_cons_succ]; rfl) (fun c a d v w h => by cases d <;> exact h) ?_
  refine wpK_q (v := ?_) (a' := ?_) (by rfl) (fun w' hR => ?_) ?_ ?_
  rotate_left 2
  · go_simp; with_reducible rfl
  · simp only [Act.put, List.setIfInBounds_toArray, List.set_cons_zero, List.set_cons_succ]; rfl
  refine wpK_q (v := ?_) (a' := ?_) (by rfl) (fun w' hR => ?_) ?_ ?_
  rotate_left 2
  · go_simp; with_reducible rfl
  · simp only [Act.put, List.setIfInBounds_toArray, List.set_cons_zero, List.set_cons_succ]; rfl
  refine wpK_q (v := ?_) (a' := ?_) (by rfl) (fun w' hR => ?_) ?_ ?_
  rotate_left 2
  · go_simp; with_reducible rfl
  · simp only [Act.put, List.setIfInBounds_toArray, List.set_cons_zero, List.set_cons_succ]; rfl
  refine wpK_q (v := ?_) (a' := ?_) (by rfl) (fun w' hR => ?_) ?_ ?_
  rotate_left 2
  · go_simp; with_reducible rfl
  · simp only [Act.put, List.setIfInBounds_toArray, List.set_cons_zero, List.set_cons_succ]; rfl
  refine wpK_q (v := ?_) (a' := ?_) (by rfl) (fun w' hR => ?_) ?_ ?_
  rotate_left 2
  · go_simp; with_reducible rfl
  · simp only [Act.put, List.setIfInBounds_toArray, List.set_cons_zero, List.set_cons_succ]; rfl
  refine wpK_q (v := ?_) (a' := ?_) (by rfl) (fun w' hR => ?_) ?_ ?_
  rotate_left 2
  · go_simp; with_reducible rfl
  · simp only [Act.put, List.setIfInBounds_toArray, List.set_cons_zero, List.set_cons_succ]; rfl
  refine wpK_q (v := ?_) (a' := ?_) (by rfl) (fun w' hR => ?_) ?_ ?_
  rotate_left 2
  · go_simp; with_reducible rfl
  · simp only [Act.put, List.setIfInBounds_toArray, List.set_cons_zero, List.set_cons_succ]; rfl
  refine wpK_q (v := ?_) (a' := ?_) (by rfl) (fun w' hR => ?_) ?_ ?_
  rotate_left 2
  · go_simp; with_reducible rfl
  · simp only [Act.put, List.setIfInBounds_toArray, List.set_cons_zero, List.set_cons_succ]; rfl
  refine wpK_q (v := ?_) (a' := ?_) (by rfl) (fun w' hR => ?_) ?_ ?_
  rotate_left 2
  · go_simp; with_reducible rfl
  · simp only [Act.put, List.setIfInBounds_toArray, List.set_cons_zero, List.set_cons_succ]; rfl
  refine wpK_q (v := ?_) (a' := ?_) (by rfl) (fun w' hR => ?_) ?_ ?_
  rotate_left 2
  · go_simp; with_reducible rfl
  · simp only [Act.put, List.setIfInBounds_toArray, List.set_cons_zero, List.set_cons_succ]; rfl
  refine wpK_q (v := ?_) (a' := ?_) (by rfl) (fun w' hR => ?_) ?_ ?_
  rotate_left 2
  · go_simp; with_reducible rfl
  · simp only [Act.put, List.setIfInBounds_toArray, List.set_cons_zero, List.set_cons_succ]; rfl
  refine wpK_v (v := .slice (some ⟨w6.heap.size, 0, none⟩) 2 2) (w' := w6.drew.alloc (.cells #[.int .u8 104, .int .u8 105] 5)) (by rfl) (by go_simp) (fun _ => ⟨Mod.alloc _⟩) (by simp only [Act.put, List.setIfInBounds_toArray, List.set_cons_zero, List.set_cons_succ]; rfl) ?_
  refine wpK_v (v := .slice (some ⟨w6.heap.size, 0, none⟩) 2 2) (w' := w6.drew.alloc (.cells #[.int .u8 104, .int .u8 105] 5 (2, 3))) (by rfl) (by have hh := val_of (k23 w6.drew #[.int .u8 104, .int .u8 105] 2 2); exact hh) (fun _ => ⟨?_⟩) (by simp only [Act.put, List.setIfInBounds_toArray, List.set_cons_zero, List.set_cons_succ]; rfl) ?_
  · refine ⟨rfl, rfl, rfl, by simp, fun k hk ho => ?_⟩
    have h1 : w6.drew.heap.size = n0 := HN0.out.symm
    have h2 : (w6.drew.alloc (.cells #[.int .u8 104, .int .u8 105] 5)).heap.size = n0 + 1 := by simp [HN0.out]
    rw [Below.heap_alloc _ _ _ (by omega), Below.heap_alloc _ _ _ (by omega)]
  have hS := Sees.lit w6.drew Wk4.hi2 (2, 3) (by decide)
  have hb7 : Below w6.heap.size w6 (w6.drew.alloc (.cells #[.int .u8 104, .int .u8 105] 5 (2, 3))) := Ext.trans _ _ _ (Ext.drew w6) ((Below.refl _ _).alloc (Nat.le_refl _) _)
  have HS7 : Hid (Sees (w6.drew.alloc (.cells #[.int .u8 104, .int .u8 105] 5 (2, 3))) (.slice (some ⟨w6.heap.size, 0, none⟩) 2 2) Wk4.hi2) := hid hS
  have HB7 := hid hb7
  have hz7 : (w6.drew.alloc (.cells #[.int .u8 104, .int .u8 105] 5 (2, 3))).heap.size = n0 + 1 := by simp [HN0.out]
  generalize w6.drew.alloc (.cells #[.int .u8 104, .int .u8 105] 5 (2, 3)) = w7 at *
  clear hS hb7
  refine wpK_call Try.func95 (by kernel_rfl) rfl rfl (by rfl) #[B 1, I 0, .slice (some ⟨w6.heap.size, 0, none⟩) 2 2] (by simp only [List.map_toArray, List.map_cons, List.map_nil]; rfl) ?_
  refine (rframe_of w7 1 0 (by omega) _ Wk4.hi2 HS7.out (by decide)).mono ?_
  rintro e w8 ⟨v8, rfl, ho8, hb8⟩
  refine ⟨_, rfl, fun _ => ⟨Mod.of_below _ hb8⟩, ?_⟩
  have hs8 := own_sees ho8
  have hl8 := fun k hk => own_lt ho8 k hk
  rw [← Wk4.frame1] at hs8
  have k2 : ∀ w', AllBut n0 w8 w' → (convert 23 9 v8).run Try.prog w' = .ok (.string (str (Wk4.P1.take 14))) w' := fun w' hh => run_str Try.underlying23 Try.underlying5 Try.underlying9 (hh.sees hs8 (fun k hk => by have := hl8 k hk; exact ⟨this.2, by omega⟩))
  have HB8 := hid hb8
  clear ho8 hb8 hs8 hl8 k1 hz7
  refine wpK_q (v := ?_) (a' := ?_) (by rfl) (fun w' hR => ?_) ?_ ?_
  rotate_left 2
  · go_simp; with_reducible rfl
  · simp only [Act.put, List.setIfInBounds_toArray, List.set_cons_zero, List.set_cons_succ]; rfl
  refine wpK_q (v := ?_) (a' := ?_) (by rfl) (fun w' hR => ?_) ?_ ?_
  rotate_left 2
  · go_simp; with_reducible rfl
  · simp only [Act.put, List.setIfInBounds_toArray, List.set_cons_zero, List.set_cons_succ]; rfl
  refine wpK_q (v := ?_) (a' := ?_) (by rfl) (fun w' hR => ?_) ?_ ?_
  rotate_left 2
  · go_simp; with_reducible rfl
  · simp only [Act.put, List.setIfInBounds_toArray, List.set_cons_zero, List.set_cons_succ]; rfl
  refine wpK_q (v := ?_) (a' := ?_) (by rfl) (fun w' hR => ?_) ?_ ?_
  rotate_left 2
  · go_simp; with_reducible rfl
  · simp only [Act.put, List.setIfInBounds_toArray, List.set_cons_zero, List.set_cons_succ]; rfl
  refine wpK_done ?_
  clear k2
  go_wp2
  go_ret
  exact ⟨rfl, HB6.out.trans ((Ext.trans _ _ _ HB7.out HB8.out).mono HB6.out.size)⟩
end Go.Proofs.Ytoaeapnkefjpaaa
