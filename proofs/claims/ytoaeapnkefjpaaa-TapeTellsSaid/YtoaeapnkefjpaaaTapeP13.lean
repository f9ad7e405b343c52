/-
  THE PROGRAM'S TAPE, thirteenth file: lay without power; the door of do. Conditions: those that each contract names.
-/
import Derived.Test.YtoaeapnkefjpaaaTapeP12
import Derived.Test.YtoaeapnkefjpaaaTapeP7
import Derived.Test.YtoaeapnkefjpaaaTapeS2
namespace Go.Proofs.Ytoaeapnkefjpaaa
open Go.RowKit
set_option linter.unusedVariables false
set_option linter.unusedSimpArgs false

theorem TS.padded_len (D : DS) (T : TS) (a : Nat) (b : List UInt8) : (TS.padded D T a b).length % 256 = 0 := by
  unfold TS.padded
  simp only [List.length_append, List.length_replicate]
  omega
theorem TS.laid_off {D : DS} {T : TS} {a : Nat} {b : List UInt8} (hb : 0 < b.length) (ho : D.off = true) (ha : T.lo + a / 256 < D.safe.length) : TS.laid D T a b = (20, D) := by
  unfold TS.laid
  have hm := TS.padded_len D T a b
  have hp : 0 < (TS.padded D T a b).length := by
    unfold TS.padded
    simp only [List.length_append]
    omega
  obtain ⟨k, hk⟩ : ∃ k, (TS.padded D T a b).length / 256 = k + 1 := ⟨(TS.padded D T a b).length / 256 - 1, by omega⟩
  rw [hk]
  unfold TS.pagesOf
  rw [List.range_succ_eq_map, List.map_cons, TS.wr]
  have hl : (((TS.padded D T a b).drop (256 * 0)).take 256).length = 256 := by rw [List.length_take, List.length_drop]; omega
  have hw : D.write ((T.lo + a / 256 : Nat) : Int) (((TS.padded D T a b).drop (256 * 0)).take 256) = (20, D) := by
    unfold DS.write DS.bad
    have h1 : ¬ (((T.lo + a / 256 : Nat) : Int) < 0) := by omega
    have h2 : ¬ ((D.safe.length : Int) ≤ ((T.lo + a / 256 : Nat) : Int)) := by omega
    simp only [hl, h1, h2, ho]
    simp
  rw [hw]
  rfl
set_option maxRecDepth 100000 in
theorem tlay_down (w : World) (t p : Nat) (own : Nat → Prop) (T : TS) (D : DS) (a : Nat) (v : Value) (h : TapeIn w t p D.safe.length T) (hd : DrumAt w p own D) (ha : a < T.size) (ho : D.off = true) (h0 : 0 < a % 256) :
    Calls Try.prog 111 #[.pointer (some ⟨t, 0, none⟩), I a, v] w fun e w' => e = .panicked (gaveUp 20) ∧ Below w.heap.size w w' := by
  obtain ⟨b1, b2, b3, b4, b5, b6, b7⟩ := h.bd
  have H := hid h
  have HD := hid hd
  have HO := hid ho
  have ha2 : a ≤ 1048576 := by omega
  clear h hd ho b7
  go_enter Try.func111, Try.ntmps111
  go_wp2_with fail
  obtain ⟨wA, hwA⟩ : ∃ wA, wA = (w.alloc (.cells #[.pointer (some ⟨t, 0, none⟩)] 86)).alloc (.cells #[.int .i64 ((a : Int) / 256)] 3) := ⟨_, rfl⟩
  rw [← hwA]
  have hBA : Below w.heap.size w wA := by rw [hwA]; exact ((Below.refl _ _).alloc (Nat.le_refl _) _).alloc (by simp) _
  have hbd := bytes_down wA t p own T D (H.out.below hBA) (HD.out.below hBA) HO.out (a / 256 * 256) (a % 256) (by omega) h0 (by omega)
  have q1 : ((a / 256 * 256 : Nat) : Int) = (a : Int) / 256 * 256 := by omega
  have q2 : ((a % 256 : Nat) : Int) = (a : Int) % 256 := by omega
  rw [q1, q2] at hbd
  have HBA := hid hBA
  clear q1 q2 hwA hBA
  refine hbd.mono ?_
  rintro e w1 ⟨rfl, hb⟩
  exact ⟨rfl, rfl, HBA.out.trans (hb.mono HBA.out.size)⟩
theorem tlay_all (w : World) (t p : Nat) (own : Nat → Prop) (T : TS) (D : DS) (a : Nat) (v : Value) (b : List UInt8) (h : TapeIn w t p D.safe.length T) (hd : DrumAt w p own D) (ht : ¬ own t) (ha : a < T.size) (hv : Sees w v b) (hvo : ∀ k, v.ownBlock = some k → ¬ own k) (hb0 : 0 < b.length) (hb1 : b.length ≤ 66000) (hN : D.waits.length ≤ 900000000) :
    Calls Try.prog 111 #[.pointer (some ⟨t, 0, none⟩), I a, v] w fun e w' => e = endOr (TS.layR D T a b).1 (.tuple #[]) ∧ Drummed' own p w (TS.layR D T a b).2 w' := by
  cases ho : D.off with
  | false =>
    have := tlay_any w t p own T D a v b h hd ht (Nat.le_of_lt ha) (.inl ho) hv hvo hb0 hb1 hN
    unfold TS.layR
    rw [if_neg (by simp [ho])]
    exact this
  | true =>
    have e : TS.layR D T a b = (20, D) := by unfold TS.layR; rw [if_pos ho]
    rw [e]
    by_cases h0 : a % 256 = 0
    · have := tlay_any w t p own T D a v b h hd ht (Nat.le_of_lt ha) (.inr h0) hv hvo hb0 hb1 hN
      obtain ⟨b1, b2, b3, b4, b5, b6, b7⟩ := h.bd
      have hsz : T.size = (T.hi - T.lo) * 256 := rfl
      rw [TS.laid_off hb0 ho (by omega)] at this
      exact this
    · refine (tlay_down w t p own T D a v h hd ha ho (by omega)).mono ?_
      rintro e w' ⟨rfl, hb⟩
      exact ⟨rfl, own, hd.below hb, fun _ hk => .inl hk, Mod.of_below own hb⟩
/-! ### the door -/
set_option maxRecDepth 100000 in
set_option maxHeartbeats 1600000 in
theorem catch2_idle (p1 p2 : Addr) (w : World) :
    CallsD Try.prog 110 #[.pointer (some p1), .pointer (some p2)] .returning w fun e u' w' => e = .returned (.tuple #[]) ∧ u' = .returning ∧ w' = w := by
  refine callsD_of_wpS Try.func110 rfl fun c₀ cs hu => ?_
  apply wpS_seq
  apply wpS_region
  simp [wpOpsS, go_sem, recoverD, hu, Try.ntmps110, Exit.thenS]
  refine wpS_of_wp ?_
  go_wp2
  cases c₀
  simp_all [bodyPostS, results, Try.results110]
set_option maxRecDepth 100000 in
set_option maxHeartbeats 800000 in
theorem catch2_gave (b1 b2 t p n : Nat) (c1 : Array Value) (t1 : TypeId) (T : TS) (c : Int) (w : World) (h1 : w.heap[b1]? = some (.cells c1 t1 (0, 0))) (h2 : w.heap[b2]? = some (.cells #[.pointer (some ⟨t, 0, none⟩)] 86 (0, 0))) (h3 : TapeIn w t p n T)
    (s1 : c1.size = 1) (n12 : b1 ≠ b2) (n1t : b1 ≠ t) (n2t : b2 ≠ t) (hc : -9223372036854775808 ≤ c ∧ c ≤ 9223372036854775807) :
    CallsD Try.prog 110 #[.pointer (some ⟨b1, 0, none⟩), .pointer (some ⟨b2, 0, none⟩)] (.panicking (gaveUp c)) w fun e u' w' =>
      e = .returned (.tuple #[]) ∧ u' = .panicking [{ v := .iface 130 (.agg #[I c]), recovered := true }] ∧
      (w'.heap[b1]? = some (.cells #[I c] t1 (0, 0)) ∧ TapeIn w' t p n { T with sick := c }) ∧ Mod (fun k => k = b1 ∨ k = t) w w' := by
  have hta := gave_is c
  refine callsD_of_wpS Try.func110 rfl fun c₀ cs hu => ?_
  apply wpS_seq
  apply wpS_region
  unfold gaveUp at hu
  simp [wpOpsS, go_sem, recoverD, hu, Try.ntmps110, Exit.thenS]
  refine wpS_of_wp ?_
  simp only [Array.replicate_succ, Array.replicate_zero, List.push_toArray, List.append_toArray, List.nil_append, List.cons_append, List.setIfInBounds_toArray, List.set_cons_zero, List.set_cons_succ]
  go_wp2
  obtain ⟨wa, hwa⟩ : ∃ wa, wa = w.alloc (.cells #[.int .i64 c] 130) := ⟨_, rfl⟩
  obtain ⟨b4, hb4⟩ : ∃ b4, b4 = w.heap.size := ⟨_, rfl⟩
  rw [← hwa, ← hb4]
  have l1 := (Array.getElem?_eq_some_iff.1 h1).1
  have l2 := (Array.getElem?_eq_some_iff.1 h2).1
  have l3 := h3.lt
  have g1 : wa.heap[b1]? = some (.cells c1 t1 (0, 0)) := by rw [hwa]; exact (Below.heap_alloc w _ _ l1).trans h1
  have g2 : wa.heap[b2]? = some (.cells #[.pointer (some ⟨t, 0, none⟩)] 86 (0, 0)) := by rw [hwa]; exact (Below.heap_alloc w _ _ l2).trans h2
  have g3 : TapeIn wa t p n T := by rw [hwa]; exact h3.keep (Below.heap_alloc w _ _ l3)
  have g4 : wa.heap[b4]? = some (.cells #[.int .i64 c] 130 (0, 0)) := by rw [hwa, hb4]; exact heap_alloc_new _ _
  have hm : Mod (fun k => k = b1 ∨ k = t) w wa := by rw [hwa]; exact Mod.alloc _
  have n14 : b4 ≠ b1 := by omega
  have n24 : b4 ≠ b2 := by omega
  have n34 : b4 ≠ t := by omega
  obtain ⟨v1, hv1⟩ := cell_one g1 s1
  have k4 : ∀ w', KeepTwo b4 b2 wa.drew w' → w'.cell? ⟨b4, 0, none⟩ = some (I c) := fun w' hh => by rw [cell_of_row w' b4 _ _ _ _ (hh.1.trans g4)]; rfl
  have k2 : ∀ w', KeepTwo b4 b2 wa.drew w' → w'.cell? ⟨b2, 0, none⟩ = some (.pointer (some ⟨t, 0, none⟩)) := fun w' hh => by rw [cell_of_row w' b2 _ _ _ _ (hh.2.trans g2)]; rfl
  have G1 := hid g1
  have G2 := hid g2
  have G3 := hid g3
  have HM := hid hm
  have HU := hid hu
  clear hwa hb4 h1 h2 h3 l1 l2 l3 hta g1 g2 g3 g4 hm hu
  refine wp_region_order (KeepTwo b4 b2) [] [(0,0),(1,0),(2,0),(3,0),(4,0),(5,1),(6,0),(7,0),(8,1)] _ (by kernel_rfl) rfl KeepTwo.refl KeepTwo.trans (by kernel_rfl) (by simp only [pick, List.getElem?_toArray, List.getElem?_cons_zero, List.getElem?_cons_succ]; rfl) (fun c a d v w h => by cases d <;> exact h) ?_
  refine wpK_q (v := ?_) (a' := ?_) (by rfl) (fun w' hR => ?_) ?_ ?_
  rotate_left 2
  · go_simp; with_reducible rfl
  · simp only [Act.put, List.setIfInBounds_toArray, List.set_cons_zero, List.set_cons_succ]; rfl
  refine wpK_q (v := ?_) (a' := ?_) (by rfl) (fun w' hR => ?_) ?_ ?_
  rotate_left 2
  · go_simp; with_reducible rfl
  · simp only [Act.put, List.setIfInBounds_toArray, List.set_cons_zero, List.set_cons_succ]; rfl
  refine wpK_q (v := ?_) (a' := ?_) (by rfl) (fun w' hR => ?_) ?_ ?_
  rotate_left 2
  · go_simp; with_reducible rfl
  · simp only [Act.put, List.setIfInBounds_toArray, List.set_cons_zero, List.set_cons_succ]; rfl
  refine wpK_q (v := ?_) (a' := ?_) (by rfl) (fun w' hR => ?_) ?_ ?_
  rotate_left 2
  · go_simp; with_reducible rfl
  · simp only [Act.put, List.setIfInBounds_toArray, List.set_cons_zero, List.set_cons_succ]; rfl
  refine wpK_q (v := ?_) (a' := ?_) (by rfl) (fun w' hR => ?_) ?_ ?_
  rotate_left 2
  · go_simp; with_reducible rfl
  · simp only [Act.put, List.setIfInBounds_toArray, List.set_cons_zero, List.set_cons_succ]; rfl
  refine wpK_s (by rfl) rfl (exec_store rfl (vx := .pointer (some ⟨b1, 0, none⟩)) (vy := I c) rfl rfl (run_store1 (u := v1) (by kernel_rfl) rfl rfl hv1 (frozen_row G1.out 0))) (fun _ => ⟨heap_setCell_other wa.drew ⟨b1, 0, none⟩ b4 _ n14, heap_setCell_other wa.drew ⟨b1, 0, none⟩ b2 _ (Ne.symm n12)⟩) ?_
  refine wpK_q (v := ?_) (a' := ?_) (by rfl) (fun w' hR => ?_) ?_ ?_
  rotate_left 2
  · go_simp; with_reducible rfl
  · simp only [Act.put, List.setIfInBounds_toArray, List.set_cons_zero, List.set_cons_succ]; rfl
  refine wpK_q (v := ?_) (a' := ?_) (by rfl) (fun w' hR => ?_) ?_ ?_
  rotate_left 2
  · go_simp; with_reducible rfl
  · simp only [Act.put, List.setIfInBounds_toArray, List.set_cons_zero, List.set_cons_succ]; rfl
  obtain ⟨wx, hwx⟩ : ∃ wx, wx = wa.drew.setCell ⟨b1, 0, none⟩ (I c) := ⟨_, rfl⟩
  have x1 : wx.heap[b1]? = some (.cells #[I c] t1 (0, 0)) := by rw [hwx]; exact set_one (show wa.drew.heap[b1]? = _ from G1.out) s1 (I c)
  have xo : ∀ k, k ≠ b1 → wx.heap[k]? = wa.heap[k]? := fun k hk => by rw [hwx]; exact heap_setCell_other wa.drew ⟨b1, 0, none⟩ k _ hk
  have x3 : TapeIn wx t p n T := G3.out.keep (xo t (Ne.symm n1t))
  have xm : Mod (fun k => k = b1 ∨ k = t) w wx := by rw [hwx]; exact ((HM.out.trans (Mod.drew wa)).trans (Mod.set (.inl rfl)))
  rw [← hwx]
  have X1 := hid x1
  have X3 := hid x3
  have XM := hid xm
  refine wpK_s (by rfl) rfl (exec_store rfl (vx := .pointer (some ⟨t, 5, none⟩)) (vy := I c) rfl rfl (run_store1 (u := I T.sick) (by kernel_rfl) rfl rfl x3.c5 (x3.fr 5))) (fun _ => ⟨heap_setCell_other wx ⟨t, 5, none⟩ b4 _ n34, heap_setCell_other wx ⟨t, 5, none⟩ b2 _ n2t⟩) ?_
  have y1 : (wx.setCell ⟨t, 5, none⟩ (I c)).heap[b1]? = some (.cells #[I c] t1 (0, 0)) := (heap_setCell_other wx ⟨t, 5, none⟩ b1 _ n1t).trans X1.out
  have y3 : TapeIn (wx.setCell ⟨t, 5, none⟩ (I c)) t p n { T with sick := c } := by
    refine ⟨⟨x3.ok.lt, x3.ok.le, x3.ok.pos, x3.ok.count, hc⟩, x3.n2, ?_⟩
    rw [heap_setCell_same wx t 5 _ _ _ x3.ht]
    rfl
  have ym : Mod (fun k => k = b1 ∨ k = t) w (wx.setCell ⟨t, 5, none⟩ (I c)) := xm.trans (Mod.set (.inr rfl))
  refine wpK_done ?_
  generalize wx.setCell ⟨t, 5, none⟩ (I c) = w9 at *
  have hu := HU.out
  clear HU k4 k2 G1 G2 G3 HM X1 X3 XM x1 xo x3 xm hv1 hwx
  simp only [Exit.inBlock]
  refine (show bodyPostS _ _ _ _ _ _ _ _ _ from ?_)
  simp [bodyPostS, results, Try.results110, y1, y3, ym]
/-- Out through the door, nothing given up. -/
theorem door2_ret {b1 b2 : Nat} {tmps : Array Value} {w : World} {R : Ending → World → Prop} {u1 : Value} (h4 : tmps[4]?.getD undef = .pointer (some ⟨b1, 0, none⟩))
    (c1 : w.cell? ⟨b1, 0, none⟩ = some u1) (h : R (.returned u1) w) :
    bodyPostD Try.prog Try.f99 R Exit.ret { tmps := tmps, defers := [{ target := .fn (.func 110) #[.pointer (some ⟨b1, 0, none⟩), .pointer (some ⟨b2, 0, none⟩)], args := #[] }] } w := by
  refine leaves_cons (f := 110) (args := #[.pointer (some ⟨b1, 0, none⟩), .pointer (some ⟨b2, 0, none⟩)]) (by simp) (by simp [go_sem]) ?_
  refine (catch2_idle _ _ _).mono ?_
  rintro e u' w'' ⟨rfl, rfl, rfl⟩
  simp [Leaves, settle, results, Try.results99, go_sem, h4, c1, h]
/-- Out through the door, something given up: the tape is sick of it. -/
theorem door2_gave {b1 b2 t p n : Nat} {T : TS} {tmps : Array Value} {w : World} {R : Ending → World → Prop} {c : Int} {v1 : Array Value} (h4 : tmps[4]?.getD undef = .pointer (some ⟨b1, 0, none⟩))
    (g1 : w.heap[b1]? = some (.cells v1 46 (0, 0))) (g2 : w.heap[b2]? = some (.cells #[.pointer (some ⟨t, 0, none⟩)] 86 (0, 0))) (g3 : TapeIn w t p n T) (s1 : v1.size = 1) (n12 : b1 ≠ b2) (n1t : b1 ≠ t) (n2t : b2 ≠ t) (hc : -9223372036854775808 ≤ c ∧ c ≤ 9223372036854775807)
    (h : ∀ w', TapeIn w' t p n { T with sick := c } → Mod (fun k => k = b1 ∨ k = t) w w' → R (.returned (I c)) w') :
    bodyPostD Try.prog Try.f99 R (Exit.panic (gaveUp c)) { tmps := tmps, defers := [{ target := .fn (.func 110) #[.pointer (some ⟨b1, 0, none⟩), .pointer (some ⟨b2, 0, none⟩)], args := #[] }] } w := by
  refine leaves_cons (f := 110) (args := #[.pointer (some ⟨b1, 0, none⟩), .pointer (some ⟨b2, 0, none⟩)]) (by simp) (by simp [go_sem]) ?_
  refine (catch2_gave b1 b2 t p n v1 46 T c w g1 g2 g3 s1 n12 n1t n2t hc).mono ?_
  rintro e u' w'' ⟨rfl, rfl, ⟨r1, r2⟩, hm⟩
  have c1 : w''.cell? ⟨b1, 0, none⟩ = some (I c) := by rw [cell_of_row w'' b1 _ _ _ _ r1]; rfl
  have hh := h w'' r2 hm
  simp [Leaves, settle, results, Try.results99, go_sem, h4, c1, hh]
theorem res99 (d : Tmp) (v : Value) (tmps : Array Value) (hd : d ∉ [4]) : results Try.f99 (tmps.setIfInBounds d v) = results Try.f99 tmps := by
  have h : ¬ d = 4 := by simpa using hd
  simp [results, Try.results99, Array.getElem?_setIfInBounds_ne h]
end Go.Proofs.Ytoaeapnkefjpaaa
