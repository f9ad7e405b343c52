/-
  THE PROGRAM'S TAPE, third file: next. Conditions: those that each contract names.
-/
import Derived.Test.YtoaeapnkefjpaaaTapeP2
namespace Go.Proofs.Ytoaeapnkefjpaaa
open Go.RowKit
set_option linter.unusedVariables false
set_option linter.unusedSimpArgs false

/-- A call that panics. -/
theorem wpK_callp {P : Program} {ops : Array Oper} {Q : Exit → Act → World → Prop} {R : World → World → Prop} {o : Oper} {rest : List (Oper × Nat)} {a : Act} {w : World} {k : Nat} {f : FuncId} {fn : Func} (hf : P.funcs[f]? = some fn) (hname : (fn.name == "runtime.NumGoroutine") = false) (hb : fn.body.isSome = true) {xs : Array Operand} {ts : Array TypeId} (hop : o.op = .call { callee := .value (.func f), args := xs, argTypes := ts })
    (hw : Region.wanted o (yielded ops a.tmps) = true) (args : Array Value) (hargs : xs.map a.eval = args)
    (h : Calls P f args w fun e w' => ∃ chain, e = .panicked chain ∧ Q (.panic chain) a w') : wpK P ops Q R ((o, k + 1) :: rest) a w := by
  unfold wpK
  rw [if_pos hw]
  have he := enters hf hname hb args w
  have hrun : (execOp a.eval o).run P w = .ok (.enter f args) w := by
    unfold execOp
    simp [hop, resolve, Deferred.ofValue, invoke, Act.eval, hargs, he]
  unfold Oper.wp
  rw [hrun, Oper.upon_enter]
  refine h.mono fun e w'' hh => ?_
  obtain ⟨chain, rfl, hk⟩ := hh
  exact hk
theorem getD_drop_take (S : List UInt8) (a : Nat) (h : a + 12 ≤ S.length) : ((S.drop a).take 12)[0]? = some (S.getD a 0) := by
  rw [List.getElem?_take, if_pos (by omega), List.getElem?_drop, Nat.add_zero, List.getElem?_eq_getElem (by omega), List.getD_eq_getElem?_getD, List.getElem?_eq_getElem (by omega)]
  rfl
theorem below_drewN (w : World) (n : Nat) : Below w.heap.size w (w.drewN n) := ⟨rfl, rfl, rfl, Nat.le_refl _, fun _ _ => rfl⟩
/-- What 'next' comes to. -/
def Nexted (w : World) (t p n : Nat) (T : TS) (F : TS.Found) (e : Ending) (w' : World) : Prop :=
  match F with
  | .no => e = .returned (.tuple #[.slice none 0 0, .bool false]) ∧ Below w.heap.size w w'
  | .bad c => e = .panicked (gaveUp c) ∧ Below w.heap.size w w'
  | .yes r => ∃ v, e = .returned (.tuple #[v, .bool true]) ∧ w'.ownsRow w.heap.size 5 1 v r.length (r.map B) ∧ TapeIn w' t p n { T with pos := T.pos + 12 + r.length, count := T.count + 1 } ∧ Mod (fun k => k = t) w w'
set_option maxRecDepth 100000 in
set_option maxHeartbeats 1600000 in
theorem next_any (w : World) (t p : Nat) (own : Nat → Prop) (T : TS) (D : DS) (h : TapeIn w t p D.safe.length T) (hd : DrumAt w p own D) (ho : D.off = false) :
    Calls Try.prog 97 #[.pointer (some ⟨t, 0, none⟩)] w (Nexted w t p D.safe.length T (TS.found (TS.bytes D T) T.pos T.count)) := by
  obtain ⟨b1, b2, b3, b4, b5, b6, b7⟩ := h.bd
  have h0t := h.lt
  have H := hid h
  have HD := hid hd
  have HO := hid ho
  have hlen : (TS.bytes D T).length = T.size := TS.stretch_len hd.ok (by omega)
  have HL := hid hlen
  have c3 := h.c3
  have hs1 : IntKind.i64.wrap ((T.size : Int) - (T.pos : Int)) = (T.size : Int) - (T.pos : Int) := IntWalk.i64_in _ (by omega)
  clear h hd ho b7 hlen
  obtain ⟨F, hF⟩ : ∃ F, F = TS.found (TS.bytes D T) T.pos T.count := ⟨_, rfl⟩
  rw [← hF]
  have HF := hid hF
  clear hF
  by_cases hA : T.size < T.pos + 12
  · have HN : Hid (F = .no) := hid (by
      rw [HF.out]
      unfold TS.found
      rw [if_pos (by rw [HL.out]; exact hA)])
    have hA' : decide ((T.size : Int) - (T.pos : Int) < 12) = true := decide_eq_true (by omega)
    go_enter Try.func97, Try.ntmps97
    go_wp2
    go_quiet ((go_at_call 98; exact Calls.quiet_of (size_any _ t p _ T (H.out.keep rfl))))
    go_wp2
    go_ret2
    rw [HN.out]
    exact ⟨rfl, below_drewN _ _⟩
  have hA' : decide ((T.size : Int) - (T.pos : Int) < 12) = false := decide_eq_false (by omega)
  have h0 := getD_drop_take (TS.bytes D T) T.pos (by rw [HL.out]; omega)
  obtain ⟨c, hc⟩ : ∃ c, c = (TS.bytes D T).getD T.pos 0 := ⟨_, rfl⟩
  rw [← hc] at h0
  have H0 := hid h0
  have HC := hid hc
  clear h0 hc
  go_enter Try.func97, Try.ntmps97
  go_wp2
  go_quiet ((go_at_call 98; exact Calls.quiet_of (size_any _ t p _ T (H.out.keep rfl))))
  clear hs1
  have HW : Hid (TapeIn (w.drewN nq) t p D.safe.length T) := hid (H.out.keep rfl)
  have HDW : Hid (DrumAt (w.drewN nq) p own D) := hid (HD.out.below ⟨rfl, rfl, rfl, Nat.le_refl _, fun _ _ => rfl⟩)
  have hb12 := bytes_on (w.drewN nq) t p own T D HW.out HDW.out HO.out T.pos 12 (by omega)
  have c3' : (w.drewN nq).cell? ⟨t, 3, none⟩ = some (I T.pos) := c3
  have HBEL := hid (below_drewN w nq)
  have HZZ := hid (show (w.drewN nq).heap.size = w.heap.size from rfl)
  generalize w.drewN nq = w1 at *
  have HB12 := hid hb12
  clear hb12 c3 H HD
  by_cases hB : c = 0
  · have HN : Hid (F = .no) := hid (by
      rw [HF.out]
      unfold TS.found
      rw [if_neg (by rw [HL.out]; exact hA), if_pos (by rw [← HC.out]; exact hB)])
    have hc0 : ((c.toNat : Int) == 0) = true := by rw [hB]; rfl
    have H0' := H0
    clear HC H0
    go_wp2_with (go_at_call 106; refine HB12.out.mono ?_; rintro e w5 ⟨v, rfl, ho5, hb5⟩; have hl12 : (List.take 12 (List.drop T.pos (TS.bytes D T))).length = 12 := (by rw [List.length_take, List.length_drop, HL.out]; omega); rw [hl12] at ho5; obtain ⟨g, cap, rfl, g1, g2, g3, g4⟩ := own_slice ho5 (by omega); have hcell := own_cell ho5 (i := 0) (u := B c) (by rw [List.getElem?_map, H0'.out]; rfl); have HB5 := hid hb5; clear ho5 hb5 hl12)
    go_ret2
    rw [HN.out]
    exact ⟨rfl, HBEL.out.trans (HB5.out.mono (by rw [HZZ.out]; exact Nat.le_refl _))⟩
  have hc0 : ((c.toNat : Int) == 0) = false := by
    rw [beq_eq_false_iff_ne]
    intro e
    apply hB
    have : c.toNat = 0 := by omega
    exact UInt8.toNat_inj.1 this
  have hk1 : T.pos + 12 ≤ T.size := by omega
  obtain ⟨n0, hn0⟩ : ∃ n0, n0 = TS.lenAt (TS.bytes D T) T.pos := ⟨_, rfl⟩
  have hn0b : n0 < 16777216 := by rw [hn0]; exact TS.lenAt_lt _ _
  have HN0 := hid hn0
  clear hn0
  go_wp2_with (first | (go_at_call 106; refine HB12.out.mono ?_; rintro e w5 ⟨v, rfl, ho5, hb5⟩; have hl12 : (List.take 12 (List.drop T.pos (TS.bytes D T))).length = 12 := (by rw [List.length_take, List.length_drop, HL.out]; omega); rw [hl12] at ho5; obtain ⟨g, cap, rfl, g1, g2, g3, g4⟩ := own_slice ho5 (by omega); unfold maxLen at g2; have hcell := own_cell ho5 (i := 0) (u := B c) (by rw [List.getElem?_map, H0.out]; rfl); have HB5 := hid hb5; have HS5 := hid (own_sees' ho5 hl12); have S4 := HS5.out.sl (lo := 1) (hi := 4) (by omega) (by omega); have hs4 : sl (some ⟨g, 0, none⟩) cap 1 4 = .slice (some ⟨g, 1, none⟩) 3 (cap - 1) := (by unfold sl; rw [if_neg (by omega)]; rfl); rw [hs4] at S4; have HS4 := hid S4; clear ho5 hb5 hl12 hs4 S4 HB12))
  have hl3 : (((List.take 12 (List.drop T.pos (TS.bytes D T))).take 4).drop 1) = ((TS.bytes D T).drop (T.pos + 1)).take 3 := by
    rw [List.take_take, List.drop_take, List.drop_drop]
    rfl
  have hnum : Sum.num (((List.take 12 (List.drop T.pos (TS.bytes D T))).take 4).drop 1) = (n0 : Int) := by
    rw [hl3, HN0.out]
    unfold TS.lenAt
    have := (Sum.num_range ((TS.bytes D T).drop (T.pos + 1) |>.take 3)).1
    omega
  have hl3' : (((List.take 12 (List.drop T.pos (TS.bytes D T))).take 4).drop 1).length ≤ 6 := by
    rw [hl3]; have := List.length_take_le 3 ((TS.bytes D T).drop (T.pos + 1)); omega
  have hnn := number_any w5 _ _ HS4.out hl3'
  rw [hnum] at hnn
  refine hnn.mono ?_
  rintro e w6 ⟨rfl, rfl⟩
  clear hl3 hnum hl3' hnn
  have HWt := hid (HW.out.below HB5.out)
  have HDt := hid (HDW.out.below HB5.out)
  have k0 : ∀ w', Ext w5.drew w' → w'.cell? ⟨g, 0, none⟩ = some (B c) := fun w' hh => hh.cell hcell
  have k3 : ∀ w', Ext w5.drew w' → w'.cell? ⟨t, 3, none⟩ = some (I T.pos) := fun w' hh => hh.cell HWt.out.c3
  have hs1 : IntKind.i64.wrap ((T.size : Int) - (T.pos : Int)) = (T.size : Int) - (T.pos : Int) := IntWalk.i64_in _ (by omega)
  have hs2 : IntKind.i64.wrap ((T.size : Int) - (T.pos : Int) - 12) = (T.size : Int) - (T.pos : Int) - 12 := IntWalk.i64_in _ (by omega)
  have HBel : Hid (Below w.heap.size w w5) := hid (HBEL.out.trans (HB5.out.mono (by rw [HZZ.out]; exact Nat.le_refl _)))
  by_cases hC : c = 1
  rotate_left
  · have HN : Hid (F = .bad 11) := hid (by
      rw [HF.out]
      unfold TS.found
      rw [if_neg (by rw [HL.out]; exact hA), if_neg (by rw [← HC.out]; exact hB), if_neg (by rw [← HC.out]; exact fun hh => hC hh.1)])
    have hc1 : ((c.toNat : Int) == 1) = false := by
      rw [beq_eq_false_iff_ne]
      intro e
      apply hC
      have : c.toNat = 1 := by omega
      exact UInt8.toNat_inj.1 this
    clear hC hB hc0
    go_wp2
    refine wp_region_order Ext [] [(0,0),(1,0),(2,0),(3,0),(4,0),(5,0),(6,0),(7,0),(8,0),(9,0),(10,0),(12,0),(13,0),(14,0),(15,0),(11,1),(16,0),(17,0),(18,0),(19,0),(20,1)] _ (by kernel_rfl) rfl Ext.refl Ext.trans (by kernel_rfl) (by simp only [pick, List.getElem?_toArray, List.getElem?_cons_zero, List.getElem?_cons_succ]; rfl) (fun c a d v w h => by cases d <;> exact h) ?_
    refine wpK_q (v := ?_) (a' := ?_) (by rfl) (fun w' hR => ?_) ?_ ?_
    rotate_left 2
    · go_simp; with_reducible rfl
    · simp only [Act.put, List.setIfInBounds_toArray, List.set_cons_zero, List.set_cons_succ]; rfl
    refine wpK_q (v := ?_) (a' := ?_) (by rfl) (fun w' hR => ?_) ?_ ?_
    rotate_left 2
    · go_simp; with_reducible rfl
    · simp only [Act.put, List.setIfInBounds_toArray, List.set_cons_zero, List.set_cons_succ]; rfl
    refine wpK_q (v := ?_) (a' := ?_) (by rfl) (fun w' hR => ?_) ?_ ?_
    rotate_left 2
    · go_simp; with_reducible rfl
    · simp only [Act.put, List.setIfInBounds_toArray, List.set_cons_zero, List.set_cons_succ]; rfl
    refine wpK_q (v := ?_) (a' := ?_) (by rfl) (fun w' hR => ?_) ?_ ?_
    rotate_left 2
    · go_simp; with_reducible rfl
    · simp only [Act.put, List.setIfInBounds_toArray, List.set_cons_zero, List.set_cons_succ]; rfl
    refine wpK_q (v := ?_) (a' := ?_) (by rfl) (fun w' hR => ?_) ?_ ?_
    rotate_left 2
    · go_simp; with_reducible rfl
    · simp only [Act.put, List.setIfInBounds_toArray, List.set_cons_zero, List.set_cons_succ]; rfl
    refine wpK_off (a' := ?_) (by rfl) ?_ ?_
    rotate_left
    · simp only [Act.put, List.setIfInBounds_toArray, List.set_cons_zero, List.set_cons_succ]; rfl
    refine wpK_off (a' := ?_) (by rfl) ?_ ?_
    rotate_left
    · simp only [Act.put, List.setIfInBounds_toArray, List.set_cons_zero, List.set_cons_succ]; rfl
    refine wpK_q (v := ?_) (a' := ?_) (by rfl) (fun w' hR => ?_) ?_ ?_
    rotate_left 2
    · go_simp; with_reducible rfl
    · simp only [Act.put, List.setIfInBounds_toArray, List.set_cons_zero, List.set_cons_succ]; rfl
    refine wpK_q (v := ?_) (a' := ?_) (by rfl) (fun w' hR => ?_) ?_ ?_
    rotate_left 2
    · go_simp; with_reducible rfl
    · simp only [Act.put, List.setIfInBounds_toArray, List.set_cons_zero, List.set_cons_succ]; rfl
    refine wpK_off (a' := ?_) (by rfl) ?_ ?_
    rotate_left
    · simp only [Act.put, List.setIfInBounds_toArray, List.set_cons_zero, List.set_cons_succ]; rfl
    refine wpK_off (a' := ?_) (by rfl) ?_ ?_
    rotate_left
    · simp only [Act.put, List.setIfInBounds_toArray, List.set_cons_zero, List.set_cons_succ]; rfl
    refine wpK_off (a' := ?_) (by rfl) ?_ ?_
    rotate_left
    · simp only [Act.put, List.setIfInBounds_toArray, List.set_cons_zero, List.set_cons_succ]; rfl
    refine wpK_off (a' := ?_) (by rfl) ?_ ?_
    rotate_left
    · simp only [Act.put, List.setIfInBounds_toArray, List.set_cons_zero, List.set_cons_succ]; rfl
    refine wpK_off (a' := ?_) (by rfl) ?_ ?_
    rotate_left
    · simp only [Act.put, List.setIfInBounds_toArray, List.set_cons_zero, List.set_cons_succ]; rfl
    refine wpK_off (a' := ?_) (by rfl) ?_ ?_
    rotate_left
    · simp only [Act.put, List.setIfInBounds_toArray, List.set_cons_zero, List.set_cons_succ]; rfl
    refine wpK_off (a' := ?_) (by rfl) ?_ ?_
    rotate_left
    · simp only [Act.put, List.setIfInBounds_toArray, List.set_cons_zero, List.set_cons_succ]; rfl
    refine wpK_off (a' := ?_) (by rfl) ?_ ?_
    rotate_left
    · simp only [Act.put, List.setIfInBounds_toArray, List.set_cons_zero, List.set_cons_succ]; rfl
    refine wpK_off (a' := ?_) (by rfl) ?_ ?_
    rotate_left
    · simp only [Act.put, List.setIfInBounds_toArray, List.set_cons_zero, List.set_cons_succ]; rfl
    refine wpK_off (a' := ?_) (by rfl) ?_ ?_
    rotate_left
    · simp only [Act.put, List.setIfInBounds_toArray, List.set_cons_zero, List.set_cons_succ]; rfl
    refine wpK_q (v := ?_) (a' := ?_) (by rfl) (fun w' hR => ?_) ?_ ?_
    rotate_left 2
    · go_simp; with_reducible rfl
    · simp only [Act.put, List.setIfInBounds_toArray, List.set_cons_zero, List.set_cons_succ]; rfl
    refine wpK_callp Try.func108 (by kernel_rfl) rfl rfl (by rfl) #[.bool false, I 11] (by simp only [List.map_toArray, List.map_cons, List.map_nil]; rfl) ?_
    refine (unless_no 11 _).mono ?_
    rintro e w7 ⟨rfl, rfl⟩
    refine ⟨_, rfl, ?_⟩
    refine And.intro rfl ?_
    rw [HN.out]
    exact ⟨rfl, Ext.trans _ _ _ HBel.out (Ext.drew w5)⟩
  have hc1 : ((c.toNat : Int) == 1) = true := by rw [hC]; rfl
  by_cases hE : 65536 < n0
  · have HN : Hid (F = .bad 11) := hid (by
      rw [HF.out]
      unfold TS.found
      rw [if_neg (by rw [HL.out]; exact hA), if_neg (by rw [← HC.out]; exact hB), if_neg (by rw [← HN0.out]; omega)])
    have hd1 : decide ((n0 : Int) ≤ 65536) = false := decide_eq_false (by omega)
    clear hC hB hc0
    go_wp2
    refine wp_region_order Ext [] [(0,0),(1,0),(2,0),(3,0),(4,0),(5,0),(6,0),(7,0),(8,0),(9,0),(10,0),(12,0),(13,0),(14,0),(15,0),(11,1),(16,0),(17,0),(18,0),(19,0),(20,1)] _ (by kernel_rfl) rfl Ext.refl Ext.trans (by kernel_rfl) (by simp only [pick, List.getElem?_toArray, List.getElem?_cons_zero, List.getElem?_cons_succ]; rfl) (fun c a d v w h => by cases d <;> exact h) ?_
    refine wpK_q (v := ?_) (a' := ?_) (by rfl) (fun w' hR => ?_) ?_ ?_
    rotate_left 2
    · go_simp; with_reducible rfl
    · simp only [Act.put, List.setIfInBounds_toArray, List.set_cons_zero, List.set_cons_succ]; rfl
    refine wpK_q (v := ?_) (a' := ?_) (by rfl) (fun w' hR => ?_) ?_ ?_
    rotate_left 2
    · go_simp; with_reducible rfl
    · simp only [Act.put, List.setIfInBounds_toArray, List.set_cons_zero, List.set_cons_succ]; rfl
    refine wpK_q (v := ?_) (a' := ?_) (by rfl) (fun w' hR => ?_) ?_ ?_
    rotate_left 2
    · go_simp; with_reducible rfl
    · simp only [Act.put, List.setIfInBounds_toArray, List.set_cons_zero, List.set_cons_succ]; rfl
    refine wpK_q (v := ?_) (a' := ?_) (by rfl) (fun w' hR => ?_) ?_ ?_
    rotate_left 2
    · go_simp; with_reducible rfl
    · simp only [Act.put, List.setIfInBounds_toArray, List.set_cons_zero, List.set_cons_succ]; rfl
    refine wpK_q (v := ?_) (a' := ?_) (by rfl) (fun w' hR => ?_) ?_ ?_
    rotate_left 2
    · go_simp; with_reducible rfl
    · simp only [Act.put, List.setIfInBounds_toArray, List.set_cons_zero, List.set_cons_succ]; rfl
    refine wpK_q (v := ?_) (a' := ?_) (by rfl) (fun w' hR => ?_) ?_ ?_
    rotate_left 2
    · go_simp; with_reducible rfl
    · simp only [Act.put, List.setIfInBounds_toArray, List.set_cons_zero, List.set_cons_succ]; rfl
    refine wpK_q (v := ?_) (a' := ?_) (by rfl) (fun w' hR => ?_) ?_ ?_
    rotate_left 2
    · go_simp; with_reducible rfl
    · simp only [Act.put, List.setIfInBounds_toArray, List.set_cons_zero, List.set_cons_succ]; rfl
    refine wpK_q (v := ?_) (a' := ?_) (by rfl) (fun w' hR => ?_) ?_ ?_
    rotate_left 2
    · go_simp; with_reducible rfl
    · simp only [Act.put, List.setIfInBounds_toArray, List.set_cons_zero, List.set_cons_succ]; rfl
    refine wpK_q (v := ?_) (a' := ?_) (by rfl) (fun w' hR => ?_) ?_ ?_
    rotate_left 2
    · go_simp; with_reducible rfl
    · simp only [Act.put, List.setIfInBounds_toArray, List.set_cons_zero, List.set_cons_succ]; rfl
    refine wpK_off (a' := ?_) (by rfl) ?_ ?_
    rotate_left
    · simp only [Act.put, List.setIfInBounds_toArray, List.set_cons_zero, List.set_cons_succ]; rfl
    refine wpK_off (a' := ?_) (by rfl) ?_ ?_
    rotate_left
    · simp only [Act.put, List.setIfInBounds_toArray, List.set_cons_zero, List.set_cons_succ]; rfl
    refine wpK_off (a' := ?_) (by rfl) ?_ ?_
    rotate_left
    · simp only [Act.put, List.setIfInBounds_toArray, List.set_cons_zero, List.set_cons_succ]; rfl
    refine wpK_off (a' := ?_) (by rfl) ?_ ?_
    rotate_left
    · simp only [Act.put, List.setIfInBounds_toArray, List.set_cons_zero, List.set_cons_succ]; rfl
    refine wpK_off (a' := ?_) (by rfl) ?_ ?_
    rotate_left
    · simp only [Act.put, List.setIfInBounds_toArray, List.set_cons_zero, List.set_cons_succ]; rfl
    refine wpK_off (a' := ?_) (by rfl) ?_ ?_
    rotate_left
    · simp only [Act.put, List.setIfInBounds_toArray, List.set_cons_zero, List.set_cons_succ]; rfl
    refine wpK_off (a' := ?_) (by rfl) ?_ ?_
    rotate_left
    · simp only [Act.put, List.setIfInBounds_toArray, List.set_cons_zero, List.set_cons_succ]; rfl
    refine wpK_off (a' := ?_) (by rfl) ?_ ?_
    rotate_left
    · simp only [Act.put, List.setIfInBounds_toArray, List.set_cons_zero, List.set_cons_succ]; rfl
    refine wpK_off (a' := ?_) (by rfl) ?_ ?_
    rotate_left
    · simp only [Act.put, List.setIfInBounds_toArray, List.set_cons_zero, List.set_cons_succ]; rfl
    refine wpK_off (a' := ?_) (by rfl) ?_ ?_
    rotate_left
    · simp only [Act.put, List.setIfInBounds_toArray, List.set_cons_zero, List.set_cons_succ]; rfl
    refine wpK_q (v := ?_) (a' := ?_) (by rfl) (fun w' hR => ?_) ?_ ?_
    rotate_left 2
    · go_simp; with_reducible rfl
    · simp only [Act.put, List.setIfInBounds_toArray, List.set_cons_zero, List.set_cons_succ]; rfl
    refine wpK_callp Try.func108 (by kernel_rfl) rfl rfl (by rfl) #[.bool false, I 11] (by simp only [List.map_toArray, List.map_cons, List.map_nil]; rfl) ?_
    refine (unless_no 11 _).mono ?_
    rintro e w7 ⟨rfl, rfl⟩
    refine ⟨_, rfl, ?_⟩
    refine And.intro rfl ?_
    rw [HN.out]
    exact ⟨rfl, Ext.trans _ _ _ HBel.out (Ext.drew w5)⟩
  have hd1 : decide ((n0 : Int) ≤ 65536) = true := decide_eq_true (by omega)
  by_cases hG : T.size < T.pos + 12 + n0
  · have HN : Hid (F = .bad 11) := hid (by
      rw [HF.out]
      unfold TS.found
      rw [if_neg (by rw [HL.out]; exact hA), if_neg (by rw [← HC.out]; exact hB), if_neg (by rw [← HN0.out, HL.out]; omega)])
    have hd2 : decide ((n0 : Int) ≤ (T.size : Int) - (T.pos : Int) - 12) = false := decide_eq_false (by omega)
    clear hC hB hc0
    go_wp2
    refine wp_region_order Ext [] [(0,0),(1,0),(2,0),(3,0),(4,0),(5,0),(6,0),(7,0),(8,0),(9,0),(10,0),(12,0),(13,0),(14,0),(15,0),(11,1),(16,0),(17,0),(18,0),(19,0),(20,1)] _ (by kernel_rfl) rfl Ext.refl Ext.trans (by kernel_rfl) (by simp only [pick, List.getElem?_toArray, List.getElem?_cons_zero, List.getElem?_cons_succ]; rfl) (fun c a d v w h => by cases d <;> exact h) ?_
    refine wpK_q (v := ?_) (a' := ?_) (by rfl) (fun w' hR => ?_) ?_ ?_
    rotate_left 2
    · go_simp; with_reducible rfl
    · simp only [Act.put, List.setIfInBounds_toArray, List.set_cons_zero, List.set_cons_succ]; rfl
    refine wpK_q (v := ?_) (a' := ?_) (by rfl) (fun w' hR => ?_) ?_ ?_
    rotate_left 2
    · go_simp; with_reducible rfl
    · simp only [Act.put, List.setIfInBounds_toArray, List.set_cons_zero, List.set_cons_succ]; rfl
    refine wpK_q (v := ?_) (a' := ?_) (by rfl) (fun w' hR => ?_) ?_ ?_
    rotate_left 2
    · go_simp; with_reducible rfl
    · simp only [Act.put, List.setIfInBounds_toArray, List.set_cons_zero, List.set_cons_succ]; rfl
    refine wpK_q (v := ?_) (a' := ?_) (by rfl) (fun w' hR => ?_) ?_ ?_
    rotate_left 2
    · go_simp; with_reducible rfl
    · simp only [Act.put, List.setIfInBounds_toArray, List.set_cons_zero, List.set_cons_succ]; rfl
    refine wpK_q (v := ?_) (a' := ?_) (by rfl) (fun w' hR => ?_) ?_ ?_
    rotate_left 2
    · go_simp; with_reducible rfl
    · simp only [Act.put, List.setIfInBounds_toArray, List.set_cons_zero, List.set_cons_succ]; rfl
    refine wpK_q (v := ?_) (a' := ?_) (by rfl) (fun w' hR => ?_) ?_ ?_
    rotate_left 2
    · go_simp; with_reducible rfl
    · simp only [Act.put, List.setIfInBounds_toArray, List.set_cons_zero, List.set_cons_succ]; rfl
    refine wpK_q (v := ?_) (a' := ?_) (by rfl) (fun w' hR => ?_) ?_ ?_
    rotate_left 2
    · go_simp; with_reducible rfl
    · simp only [Act.put, List.setIfInBounds_toArray, List.set_cons_zero, List.set_cons_succ]; rfl
    refine wpK_q (v := ?_) (a' := ?_) (by rfl) (fun w' hR => ?_) ?_ ?_
    rotate_left 2
    · go_simp; with_reducible rfl
    · simp only [Act.put, List.setIfInBounds_toArray, List.set_cons_zero, List.set_cons_succ]; rfl
    refine wpK_q (v := ?_) (a' := ?_) (by rfl) (fun w' hR => ?_) ?_ ?_
    rotate_left 2
    · go_simp; with_reducible rfl
    · simp only [Act.put, List.setIfInBounds_toArray, List.set_cons_zero, List.set_cons_succ]; rfl
    refine wpK_q (v := ?_) (a' := ?_) (by rfl) (fun w' hR => ?_) ?_ ?_
    rotate_left 2
    · go_simp; with_reducible rfl
    · simp only [Act.put, List.setIfInBounds_toArray, List.set_cons_zero, List.set_cons_succ]; rfl
    refine wpK_q (v := ?_) (a' := ?_) (by rfl) (fun w' hR => ?_) ?_ ?_
    rotate_left 2
    · go_simp; with_reducible rfl
    · simp only [Act.put, List.setIfInBounds_toArray, List.set_cons_zero, List.set_cons_succ]; rfl
    refine wpK_q (v := ?_) (a' := ?_) (by rfl) (fun w' hR => ?_) ?_ ?_
    rotate_left 2
    · go_simp; with_reducible rfl
    · simp only [Act.put, List.setIfInBounds_toArray, List.set_cons_zero, List.set_cons_succ]; rfl
    refine wpK_q (v := ?_) (a' := ?_) (by rfl) (fun w' hR => ?_) ?_ ?_
    rotate_left 2
    · go_simp; with_reducible rfl
    · simp only [Act.put, List.setIfInBounds_toArray, List.set_cons_zero, List.set_cons_succ]; rfl
    refine wpK_q (v := ?_) (a' := ?_) (by rfl) (fun w' hR => ?_) ?_ ?_
    rotate_left 2
    · go_simp; with_reducible rfl
    · simp only [Act.put, List.setIfInBounds_toArray, List.set_cons_zero, List.set_cons_succ]; rfl
    refine wpK_q (v := ?_) (a' := ?_) (by rfl) (fun w' hR => ?_) ?_ ?_
    rotate_left 2
    · go_simp; with_reducible rfl
    · simp only [Act.put, List.setIfInBounds_toArray, List.set_cons_zero, List.set_cons_succ]; rfl
    refine wpK_call Try.func98 (by kernel_rfl) rfl rfl (by rfl) #[.pointer (some ⟨t, 0, none⟩)] (by simp only [List.map_toArray, List.map_cons, List.map_nil]; rfl) ?_
    refine (size_any w5.drew t p _ T (HWt.out.keep rfl)).mono ?_
    rintro e w7 ⟨rfl, m7, rfl⟩
    refine ⟨_, rfl, fun _ => below_drewN _ _, ?_⟩
    refine wpK_q (v := ?_) (a' := ?_) (by rfl) (fun w' hR => ?_) ?_ ?_
    rotate_left 2
    · go_simp; with_reducible rfl
    · simp only [Act.put, List.setIfInBounds_toArray, List.set_cons_zero, List.set_cons_succ]; rfl
    refine wpK_q (v := ?_) (a' := ?_) (by rfl) (fun w' hR => ?_) ?_ ?_
    rotate_left 2
    · go_simp; with_reducible rfl
    · simp only [Act.put, List.setIfInBounds_toArray, List.set_cons_zero, List.set_cons_succ]; rfl
    refine wpK_q (v := ?_) (a' := ?_) (by rfl) (fun w' hR => ?_) ?_ ?_
    rotate_left 2
    · go_simp; with_reducible rfl
    · simp only [Act.put, List.setIfInBounds_toArray, List.set_cons_zero, List.set_cons_succ]; rfl
    refine wpK_q (v := ?_) (a' := ?_) (by rfl) (fun w' hR => ?_) ?_ ?_
    rotate_left 2
    · go_simp; with_reducible rfl
    · simp only [Act.put, List.setIfInBounds_toArray, List.set_cons_zero, List.set_cons_succ]; rfl
    refine wpK_callp Try.func108 (by kernel_rfl) rfl rfl (by rfl) #[.bool false, I 11] (by simp only [List.map_toArray, List.map_cons, List.map_nil]; rfl) ?_
    refine (unless_no 11 _).mono ?_
    rintro e w7 ⟨rfl, rfl⟩
    refine ⟨_, rfl, ?_⟩
    refine And.intro rfl ?_
    rw [HN.out]
    exact ⟨rfl, Ext.trans _ _ _ HBel.out (Ext.trans _ _ _ (Ext.drew w5) (below_drewN _ _))⟩
  have hd2 : decide ((n0 : Int) ≤ (T.size : Int) - (T.pos : Int) - 12) = true := decide_eq_true (by omega)
  have HCC := hid hC
  have HBB := hid hB
  clear hC hB hc0
  go_wp2
  refine wp_region_order Ext [] [(0,0),(1,0),(2,0),(3,0),(4,0),(5,0),(6,0),(7,0),(8,0),(9,0),(10,0),(12,0),(13,0),(14,0),(15,0),(11,1),(16,0),(17,0),(18,0),(19,0),(20,1)] _ (by kernel_rfl) rfl Ext.refl Ext.trans (by kernel_rfl) (by simp only [pick, List.getElem?_toArray, List.getElem?_cons_zero, List.getElem?_cons_succ]; rfl) (fun c a d v w h => by cases d <;> exact h) ?_
  refine wpK_q (v := ?_) (a' := ?_) (by rfl) (fun w' hR => ?_) ?_ ?_
  rotate_left 2
  · go_simp; with_reducible rfl
  · simp only [Act.put, List.setIfInBounds_toArray, List.set_cons_zero, List.set_cons_succ]; rfl
  refine wpK_q (v := ?_) (a' := ?_) (by rfl) (fun w' hR => ?_) ?_ ?_
  rotate_left 2
  · go_simp; with_reducible rfl
  · simp only [Act.put, List.setIfInBounds_toArray, List.set_cons_zero, List.set_cons_succ]; rfl
  refine wpK_q (v := ?_) (a' := ?_) (by rfl) (fun w' hR => ?_) ?_ ?_
  rotate_left 2
  · go_simp; with_reducible rfl
  · simp only [Act.put, List.setIfInBounds_toArray, List.set_cons_zero, List.set_cons_succ]; rfl
  refine wpK_q (v := ?_) (a' := ?_) (by rfl) (fun w' hR => ?_) ?_ ?_
  rotate_left 2
  · go_simp; with_reducible rfl
  · simp only [Act.put, List.setIfInBounds_toArray, List.set_cons_zero, List.set_cons_succ]; rfl
  refine wpK_q (v := ?_) (a' := ?_) (by rfl) (fun w' hR => ?_) ?_ ?_
  rotate_left 2
  · go_simp; with_reducible rfl
  · simp only [Act.put, List.setIfInBounds_toArray, List.set_cons_zero, List.set_cons_succ]; rfl
  refine wpK_q (v := ?_) (a' := ?_) (by rfl) (fun w' hR => ?_) ?_ ?_
  rotate_left 2
  · go_simp; with_reducible rfl
  · simp only [Act.put, List.setIfInBounds_toArray, List.set_cons_zero, List.set_cons_succ]; rfl
  refine wpK_q (v := ?_) (a' := ?_) (by rfl) (fun w' hR => ?_) ?_ ?_
  rotate_left 2
  · go_simp; with_reducible rfl
  · simp only [Act.put, List.setIfInBounds_toArray, List.set_cons_zero, List.set_cons_succ]; rfl
  refine wpK_q (v := ?_) (a' := ?_) (by rfl) (fun w' hR => ?_) ?_ ?_
  rotate_left 2
  · go_simp; with_reducible rfl
  · simp only [Act.put, List.setIfInBounds_toArray, List.set_cons_zero, List.set_cons_succ]; rfl
  refine wpK_q (v := ?_) (a' := ?_) (by rfl) (fun w' hR => ?_) ?_ ?_
  rotate_left 2
  · go_simp; with_reducible rfl
  · simp only [Act.put, List.setIfInBounds_toArray, List.set_cons_zero, List.set_cons_succ]; rfl
  refine wpK_q (v := ?_) (a' := ?_) (by rfl) (fun w' hR => ?_) ?_ ?_
  rotate_left 2
  · go_simp; with_reducible rfl
  · simp only [Act.put, List.setIfInBounds_toArray, List.set_cons_zero, List.set_cons_succ]; rfl
  refine wpK_q (v := ?_) (a' := ?_) (by rfl) (fun w' hR => ?_) ?_ ?_
  rotate_left 2
  · go_simp; with_reducible rfl
  · simp only [Act.put, List.setIfInBounds_toArray, List.set_cons_zero, List.set_cons_succ]; rfl
  refine wpK_q (v := ?_) (a' := ?_) (by rfl) (fun w' hR => ?_) ?_ ?_
  rotate_left 2
  · go_simp; with_reducible rfl
  · simp only [Act.put, List.setIfInBounds_toArray, List.set_cons_zero, List.set_cons_succ]; rfl
  refine wpK_q (v := ?_) (a' := ?_) (by rfl) (fun w' hR => ?_) ?_ ?_
  rotate_left 2
  · go_simp; with_reducible rfl
  · simp only [Act.put, List.setIfInBounds_toArray, List.set_cons_zero, List.set_cons_succ]; rfl
  refine wpK_q (v := ?_) (a' := ?_) (by rfl) (fun w' hR => ?_) ?_ ?_
  rotate_left 2
  · go_simp; with_reducible rfl
  · simp only [Act.put, List.setIfInBounds_toArray, List.set_cons_zero, List.set_cons_succ]; rfl
  refine wpK_q (v := ?_) (a' := ?_) (by rfl) (fun w' hR => ?_) ?_ ?_
  rotate_left 2
  · go_simp; with_reducible rfl
  · simp only [Act.put, List.setIfInBounds_toArray, List.set_cons_zero, List.set_cons_succ]; rfl
  refine wpK_call Try.func98 (by kernel_rfl) rfl rfl (by rfl) #[.pointer (some ⟨t, 0, none⟩)] (by simp only [List.map_toArray, List.map_cons, List.map_nil]; rfl) ?_
  refine (size_any w5.drew t p _ T (HWt.out.keep rfl)).mono ?_
  rintro e w7 ⟨rfl, m7, rfl⟩
  refine ⟨_, rfl, fun _ => below_drewN _ _, ?_⟩
  refine wpK_q (v := ?_) (a' := ?_) (by rfl) (fun w' hR => ?_) ?_ ?_
  rotate_left 2
  · go_simp; with_reducible rfl
  · simp only [Act.put, List.setIfInBounds_toArray, List.set_cons_zero, List.set_cons_succ]; rfl
  refine wpK_q (v := ?_) (a' := ?_) (by rfl) (fun w' hR => ?_) ?_ ?_
  rotate_left 2
  · go_simp; with_reducible rfl
  · simp only [Act.put, List.setIfInBounds_toArray, List.set_cons_zero, List.set_cons_succ]; rfl
  refine wpK_q (v := ?_) (a' := ?_) (by rfl) (fun w' hR => ?_) ?_ ?_
  rotate_left 2
  · go_simp; with_reducible rfl
  · simp only [Act.put, List.setIfInBounds_toArray, List.set_cons_zero, List.set_cons_succ]; rfl
  refine wpK_q (v := ?_) (a' := ?_) (by rfl) (fun w' hR => ?_) ?_ ?_
  rotate_left 2
  · go_simp; with_reducible rfl
  · simp only [Act.put, List.setIfInBounds_toArray, List.set_cons_zero, List.set_cons_succ]; rfl
  refine wpK_call Try.func108 (by kernel_rfl) rfl rfl (by rfl) #[.bool true, I 11] (by simp only [List.map_toArray, List.map_cons, List.map_nil]; rfl) ?_
  refine (unless_ok 11 _).mono ?_
  rintro e w8 ⟨rfl, rfl⟩
  refine ⟨_, rfl, fun _ => Ext.refl _, ?_⟩
  refine wpK_done ?_
  have HBel2 := hid (Ext.trans _ _ _ HBel.out (Ext.trans _ _ _ (Ext.drew w5) (below_drewN w5.drew m7)))
  have HWt2 : Hid (TapeIn (w5.drew.drewN m7) t p D.safe.length T) := hid (HWt.out.keep rfl)
  have HDt2 : Hid (DrumAt (w5.drew.drewN m7) p own D) := hid (HDt.out.below (Ext.trans _ _ _ (Ext.drew w5) (below_drewN w5.drew m7)))
  have HS52 : Hid (Sees (w5.drew.drewN m7) (.slice (some ⟨g, 0, none⟩) 12 cap) (List.take 12 (List.drop T.pos (TS.bytes D T)))) := hid (HS5.out.below (Ext.trans _ _ _ (Ext.drew w5) (below_drewN w5.drew m7)))
  have c3 := HWt2.out.c3
  clear k0 k3 c3' hcell HWt HDt HBel HB5 HS5 HS4 HW HDW HZZ HBEL hd1 hd2 hs1 hs2 hc1
  generalize w5.drew.drewN m7 = w9 at *
  have hb2 := bytes_on w9 t p own T D HWt2.out HDt2.out HO.out (T.pos + 12) n0 (by omega)
  have hp12 : ((T.pos + 12 : Nat) : Int) = (T.pos : Int) + 12 := by omega
  rw [hp12] at hb2
  have HB2 := hid hb2
  clear hb2 hp12
  obtain ⟨r, hr⟩ : ∃ r, r = List.take n0 (List.drop (T.pos + 12) (TS.bytes D T)) := ⟨_, rfl⟩
  rw [← hr] at HB2
  have hrl : r.length = n0 := by rw [hr, List.length_take, List.length_drop, HL.out]; omega
  have HRL := hid hrl
  have HR := hid hr
  clear hr hrl
  go_wp2_with (first | (go_at_call 106; refine HB2.out.mono ?_; rintro e w10 ⟨v10, rfl, ho10, hb10⟩; have HO10 := hid ho10; have HB10 := hid hb10; clear ho10 hb10 HB2))
  have hcap1 : ¬ cap = 1 := by omega
  obtain ⟨Y, hY⟩ : ∃ Y, Y = ((TS.bytes D T).drop (T.pos + 1)).take 11 := ⟨_, rfl⟩
  have S11 := HS52.out.sl (lo := 1) (hi := 12) (by omega) (by omega)
  have hs11 : sl (some ⟨g, 0, none⟩) cap 1 12 = .slice (some ⟨g, 1, none⟩) 11 (cap - 1) := by unfold sl; rw [if_neg (by omega)]; rfl
  have hl11 : ((List.take 12 (List.drop T.pos (TS.bytes D T))).take 12).drop 1 = Y := by
    rw [List.take_take, List.drop_take, List.drop_drop, hY]
    rfl
  rw [hs11, hl11] at S11
  have k9 : ∀ w', Ext w10.drew w' → (convert 23 9 (.slice (some ⟨g, 1, none⟩) 11 (cap - 1))).run Try.prog w' = .ok (.string (str Y)) w' := fun w' hh => run_str Try.underlying23 Try.underlying5 Try.underlying9 (S11.below (Ext.trans _ _ _ (Ext.trans _ _ _ HB10.out (Ext.drew w10)) hh))
  have HT10 := hid (HWt2.out.below HB10.out)
  have k4 : ∀ w', Ext w10.drew w' → w'.cell? ⟨t, 4, none⟩ = some (I T.count) := fun w' hh => hh.cell HT10.out.c4
  have HYY := hid hY
  have SR := hid ((own_sees' HO10.out rfl).drew)
  clear S11 hs11 hl11 hY
  obtain ⟨X, hX⟩ : ∃ X, X = TS.framed T.count r := ⟨_, rfl⟩
  have HX := hid hX
  clear hX
  obtain ⟨ao10, co10, rfl⟩ := own_form HO10.out
  by_cases hXY : X = Y
  rotate_left
  · have HN : Hid (F = .bad 12) := hid (by
      rw [HF.out]
      unfold TS.found
      rw [if_neg (by rw [HL.out]; exact hA), if_neg (by rw [← HC.out]; exact HBB.out), if_pos ⟨by rw [← HC.out]; exact HCC.out, by rw [← HN0.out]; omega, by rw [← HN0.out, HL.out]; omega⟩, if_neg (by rw [← HN0.out, ← HR.out, ← HX.out, ← HYY.out]; exact hXY)])
    have hne : ((str X).toList == (str Y).toList) = false := by rw [str_toList, str_toList, beq_eq_false_iff_ne]; exact hXY
    clear hXY
    refine wp_region_order Ext [] [(0,0),(1,0),(2,0),(3,0),(4,0),(7,0),(8,0),(9,0),(5,1),(6,0),(10,0),(11,1)] _ (by kernel_rfl) rfl Ext.refl Ext.trans (by kernel_rfl) (by simp only [pick, List.getElem?_toArray, List.getElem?_cons_zero, List.getElem?_cons_succ]; rfl) (fun c a d v w h => by cases d <;> exact h) ?_
    refine wpK_q (v := ?_) (a' := ?_) (by rfl) (fun w' hR => ?_) ?_ ?_
    rotate_left 2
    · go_simp; with_reducible rfl
    · simp only [Act.put, List.setIfInBounds_toArray, List.set_cons_zero, List.set_cons_succ]; rfl
    refine wpK_q (v := ?_) (a' := ?_) (by rfl) (fun w' hR => ?_) ?_ ?_
    rotate_left 2
    · go_simp; with_reducible rfl
    · simp only [Act.put, List.setIfInBounds_toArray, List.set_cons_zero, List.set_cons_succ]; rfl
    refine wpK_q (v := ?_) (a' := ?_) (by rfl) (fun w' hR => ?_) ?_ ?_
    rotate_left 2
    · go_simp; with_reducible rfl
    · simp only [Act.put, List.setIfInBounds_toArray, List.set_cons_zero, List.set_cons_succ]; rfl
    refine wpK_q (v := ?_) (a' := ?_) (by rfl) (fun w' hR => ?_) ?_ ?_
    rotate_left 2
    · go_simp; with_reducible rfl
    · simp only [Act.put, List.setIfInBounds_toArray, List.set_cons_zero, List.set_cons_succ]; rfl
    refine wpK_q (v := ?_) (a' := ?_) (by rfl) (fun w' hR => ?_) ?_ ?_
    rotate_left 2
    · go_simp; with_reducible rfl
    · simp only [Act.put, List.setIfInBounds_toArray, List.set_cons_zero, List.set_cons_succ]; rfl
    refine wpK_q (v := ?_) (a' := ?_) (by rfl) (fun w' hR => ?_) ?_ ?_
    rotate_left 2
    · go_simp; with_reducible rfl
    · simp only [Act.put, List.setIfInBounds_toArray, List.set_cons_zero, List.set_cons_succ]; rfl
    refine wpK_q (v := ?_) (a' := ?_) (by rfl) (fun w' hR => ?_) ?_ ?_
    rotate_left 2
    · go_simp; with_reducible rfl
    · simp only [Act.put, List.setIfInBounds_toArray, List.set_cons_zero, List.set_cons_succ]; rfl
    refine wpK_q (v := ?_) (a' := ?_) (by rfl) (fun w' hR => ?_) ?_ ?_
    rotate_left 2
    · go_simp; with_reducible rfl
    · simp only [Act.put, List.setIfInBounds_toArray, List.set_cons_zero, List.set_cons_succ]; rfl
    refine wpK_call Try.func109 (by kernel_rfl) rfl rfl (by rfl) #[I T.count, .slice ao10 r.length co10] (by simp only [List.map_toArray, List.map_cons, List.map_nil]; rfl) ?_
    refine (framed_of _ T.count (by omega) _ r SR.out (by rw [HRL.out]; omega)).mono ?_
    rw [← HX.out]
    rintro e w11 ⟨v11, rfl, ho11, hb11⟩
    refine ⟨_, rfl, fun _ => hb11, ?_⟩
    obtain ⟨ao11, co11, rfl⟩ := own_form ho11
    have S11 := hid (own_sees ho11)
    have k6 : ∀ w', Ext w11 w' → (convert 23 9 (.slice ao11 X.length co11)).run Try.prog w' = .ok (.string (str X)) w' := fun w' hh => run_str Try.underlying23 Try.underlying5 Try.underlying9 (S11.out.below hh)
    have HB11 := hid hb11
    clear ho11 hb11
    refine wpK_q (v := ?_) (a' := ?_) (by rfl) (fun w' hR => ?_) ?_ ?_
    rotate_left 2
    · go_simp; with_reducible rfl
    · simp only [Act.put, List.setIfInBounds_toArray, List.set_cons_zero, List.set_cons_succ]; rfl
    refine wpK_q (v := ?_) (a' := ?_) (by rfl) (fun w' hR => ?_) ?_ ?_
    rotate_left 2
    · go_simp; with_reducible rfl
    · simp only [Act.put, List.setIfInBounds_toArray, List.set_cons_zero, List.set_cons_succ]; rfl
    refine wpK_callp Try.func108 (by kernel_rfl) rfl rfl (by rfl) #[.bool false, I 12] (by simp only [List.map_toArray, List.map_cons, List.map_nil]; rfl) ?_
    refine (unless_no 12 _).mono ?_
    rintro e w7 ⟨rfl, rfl⟩
    refine ⟨_, rfl, ?_⟩
    refine And.intro rfl ?_
    rw [HN.out]
    exact ⟨rfl, Ext.trans _ _ _ HBel2.out (Ext.trans _ _ _ (Ext.trans _ _ _ HB10.out (Ext.drew w10)) HB11.out)⟩
  have HN : Hid (F = .yes r) := hid (by
    rw [HF.out]
    unfold TS.found
    rw [if_neg (by rw [HL.out]; exact hA), if_neg (by rw [← HC.out]; exact HBB.out), if_pos ⟨by rw [← HC.out]; exact HCC.out, by rw [← HN0.out]; omega, by rw [← HN0.out, HL.out]; omega⟩, if_pos (by rw [← HN0.out, ← HR.out, ← HX.out, ← HYY.out]; exact hXY), ← HN0.out, ← HR.out])
  subst hXY
  refine wp_region_order Ext [] [(0,0),(1,0),(2,0),(3,0),(4,0),(7,0),(8,0),(9,0),(5,1),(6,0),(10,0),(11,1)] _ (by kernel_rfl) rfl Ext.refl Ext.trans (by kernel_rfl) (by simp only [pick, List.getElem?_toArray, List.getElem?_cons_zero, List.getElem?_cons_succ]; rfl) (fun c a d v w h => by cases d <;> exact h) ?_
  refine wpK_q (v := ?_) (a' := ?_) (by rfl) (fun w' hR => ?_) ?_ ?_
  rotate_left 2
  · go_simp; with_reducible rfl
  · simp only [Act.put, List.setIfInBounds_toArray, List.set_cons_zero, List.set_cons_succ]; rfl
  refine wpK_q (v := ?_) (a' := ?_) (by rfl) (fun w' hR => ?_) ?_ ?_
  rotate_left 2
  · go_simp; with_reducible rfl
  · simp only [Act.put, List.setIfInBounds_toArray, List.set_cons_zero, List.set_cons_succ]; rfl
  refine wpK_q (v := ?_) (a' := ?_) (by rfl) (fun w' hR => ?_) ?_ ?_
  rotate_left 2
  · go_simp; with_reducible rfl
  · simp only [Act.put, List.setIfInBounds_toArray, List.set_cons_zero, List.set_cons_succ]; rfl
  refine wpK_q (v := ?_) (a' := ?_) (by rfl) (fun w' hR => ?_) ?_ ?_
  rotate_left 2
  · go_simp; with_reducible rfl
  · simp only [Act.put, List.setIfInBounds_toArray, List.set_cons_zero, List.set_cons_succ]; rfl
  refine wpK_q (v := ?_) (a' := ?_) (by rfl) (fun w' hR => ?_) ?_ ?_
  rotate_left 2
  · go_simp; with_reducible rfl
  · simp only [Act.put, List.setIfInBounds_toArray, List.set_cons_zero, List.set_cons_succ]; rfl
  refine wpK_q (v := ?_) (a' := ?_) (by rfl) (fun w' hR => ?_) ?_ ?_
  rotate_left 2
  · go_simp; with_reducible rfl
  · simp only [Act.put, List.setIfInBounds_toArray, List.set_cons_zero, List.set_cons_succ]; rfl
  refine wpK_q (v := ?_) (a' := ?_) (by rfl) (fun w' hR => ?_) ?_ ?_
  rotate_left 2
  · go_simp; with_reducible rfl
  · simp only [Act.put, List.setIfInBounds_toArray, List.set_cons_zero, List.set_cons_succ]; rfl
  refine wpK_q (v := ?_) (a' := ?_) (by rfl) (fun w' hR => ?_) ?_ ?_
  rotate_left 2
  · go_simp; with_reducible rfl
  · simp only [Act.put, List.setIfInBounds_toArray, List.set_cons_zero, List.set_cons_succ]; rfl
  refine wpK_call Try.func109 (by kernel_rfl) rfl rfl (by rfl) #[I T.count, .slice ao10 r.length co10] (by simp only [List.map_toArray, List.map_cons, List.map_nil]; rfl) ?_
  refine (framed_of _ T.count (by omega) _ r SR.out (by rw [HRL.out]; omega)).mono ?_
  rw [← HX.out]
  rintro e w11 ⟨v11, rfl, ho11, hb11⟩
  refine ⟨_, rfl, fun _ => hb11, ?_⟩
  obtain ⟨ao11, co11, rfl⟩ := own_form ho11
  have S11 := hid (own_sees ho11)
  have k6 : ∀ w', Ext w11 w' → (convert 23 9 (.slice ao11 X.length co11)).run Try.prog w' = .ok (.string (str X)) w' := fun w' hh => run_str Try.underlying23 Try.underlying5 Try.underlying9 (S11.out.below hh)
  have HB11 := hid hb11
  clear ho11 hb11
  refine wpK_q (v := ?_) (a' := ?_) (by rfl) (fun w' hR => ?_) ?_ ?_
  rotate_left 2
  · go_simp; with_reducible rfl
  · simp only [Act.put, List.setIfInBounds_toArray, List.set_cons_zero, List.set_cons_succ]; rfl
  refine wpK_q (v := ?_) (a' := ?_) (by rfl) (fun w' hR => ?_) ?_ ?_
  rotate_left 2
  · go_simp; with_reducible rfl
  · simp only [Act.put, List.setIfInBounds_toArray, List.set_cons_zero, List.set_cons_succ]; rfl
  refine wpK_call Try.func108 (by kernel_rfl) rfl rfl (by rfl) #[.bool true, I 12] (by simp only [List.map_toArray, List.map_cons, List.map_nil]; rfl) ?_
  refine (unless_ok 12 _).mono ?_
  rintro e w8 ⟨rfl, rfl⟩
  refine ⟨_, rfl, fun _ => Ext.refl _, ?_⟩
  refine wpK_done ?_
  have HB12 := hid (Ext.trans _ _ _ (Ext.drew w10) HB11.out)
  have HT12 := hid (HT10.out.below HB12.out)
  have HO12 := hid (own_below HO10.out HB12.out)
  clear k9 k4 k6 S11
  have c3 := HT12.out.c3
  have c4 := HT12.out.c4
  have cf := HT12.out.fr
  have hw3 : IntKind.i64.wrap ((T.pos : Int) + (12 + (n0 : Int))) = (T.pos : Int) + (12 + (n0 : Int)) := IntWalk.i64_in _ (by omega)
  have hw4 : IntKind.i64.wrap ((T.count : Int) + 1) = (T.count : Int) + 1 := IntWalk.i64_in _ (by omega)
  have hcnt : T.count ≤ 1048576 := by omega
  go_wp2
  go_ret2
  rw [HN.out]
  have ht := HT12.out
  have hm : Mod (fun k => k = t) w11 ((w11.setCell ⟨t, 3, none⟩ (.int .i64 ((T.pos : Int) + (12 + (n0 : Int))))).setCell ⟨t, 4, none⟩ (.int .i64 ((T.count : Int) + 1))) := (Mod.set (own := fun k => k = t) rfl).trans (Mod.set rfl)
  have hB2 : Below w.heap.size w w11 := Ext.trans _ _ _ (Ext.trans _ _ _ HBel2.out HB10.out) HB12.out
  have htw : t < w.heap.size := h0t
  refine ⟨_, rfl, ?_, ?_, (Mod.of_below _ hB2).trans hm⟩
  · have hbb : w.heap.size ≤ w9.heap.size := HBel2.out.size
    refine own_anew (own_mod HO12.out (fun k hk => ?_)) (fun k hk => Nat.le_trans hbb (own_lt HO12.out k hk).1)
    have hk1 := own_lt HO12.out k hk
    exact hm.block k hk1.2 (fun e => by omega)
  · have hrl := HRL.out
    have h1 := ht.ok
    refine ⟨⟨h1.lt, h1.le, by show T.pos + 12 + r.length ≤ T.size; omega, by show T.count + 1 ≤ T.pos + 12 + r.length; omega, h1.sick⟩, ht.n2, ?_⟩
    rw [heap_setCell_same _ t 4 _ _ _ (heap_setCell_same w11 t 3 _ _ _ ht.ht)]
    have e1 : (T.pos : Int) + (12 + (n0 : Int)) = ((T.pos + 12 + r.length : Nat) : Int) := by omega
    have e2 : (T.count : Int) + 1 = ((T.count + 1 : Nat) : Int) := by omega
    rw [e1, e2]
    rfl
end Go.Proofs.Ytoaeapnkefjpaaa
