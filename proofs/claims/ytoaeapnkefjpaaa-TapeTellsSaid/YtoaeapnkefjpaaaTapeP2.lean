/-
  THE PROGRAM'S TAPE, second file: bytes. Conditions: those that each contract names.
-/
import Derived.Test.YtoaeapnkefjpaaaTapeP
namespace Go.Proofs.Ytoaeapnkefjpaaa
open Go.RowKit
set_option linter.unusedVariables false
set_option linter.unusedSimpArgs false

theorem own_sees' {w : World} {base : Nat} {e : TypeId} {v : Value} {l : List UInt8} {n : Nat} (h : w.ownsRow base e 1 v n (l.map B)) (hn : l.length = n) : Sees w v l := own_sees (own_len h hn.symm rfl)
/-- The bytes of a tape's stretch. -/
def TS.bytes (D : DS) (T : TS) : List UInt8 := TS.stretch D T.lo (T.hi - T.lo)
set_option maxRecDepth 100000 in
set_option maxHeartbeats 1600000 in
theorem bytes_on (w : World) (t p : Nat) (own : Nat → Prop) (T : TS) (D : DS) (h : TapeIn w t p D.safe.length T) (hd : DrumAt w p own D) (ho : D.off = false) (a m : Nat) (ha : a + m ≤ T.size) :
    Calls Try.prog 106 #[.pointer (some ⟨t, 0, none⟩), I a, I m] w (Fresh w (((TS.bytes D T).drop a).take m)) := by
  obtain ⟨b1, b2, b3, b4, b5, b6, b7⟩ := h.bd
  have H := hid h
  have HD := hid hd
  have HO := hid ho
  have hlen : (TS.bytes D T).length = T.size := TS.stretch_len hd.ok (by omega)
  have HL := hid hlen
  clear h hd ho b7 hlen
  go_enter Try.func106, Try.ntmps106
  go_wp2
  go_loopw [1, 7] (fun x o wr => ∃ (j k : Nat), j ≤ m ∧ k = a + j ∧ x = I k ∧ Hid (wr.ownsRow w.heap.size 5 1 o j ((((TS.bytes D T).drop a).take j).map B)) ∧ Hid (Below w.heap.size w wr)) (fun x _ _ => a + m - (intOf x).toNat)
  case atStart => exact ⟨0, a, by omega, rfl, rfl, hid (World.ownsRow_nil _ _ _ _), hid (Below.refl _ _)⟩
  case round =>
    obtain ⟨j, k, hj, hk, rfl, hO, hB⟩ := hrel
    obtain ⟨ao, co, rfl⟩ := own_form hO.out
    have HK := hid hk
    by_cases hlt : j < m
    · have hk2 : k < T.size := by omega
      have hkq : k / 256 < T.hi - T.lo := by unfold TS.size at hk2; omega
      have hk3 : k ≤ 1048576 := by omega
      clear hk
      have h := H.out.below hB.out
      have hd := HD.out.below hB.out
      have k0 : ∀ w', Ext wr.drew w' → w'.cell? ⟨t, 0, none⟩ = some (.pointer (some ⟨p, 0, none⟩)) := fun w' hh => hh.cell h.c0
      have k1 : ∀ w', Ext wr.drew w' → w'.cell? ⟨t, 1, none⟩ = some (I T.lo) := fun w' hh => hh.cell h.c1
      have hlo : T.lo + k / 256 < D.safe.length := by omega
      have hlo2 : T.lo ≤ 4096 := by omega
      have hlo3 : k / 256 ≤ 4096 := by omega
      have HDW := hid (hd.below (Ext.drew wr))
      clear h hd
      have hw1 : IntKind.i64.wrap ((k : Int) / 256) = (k : Int) / 256 := IntWalk.i64_in _ (by omega)
      have hw2 : IntKind.i64.wrap ((T.lo : Int) + (k : Int) / 256) = (T.lo : Int) + (k : Int) / 256 := IntWalk.i64_in _ (by omega)
      obtain ⟨pg, hpg⟩ : ∃ pg, pg = DS.look D.safe D.waits (T.lo + k / 256) := ⟨_, rfl⟩
      have hpl : pg.length = 256 := by rw [hpg]; exact DS.look_len HD.out.ok.page HD.out.ok.wait hlo
      have hrd : D.read ((T.lo : Int) + (k : Int) / 256) = (0, pg) := by
        have := DS.read_ok HO.out hlo
        rw [hpg, ← this]
        congr 1
      have HRD := hid hrd
      have HPL := hid hpl
      have HPG := hid hpg
      clear hpl hrd hpg
      go_wp2
      refine wp_region_order Ext [] [(0,0),(1,0),(2,0),(3,0),(4,0),(5,0),(6,0),(7,0),(8,0),(9,0),(10,0),(11,1),(12,0),(13,0),(14,0),(15,0),(16,0)] _ (by kernel_rfl) rfl Ext.refl Ext.trans (by kernel_rfl) (by simp only [pick, List.getElem?_toArray, List.getElem?_cons_zero, List.getElem?_cons_succ]; rfl) (fun c a d v w h => by cases d <;> exact h) ?_
      refine wpK_q (v := ?_) (a' := ?_) (by rfl) (fun w' hR => ?_) ?_ ?_
      rotate_left 2
      · go_simp; with_reducible rfl
      · simp only [Act.put, List.setIfInBounds_toArray, List.set_cons_zero, List.set_cons_succ]; rfl
      refine wpK_q (v := ?_) (a' := ?_) (by rfl) (fun w' hR => ?_) ?_ ?_
      rotate_left 2
      · go_simp; with_reducible rfl
      · simp only [Act.put, List.setIfInBounds_toArray, List.set_cons_zero, List.set_cons_succ]; rfl
      refine wpK_q (v := ?_) (a' := ?_) (by rfl) (fun w' hR => ?_) ?_ ?_
      rotate_left 2
      · go_simp; with_reducible rfl
      · simp only [Act.put, List.setIfInBounds_toArray, List.set_cons_zero, List.set_cons_succ]; rfl
      refine wpK_q (v := ?_) (a' := ?_) (by rfl) (fun w' hR => ?_) ?_ ?_
      rotate_left 2
      · go_simp; with_reducible rfl
      · simp only [Act.put, List.setIfInBounds_toArray, List.set_cons_zero, List.set_cons_succ]; rfl
      refine wpK_q (v := ?_) (a' := ?_) (by rfl) (fun w' hR => ?_) ?_ ?_
      rotate_left 2
      · go_simp; with_reducible rfl
      · simp only [Act.put, List.setIfInBounds_toArray, List.set_cons_zero, List.set_cons_succ]; rfl
      refine wpK_q (v := ?_) (a' := ?_) (by rfl) (fun w' hR => ?_) ?_ ?_
      rotate_left 2
      · go_simp; with_reducible rfl
      · simp only [Act.put, List.setIfInBounds_toArray, List.set_cons_zero, List.set_cons_succ]; rfl
      refine wpK_q (v := ?_) (a' := ?_) (by rfl) (fun w' hR => ?_) ?_ ?_
      rotate_left 2
      · go_simp; with_reducible rfl
      · simp only [Act.put, List.setIfInBounds_toArray, List.set_cons_zero, List.set_cons_succ]; rfl
      refine wpK_q (v := ?_) (a' := ?_) (by rfl) (fun w' hR => ?_) ?_ ?_
      rotate_left 2
      · go_simp; with_reducible rfl
      · simp only [Act.put, List.setIfInBounds_toArray, List.set_cons_zero, List.set_cons_succ]; rfl
      refine wpK_q (v := ?_) (a' := ?_) (by rfl) (fun w' hR => ?_) ?_ ?_
      rotate_left 2
      · go_simp; with_reducible rfl
      · simp only [Act.put, List.setIfInBounds_toArray, List.set_cons_zero, List.set_cons_succ]; rfl
      refine wpK_q (v := ?_) (a' := ?_) (by rfl) (fun w' hR => ?_) ?_ ?_
      rotate_left 2
      · go_simp; with_reducible rfl
      · simp only [Act.put, List.setIfInBounds_toArray, List.set_cons_zero, List.set_cons_succ]; rfl
      refine wpK_q (v := ?_) (a' := ?_) (by rfl) (fun w' hR => ?_) ?_ ?_
      rotate_left 2
      · go_simp; with_reducible rfl
      · simp only [Act.put, List.setIfInBounds_toArray, List.set_cons_zero, List.set_cons_succ]; rfl
      refine wpK_call Try.func58 (by kernel_rfl) rfl rfl (by rfl) #[.pointer (some ⟨p, 0, none⟩), .int .i64 ((T.lo : Int) + (k : Int) / 256)] (by simp only [List.map_toArray, List.map_cons, List.map_nil]; rfl) ?_
      refine (read_any _ p own D _ HDW.out (by omega)).mono ?_
      rw [HRD.out]
      rintro e w5 ⟨v5, rfl, ho5, hb5⟩
      refine ⟨_, rfl, fun _ => hb5, ?_⟩
      refine wpK_q (v := ?_) (a' := ?_) (by rfl) (fun w' hR => ?_) ?_ ?_
      rotate_left 2
      · go_simp; with_reducible rfl
      · simp only [Act.put, List.setIfInBounds_toArray, List.set_cons_zero, List.set_cons_succ]; rfl
      refine wpK_q (v := ?_) (a' := ?_) (by rfl) (fun w' hR => ?_) ?_ ?_
      rotate_left 2
      · go_simp; with_reducible rfl
      · simp only [Act.put, List.setIfInBounds_toArray, List.set_cons_zero, List.set_cons_succ]; rfl
      refine wpK_q (v := ?_) (a' := ?_) (by rfl) (fun w' hR => ?_) ?_ ?_
      rotate_left 2
      · go_simp; with_reducible rfl
      · simp only [Act.put, List.setIfInBounds_toArray, List.set_cons_zero, List.set_cons_succ]; rfl
      refine wpK_q (v := ?_) (a' := ?_) (by rfl) (fun w' hR => ?_) ?_ ?_
      rotate_left 2
      · go_simp; with_reducible rfl
      · simp only [Act.put, List.setIfInBounds_toArray, List.set_cons_zero, List.set_cons_succ]; rfl
      refine wpK_q (v := ?_) (a' := ?_) (by rfl) (fun w' hR => ?_) ?_ ?_
      rotate_left 2
      · go_simp; with_reducible rfl
      · simp only [Act.put, List.setIfInBounds_toArray, List.set_cons_zero, List.set_cons_succ]; rfl
      refine wpK_done ?_
      clear k0 k1 hw1 hw2
      rw [HPL.out] at ho5
      obtain ⟨g, cap, rfl, g1, g2, g3, g4⟩ := own_slice ho5 (by omega)
      unfold maxLen at g2
      have hb5' : Below w.heap.size w w5 := hB.out.trans ((Ext.trans _ _ _ (Ext.drew wr) hb5).mono hB.out.size)
      have hO5 : w5.ownsRow w.heap.size 5 1 (.slice ao j co) j ((((TS.bytes D T).drop a).take j).map B) := own_below hO.out (Ext.trans _ _ _ (Ext.drew wr) hb5)
      have S5 : Sees w5 (.slice (some ⟨g, 0, none⟩) 256 cap) pg := own_sees' ho5 HPL.out
      have HB5 := hid hb5'
      have HO5 := hid hO5
      have HS5 := hid S5
      clear hb5 hb5' hO5 S5 ho5 hO hB
      obtain ⟨o, hoo⟩ : ∃ o : Nat, o = k % 256 := ⟨_, rfl⟩
      have ho256 : o < 256 := by omega
      obtain ⟨n1, hn1⟩ : ∃ n1 : Nat, n1 = 256 - o := ⟨_, rfl⟩
      obtain ⟨q, hq⟩ : ∃ q : Nat, q = min n1 (m - j) := ⟨_, rfl⟩
      have hq1 : q ≤ n1 ∧ q ≤ m - j ∧ 0 < q := by omega
      have hS1 := HS5.out.sl (lo := o) (hi := 256) (by omega) (by omega)
      have e5 := fun w' => run_sl_from (some ⟨g, 0, none⟩) 256 cap o (by omega) w'
      obtain ⟨a1, c1, hsl⟩ : ∃ a1 c1, sl (some ⟨g, 0, none⟩) cap o 256 = .slice a1 n1 c1 := ⟨_, _, by rw [hn1]; rfl⟩
      rw [hsl] at hS1 e5
      have hc1 : n1 ≤ c1 ∧ c1 ≤ 9223372036854775807 := by
        simp only [sl, Value.slice.injEq] at hsl
        omega
      have hS2 := hS1.sl (lo := 0) (hi := q) (by omega) (by omega)
      have e6 := fun w' => run_sl_to a1 n1 c1 q (by omega) w'
      obtain ⟨a2, c2, hsl2⟩ : ∃ a2 c2, sl a1 c1 0 q = .slice a2 q c2 := ⟨_, _, rfl⟩
      rw [hsl2] at hS2 e6
      have hc2 : c2 ≤ 9223372036854775807 := by
        simp only [sl, Value.slice.injEq] at hsl2
        omega
      have km : ∀ (ats : Array TypeId) (ty : TypeId) (w : World), (Builtin.min_ ats ty #[.int .i64 (n1 : Int), .int .i64 ((m : Int) - (j : Int))]).run Try.prog w = .ok (.int .i64 q) w := fun ats ty w => by
        have := run_min (P := Try.prog) ats ty n1 ((m : Int) - (j : Int)) w
        rw [this]
        congr 2
        omega
      have hmod : (k : Int) % 256 = (o : Int) := by omega
      rw [← hmod] at e5
      obtain ⟨pc, hpc⟩ : ∃ pc, pc = ((((pg.take 256).drop o).take q).drop 0) := ⟨_, rfl⟩
      rw [← hpc] at hS2
      have hpcl : pc.length = q := by
        have := HPL.out
        rw [hpc]
        simp only [List.drop_zero, List.length_take, List.length_drop]
        omega
      have hpiece : (((TS.bytes D T).drop a).take j) ++ pc = ((TS.bytes D T).drop a).take (j + q) := by
        have e1 := TS.stretch_piece HD.out.ok (lo := T.lo) (n := T.hi - T.lo) (by omega) (a := k) (m := q) hkq (by omega)
        have e0 : pg.take 256 = pg := List.take_of_length_le (by rw [HPL.out]; exact Nat.le_refl _)
        rw [hpc, List.drop_zero, e0, HPG.out, hoo, ← e1]
        show _ ++ List.take q (List.drop k (TS.bytes D T)) = _
        rw [List.take_add, List.drop_drop]
        congr 3
      obtain ⟨X, hX⟩ : ∃ X, X = ((TS.bytes D T).drop a).take j := ⟨_, rfl⟩
      obtain ⟨Y, hY⟩ : ∃ Y, Y = ((TS.bytes D T).drop a).take (j + q) := ⟨_, rfl⟩
      rw [← hX, ← hY] at hpiece
      rw [← hX] at HO5
      have HY := hid hY
      have HPC := hid hpiece
      have HQ := hid hq1
      have HS2 := hid hS2
      have HPCL := hid hpcl
      have hkq3 : k + q ≤ 1048576 := by have := HK.out; omega
      clear hX hY hpiece hpc hsl hsl2 hS1 hS2 hn1 hq hoo hmod hpcl hq1
      go_wp2_with (first | (go_at_call 108; refine (unless_ok _ _).mono ?_; rintro e w6 ⟨rfl, rfl⟩) | (at_builtin; refine wpList_app rfl (.tmp 47) (.tmp 48) 23 rfl w.heap.size 5 (.int .u8 0) 1 1 Try.underlying23 info5 rfl (by decide) j (X.map B) q (pc.map B) HO5.out ?src ?h63 ?hb HB5.out.size ?_))
      case src => have := HS2.out.src; rw [HPCL.out] at this; exact this
      case h63 => have := HQ.out; unfold maxLen; omega
      case hb => have := HQ.out; omega
      intro v7 w7 hown hgrow hat
      rw [← List.map_append, HPC.out, HY.out] at hown
      have hb7 : Below w.heap.size w w7 := HB5.out.grown hgrow HB5.out.size (fun i hi => (own_lt HO5.out i hi).1)
      obtain ⟨ao7, co7, rfl⟩ := own_form hown
      have HO7 := hid hown
      have HB7 := hid hb7
      clear hown hgrow hat hb7 e5 e6 km
      go_wp2
      go_roundw
      case rel => exact ⟨j + q, k + q, by have := HQ.out; omega, by have := HK.out; omega, by go_num, HO7, HB7⟩
      case measure => have := HQ.out; have := HK.out; simp [intOf]; omega
    · obtain rfl : j = m := by omega
      go_wp2
      go_ret
      have hl : (((TS.bytes D T).drop a).take j).length = j := by rw [List.length_take, List.length_drop, HL.out]; omega
      exact ⟨_, rfl, own_len hO.out hl.symm rfl, hB.out⟩
set_option maxRecDepth 100000 in
set_option maxHeartbeats 800000 in
theorem bytes_down (w : World) (t p : Nat) (own : Nat → Prop) (T : TS) (D : DS) (h : TapeIn w t p D.safe.length T) (hd : DrumAt w p own D) (ho : D.off = true) (k m : Nat) (hk2 : k < T.size) (hm : 0 < m) (hm2 : m ≤ 1048576) :
    Calls Try.prog 106 #[.pointer (some ⟨t, 0, none⟩), I k, I m] w fun e w' => e = .panicked (gaveUp 20) ∧ Below w.heap.size w w' := by
  obtain ⟨b1, b2, b3, b4, b5, b6, b7⟩ := h.bd
  have k0 : ∀ w', Ext w.drew w' → w'.cell? ⟨t, 0, none⟩ = some (.pointer (some ⟨p, 0, none⟩)) := fun w' hh => hh.cell h.c0
  have k1 : ∀ w', Ext w.drew w' → w'.cell? ⟨t, 1, none⟩ = some (I T.lo) := fun w' hh => hh.cell h.c1
  have HDW := hid (hd.below (Ext.drew w))
  have hkq : k / 256 < T.hi - T.lo := by unfold TS.size at hk2; omega
  have hlo : T.lo + k / 256 < D.safe.length := by omega
  have hrd : D.read ((T.lo : Int) + (k : Int) / 256) = (20, []) := by
    unfold DS.read
    rw [if_neg (by omega), if_pos ho]
  have HRD := hid hrd
  have hw1 : IntKind.i64.wrap ((k : Int) / 256) = (k : Int) / 256 := IntWalk.i64_in _ (by omega)
  have hw2 : IntKind.i64.wrap ((T.lo : Int) + (k : Int) / 256) = (T.lo : Int) + (k : Int) / 256 := IntWalk.i64_in _ (by omega)
  clear h hd ho b7 hrd
  go_enter Try.func106, Try.ntmps106
  go_wp2
  refine wp_loop_rounds 1 ?_
  rw [rounds_succ]
  go_wp2
  refine wp_region_order Ext [] [(0,0),(1,0),(2,0),(3,0),(4,0),(5,0),(6,0),(7,0),(8,0),(9,0),(10,0),(11,1),(12,0),(13,0),(14,0),(15,0),(16,0)] _ (by kernel_rfl) rfl Ext.refl Ext.trans (by kernel_rfl) (by simp only [pick, List.getElem?_toArray, List.getElem?_cons_zero, List.getElem?_cons_succ]; rfl) (fun c a d v w h => by cases d <;> exact h) ?_
  refine wpK_q (v := ?_) (a' := ?_) (by rfl) (fun w' hR => ?_) ?_ ?_
  rotate_left 2
  · go_simp; with_reducible rfl
  · simp only [Act.put, List.setIfInBounds_toArray, List.set_cons_zero, List.set_cons_succ]; rfl
  refine wpK_q (v := ?_) (a' := ?_) (by rfl) (fun w' hR => ?_) ?_ ?_
  rotate_left 2
  · go_simp; with_reducible rfl
  · simp only [Act.put, List.setIfInBounds_toArray, List.set_cons_zero, List.set_cons_succ]; rfl
  refine wpK_q (v := ?_) (a' := ?_) (by rfl) (fun w' hR => ?_) ?_ ?_
  rotate_left 2
  · go_simp; with_reducible rfl
  · simp only [Act.put, List.setIfInBounds_toArray, List.set_cons_zero, List.set_cons_succ]; rfl
  refine wpK_q (v := ?_) (a' := ?_) (by rfl) (fun w' hR => ?_) ?_ ?_
  rotate_left 2
  · go_simp; with_reducible rfl
  · simp only [Act.put, List.setIfInBounds_toArray, List.set_cons_zero, List.set_cons_succ]; rfl
  refine wpK_q (v := ?_) (a' := ?_) (by rfl) (fun w' hR => ?_) ?_ ?_
  rotate_left 2
  · go_simp; with_reducible rfl
  · simp only [Act.put, List.setIfInBounds_toArray, List.set_cons_zero, List.set_cons_succ]; rfl
  refine wpK_q (v := ?_) (a' := ?_) (by rfl) (fun w' hR => ?_) ?_ ?_
  rotate_left 2
  · go_simp; with_reducible rfl
  · simp only [Act.put, List.setIfInBounds_toArray, List.set_cons_zero, List.set_cons_succ]; rfl
  refine wpK_q (v := ?_) (a' := ?_) (by rfl) (fun w' hR => ?_) ?_ ?_
  rotate_left 2
  · go_simp; with_reducible rfl
  · simp only [Act.put, List.setIfInBounds_toArray, List.set_cons_zero, List.set_cons_succ]; rfl
  refine wpK_q (v := ?_) (a' := ?_) (by rfl) (fun w' hR => ?_) ?_ ?_
  rotate_left 2
  · go_simp; with_reducible rfl
  · simp only [Act.put, List.setIfInBounds_toArray, List.set_cons_zero, List.set_cons_succ]; rfl
  refine wpK_q (v := ?_) (a' := ?_) (by rfl) (fun w' hR => ?_) ?_ ?_
  rotate_left 2
  · go_simp; with_reducible rfl
  · simp only [Act.put, List.setIfInBounds_toArray, List.set_cons_zero, List.set_cons_succ]; rfl
  refine wpK_q (v := ?_) (a' := ?_) (by rfl) (fun w' hR => ?_) ?_ ?_
  rotate_left 2
  · go_simp; with_reducible rfl
  · simp only [Act.put, List.setIfInBounds_toArray, List.set_cons_zero, List.set_cons_succ]; rfl
  refine wpK_q (v := ?_) (a' := ?_) (by rfl) (fun w' hR => ?_) ?_ ?_
  rotate_left 2
  · go_simp; with_reducible rfl
  · simp only [Act.put, List.setIfInBounds_toArray, List.set_cons_zero, List.set_cons_succ]; rfl
  refine wpK_call Try.func58 (by kernel_rfl) rfl rfl (by rfl) #[.pointer (some ⟨p, 0, none⟩), .int .i64 ((T.lo : Int) + (k : Int) / 256)] (by simp only [List.map_toArray, List.map_cons, List.map_nil]; rfl) ?_
  refine (read_any _ p own D _ HDW.out (by omega)).mono ?_
  rw [HRD.out]
  rintro e w5 ⟨v5, rfl, ho5, hb5⟩
  refine ⟨_, rfl, fun _ => hb5, ?_⟩
  refine wpK_q (v := ?_) (a' := ?_) (by rfl) (fun w' hR => ?_) ?_ ?_
  rotate_left 2
  · go_simp; with_reducible rfl
  · simp only [Act.put, List.setIfInBounds_toArray, List.set_cons_zero, List.set_cons_succ]; rfl
  refine wpK_q (v := ?_) (a' := ?_) (by rfl) (fun w' hR => ?_) ?_ ?_
  rotate_left 2
  · go_simp; with_reducible rfl
  · simp only [Act.put, List.setIfInBounds_toArray, List.set_cons_zero, List.set_cons_succ]; rfl
  refine wpK_q (v := ?_) (a' := ?_) (by rfl) (fun w' hR => ?_) ?_ ?_
  rotate_left 2
  · go_simp; with_reducible rfl
  · simp only [Act.put, List.setIfInBounds_toArray, List.set_cons_zero, List.set_cons_succ]; rfl
  refine wpK_q (v := ?_) (a' := ?_) (by rfl) (fun w' hR => ?_) ?_ ?_
  rotate_left 2
  · go_simp; with_reducible rfl
  · simp only [Act.put, List.setIfInBounds_toArray, List.set_cons_zero, List.set_cons_succ]; rfl
  refine wpK_q (v := ?_) (a' := ?_) (by rfl) (fun w' hR => ?_) ?_ ?_
  rotate_left 2
  · go_simp; with_reducible rfl
  · simp only [Act.put, List.setIfInBounds_toArray, List.set_cons_zero, List.set_cons_succ]; rfl
  refine wpK_done ?_
  have HB5 := hid (Ext.trans _ _ _ (Ext.drew w) hb5)
  clear k0 k1 hw1 hw2 ho5 hb5
  go_wp2_with (go_at_call 108; refine (unless_no _ _).mono ?_; rintro e w6 ⟨rfl, rfl⟩)
  exact ⟨rfl, rfl, HB5.out⟩
end Go.Proofs.Ytoaeapnkefjpaaa
