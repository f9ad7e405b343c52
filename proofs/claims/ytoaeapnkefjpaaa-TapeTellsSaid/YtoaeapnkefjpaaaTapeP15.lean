/-
  THE PROGRAM'S TAPE, fifteenth file: Append, Clear, Count. Conditions: those that each contract names.
-/
import Derived.Test.YtoaeapnkefjpaaaTapeP14
import Derived.Test.YtoaeapnkefjpaaaDrumF
namespace Go.Proofs.Ytoaeapnkefjpaaa
open Go.RowKit
set_option linter.unusedVariables false
set_option linter.unusedSimpArgs false

theorem Done.back {w w1 : World} {t p n : Nat} {own0 : Nat → Prop} {X : Int × DS × TS} {e : Ending} {w' : World} (h : Done w1 t p n own0 X e w') (hb : Below w.heap.size w w1) : Done w t p n own0 X e w' := by
  obtain ⟨h1, h2, own', h3, h4, h5⟩ := h
  exact ⟨h1, h2, own', h3, fun k hk => (h4 k hk).imp id (fun h => Nat.le_trans hb.size h), (Mod.of_below _ hb).trans h5⟩
set_option maxRecDepth 100000 in
set_option maxHeartbeats 800000 in
theorem tappend_any (w : World) (t p : Nat) (own : Nat → Prop) (T : TS) (D : DS) (v : Value) (r : List UInt8) (h : TapeIn w t p D.safe.length T) (hd : DrumAt w p own D) (ht : ¬ own t) (hv : Sees w v r) (hN : D.waits.length ≤ 800000000) :
    Calls Try.prog 66 #[.pointer (some ⟨t, 0, none⟩), v] w (Done w t p D.safe.length own (TS.append D T r)) := by
  obtain ⟨b1, b2, b3, b4, b5, b6, b7⟩ := h.bd
  have same : ∀ (c : Int) (w1 : World), Below w.heap.size w w1 → Done w t p D.safe.length own (c, D, T) (.returned (I c)) w1 := fun c w1 hb => ⟨rfl, h.below hb, own, hd.below hb, fun k hk => .inl hk, Mod.of_below _ hb⟩
  obtain ⟨av, cv, rfl, hrl⟩ := hv.form0
  have c5 := h.c5
  have c3 := h.c3
  obtain ⟨Z, hZ⟩ : ∃ Z, Z = TS.append D T r := ⟨_, rfl⟩
  rw [← hZ]
  have HZ := hid hZ
  have SAME := hid same
  have H := hid h
  have HD := hid hd
  have HT := hid ht
  have HV := hid hv
  clear hZ same h hd ht hv b7
  by_cases h1 : 65536 < r.length
  · have h1' : decide ((r.length : Int) > 65536) = true := decide_eq_true (by omega)
    have h1'' : decide ((65536 : Int) < (r.length : Int)) = true := decide_eq_true (by omega)
    have hz : Z = (3, D, T) := by rw [HZ.out]; unfold TS.append; rw [if_pos h1]
    clear HZ
    go_enter Try.func66, Try.ntmps66
    go_wp2_with fail
    go_ret
    rw [hz]
    exact SAME.out 3 w (Below.refl _ _)
  · have h1' : decide ((65536 : Int) < (r.length : Int)) = false := decide_eq_false (by omega)
    by_cases h2 : T.sick = 0
    rotate_left
    · have h2b : (T.sick == 0) = false := by simpa using h2
      have hz : Z = (T.sick, D, T) := by rw [HZ.out]; unfold TS.append; rw [if_neg h1, if_pos h2]
      clear HZ h2
      go_enter Try.func66, Try.ntmps66
      go_wp2_with fail
      go_ret
      rw [hz]
      exact SAME.out T.sick w (Below.refl _ _)
    have h2b : (T.sick == 0) = true := by simpa using h2
    have hw1 : IntKind.i64.wrap ((T.pos : Int) + 12) = (T.pos : Int) + 12 := IntWalk.i64_in _ (by omega)
    have hw2 : IntKind.i64.wrap ((T.pos : Int) + 12 + (r.length : Int)) = (T.pos : Int) + 12 + (r.length : Int) := IntWalk.i64_in _ (by omega)
    have HBB := hid (fun m => below_drewN w m)
    by_cases h3 : T.size < T.pos + 12 + r.length
    · have h3' : decide ((T.size : Int) < (T.pos : Int) + 12 + (r.length : Int)) = true := decide_eq_true (by omega)
      have hz : Z = (22, D, T) := by rw [HZ.out]; unfold TS.append; rw [if_neg h1, if_neg (by simp [h2]), if_pos h3]
      rw [h2] at c5
      clear HZ h2
      go_enter Try.func66, Try.ntmps66
      go_wp2_with fail
      go_quiet ((go_at_call 98; exact Calls.quiet_of (size_any _ t p _ T (H.out.keep rfl))))
      go_wp2_with fail
      go_ret
      rw [hz]
      exact SAME.out 22 _ (HBB.out _)
    · have h3' : decide ((T.size : Int) < (T.pos : Int) + 12 + (r.length : Int)) = false := decide_eq_false (by omega)
      have hz : Z = TS.doIt D T r := by rw [HZ.out]; unfold TS.append; rw [if_neg h1, if_neg (by simp [h2]), if_neg h3]
      have HZ2 := hid hz
      rw [h2] at c5
      clear HZ h2 hz
      go_enter Try.func66, Try.ntmps66
      go_wp2_with fail
      go_quiet ((go_at_call 98; exact Calls.quiet_of (size_any _ t p _ T (H.out.keep rfl))))
      have hb := HBB.out nq
      have hdo := tdo_any (w.drewN nq) t p own T D _ r (H.out.below hb) (HD.out.below hb) HT.out (HV.out.below hb) (by omega) (by omega) hN
      have HDO := hid hdo
      have HB := hid hb
      clear hdo hb HBB
      go_wp2_with (go_at_call 99; refine HDO.out.mono ?_; rintro e w1 ⟨rfl, hh⟩; have HH := hid hh; clear hh)
      go_ret
      rw [HZ2.out]
      exact Done.back ⟨rfl, HH.out⟩ HB.out
theorem tcount_any (w : World) (t p n : Nat) (T : TS) (h : TapeIn w t p n T) : Calls Try.prog 74 #[.pointer (some ⟨t, 0, none⟩)] w fun e w' => e = .returned (I T.count) ∧ w = w' := by
  have c4 := h.c4
  clear h
  go_enter Try.func74, Try.ntmps74
  go_wp2
  go_ret
  exact ⟨rfl, rfl⟩
theorem tcount_nil (w : World) : Calls Try.prog 74 #[.pointer none] w fun e w' => e = .returned (I 0) ∧ w = w' := by
  go_enter Try.func74, Try.ntmps74
  go_wp2
  go_ret
  exact ⟨rfl, rfl⟩
theorem tappend_nil (w : World) (v : Value) : Calls Try.prog 66 #[.pointer none, v] w fun e w' => e = .returned (I 2) ∧ w = w' := by
  go_enter Try.func66, Try.ntmps66
  go_wp2
  go_ret
  exact ⟨rfl, rfl⟩
theorem page0_len : page0.length = 256 := List.length_replicate
/-- A page of noughts, just made. -/
theorem run_page0 (w : World) : ∀ ty : TypeId, ty = 23 → (Instr.makeSlice 23 (.int .i64 256) (.int .i64 256)).run Try.prog w = .ok (.slice (some ⟨w.heap.size, 0, none⟩) 256 256) (w.alloc (.cells (page0.map B).toArray 5)) := by
  intro ty hty
  obtain ⟨i5, hi, hz, hs, hb⟩ := info_parts info5'
  have hmk := run_makeSlice (P := Try.prog) w 23 5 i5 _ Try.underlying23 hi hz .i64 .i64 256 256 (by omega) (by omega) (by rw [hs]; decide) (by rw [hb]; decide) (by omega)
  rw [hs] at hmk
  have hcells : madeCells (Value.int .u8 0).cells ((256 : Int).toNat * 1) = (page0.map B).toArray := by kernel_rfl
  rw [hcells] at hmk
  exact hmk
theorem own_page0 (w : World) : (w.alloc (.cells (page0.map B).toArray 5)).ownsRow w.heap.size 5 1 (.slice (some ⟨w.heap.size, 0, none⟩) 256 256) 256 (page0.map B) := by
  refine ⟨by rw [List.length_map, page0_len], .inr ⟨w.heap.size, 256, _, rfl, Nat.le_refl _, heap_alloc_new w _, Nat.le_refl _, by unfold maxLen; omega, by rw [List.size_toArray, List.length_map, page0_len], ?_⟩⟩
  rw [List.take_of_length_le (by rw [List.length_map, page0_len]; omega)]
theorem Drummed'.back {own : Nat → Prop} {p : Nat} {w w1 w' : World} {D : DS} (h : Drummed' own p w1 D w') (hb : Below w.heap.size w w1) : Drummed' own p w D w' := by
  obtain ⟨own', h1, h2, h3⟩ := h
  exact ⟨own', h1, fun k hk => (h2 k hk).imp id (fun h => Nat.le_trans hb.size h), (Mod.of_below _ hb).trans h3⟩
theorem tclear_any (w : World) (p : Nat) (own : Nat → Prop) (D : DS) (lo : Int) (hd : DrumAt w p own D) (hlo : -9223372036854775808 ≤ lo ∧ lo ≤ 9223372036854775807) (hN : D.waits.length ≤ 800000000) :
    Calls Try.prog 68 #[.pointer (some ⟨p, 0, none⟩), I lo] w fun e w' => e = .returned (I (D.write lo page0).1) ∧ Drummed' own p w (D.write lo page0).2 w' := by
  have hmk := run_page0 w 23 rfl
  have hb : Below w.heap.size w (w.alloc (.cells (page0.map B).toArray 5)) := (Below.refl _ _).alloc (Nat.le_refl _) _
  have hwr := write_any (w.alloc (.cells (page0.map B).toArray 5)) p own D lo _ page0 (hd.below hb) (own_sees' (own_page0 w) page0_len) hlo (fun k hk ho => by have h1 := hd.lt k ho; have h3 : w.heap.size = k := Option.some.inj hk; omega) (by omega)
  have HWR := hid (hwr.mono fun e w' h => And.intro h.1 (Drummed'.back h.2 hb))
  generalize w.alloc (.cells (page0.map B).toArray 5) = w1 at *
  clear hb hwr hd
  go_enter Try.func68, Try.ntmps68
  go_wp2_with (go_at_call 50; refine HWR.out.mono ?_; rintro e w2 ⟨rfl, hh⟩; have HH := hid hh; clear hh)
  go_ret
  exact ⟨rfl, HH.out⟩
end Go.Proofs.Ytoaeapnkefjpaaa
