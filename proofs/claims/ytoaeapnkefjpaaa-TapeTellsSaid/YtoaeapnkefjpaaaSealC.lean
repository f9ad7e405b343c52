/-
  THE WALK of trivetlaw02.wakes: it answers true, and nothing that was there has changed. Conditions: none.
-/
import Derived.Test.YtoaeapnkefjpaaaSealB
import Derived.Lib.SlBytesConst
import Derived.Deep.RegionHeld3
import Derived.Deep.QuietTactic
import Derived.BigQuiet
namespace Go.Proofs.Ytoaeapnkefjpaaa
open Go.RowKit
set_option linter.unusedVariables false
set_option linter.unusedSimpArgs false

theorem Fresh.mono' {w : World} {l : List UInt8} {R : Ending → World → Prop} (h : ∀ v w', w'.ownsRow w.heap.size 5 1 v l.length (l.map B) → Below w.heap.size w w' → R (.returned v) w') : ∀ e w', Fresh w l e w' → R e w' := by
  rintro e w' ⟨v, rfl, h1, h2⟩
  exact h v w' h1 h2
theorem start0 (w : World) : Calls Try.prog 24 #[.int .i64 0] w fun e w' => e = .returned (.int .u64 1) ∧ w = w' :=
  (start_any 0 w (by omega) (by omega)).mono fun e w' ⟨h, k⟩ => ⟨h.trans (ret_int (by decide)), k⟩
theorem of97 (w : World) (v : Value) (hv : Sees w v [97]) : Calls Try.prog 28 #[.int .i64 0, v] w fun e w' => e = .returned (.int .u64 210453463201) ∧ w = w' :=
  (of_any 0 (by omega) (by omega) v [97] w hv).mono fun e w' ⟨h, k⟩ => ⟨h.trans (ret_int (by decide)), k⟩
theorem put0 (w : World) : Calls Try.prog 30 #[.slice none 0 0, .int .u64 210453463201] w (Fresh w [0, 0, 0, 49, 0, 1, 0, 161]) := by
  have h := put_any (.slice none 0 0) [] 210453463201 (by omega) (by omega) w (Sees.nil w) (by simp)
  have e : [] ++ Sum.be8 210453463201 = [0, 0, 0, 49, 0, 1, 0, 161] := by decide
  rw [e] at h
  exact h
/-- Bytes of a text's constant, just laid. -/
theorem Sees.lit (w : World) (l : List UInt8) (fr : Nat × Nat) (hl : l.length ≤ maxLen) : Sees (w.alloc (.cells (l.map B).toArray 5 fr)) (.slice (some ⟨w.heap.size, 0, none⟩) l.length l.length) l := by
  refine ⟨_, _, rfl, Nat.le_refl _, hl, fun _ => ⟨_, 0, rfl, fun i c hi => ?_⟩⟩
  rw [cell_of_row _ _ _ _ _ fr (heap_alloc_new w _), Nat.zero_add]
  simp [hi]
set_option maxRecDepth 100000 in
set_option maxHeartbeats 800000 in
theorem wakes2_any (w : World) : Calls Try.prog 23 #[] w fun e w' => e = .returned (.bool true) ∧ Below w.heap.size w w' := by
  have e1 := str_toList [0, 0, 0, 49, 0, 1, 0, 161]
  have E1 := hid e1
  clear e1
  have k23 := fun (w : World) (C : Array Value) (n c : Nat) => Lib.run_convert_bytes_const (P := Try.prog) w 23 5 C n c Try.underlying23 Try.underlying5
  go_enter Try.func23, Try.ntmps23
  go_wp2_with (first | (go_at_call 24; refine (start0 _).mono ?_; rintro e w' ⟨rfl, rfl⟩) | (go_at_call 28; refine (of97 _ _ (Sees.lit _ [97] _ (by simp [maxLen]))).mono ?_; rintro e w' ⟨rfl, rfl⟩) | (go_at_call 30; refine (put0 _).mono ?_; rintro e w' ⟨v, rfl, ho, hb⟩; have HO := hid ho; have HB := hid hb; clear ho hb) | (with_reducible refine wpList_str 11 rfl 23 9 (.tmp 10) rfl ?hw 5 Try.underlying23 Try.underlying5 Try.underlying9 [0, 0, 0, 49, 0, 1, 0, 161] ?hv ?_))
  case hv => exact own_sees HO.out
  go_ret
  refine ⟨?_, ?_⟩
  · show Ending.returned (.bool ((str [0, 0, 0, 49, 0, 1, 0, 161]).toList == [0, 0, 0, 49, 0, 1, 0, 161])) = _
    rw [E1.out]
    rfl
  · exact ((Below.refl _ _).alloc (Nat.le_refl _) _).trans (HB.out.mono (by simp))
end Go.Proofs.Ytoaeapnkefjpaaa
