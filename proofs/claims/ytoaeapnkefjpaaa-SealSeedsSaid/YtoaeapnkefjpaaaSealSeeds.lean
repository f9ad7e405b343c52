/-
  SealSeeds of layer 2 answers true for any two seeds and every slice of bytes, and leaves its arguments as they were.
  Conditions: none beyond the given row's. (The frame round the walk was written by the kit's proof-skeleton.)
-/
import Derived.Test.YtoaeapnkefjpaaaRows
import Derived.Test.YtoaeapnkefjpaaaSealC
import Derived.WalkKit
import Derived.ProofKit
import Derived.OpenShut
import Derived.ShutString
import Derived.ChangeOld
import Derived.Below
namespace Go.Proofs.Ytoaeapnkefjpaaa.sealSeeds
open Go.ChangeShapes Go.WideShapes Go.ChangeAt Go.RowKit
open Go.ChangeMaps (open_string shut_string)
set_option linter.unusedVariables false
set_option linter.unusedSimpArgs false

theorem own : ownKnob Try.prog.godebug = none := by kernel_rfl
theorem laidOut : laidOutB Try.prog = true := by kernel_rfl

/-- What the walk is told of a slice of integers that came in. -/
def IsRow (k : IntKind) (w : World) (a : Option Addr) (len cap : Nat) (zs : List Int) : Prop :=
  (a = none ∧ len = 0 ∧ cap = 0 ∧ zs = []) ∨
  ∃ x, a = some x ∧ len ≤ cap ∧ cap ≤ maxLen ∧ zs.length = cap ∧ (∀ i, i < zs.length → w.cell? (x.add i) = some (.int k (zs.getD i 0))) ∧ ∀ n ∈ zs, (Lit.int k n).wf = true

/-! ### The walk -/
theorem rest_tmod (x : Int) : (x.tmod 2147483647 - x) % 2147483647 = 0 := by
  have h : x.tmod 2147483647 = _ := Int.tmod_eq_emod
  split at h <;> omega
theorem like_iff (x y : Int) : ((x.tmod 2147483647 - y.tmod 2147483647).tmod 2147483647 = 0) ↔ Sum.rest x = Sum.rest y := by
  have hx := rest_tmod x
  have hy := rest_tmod y
  have h : (x.tmod 2147483647 - y.tmod 2147483647).tmod 2147483647 = _ := Int.tmod_eq_emod
  have h2 := (tmod_cases (x.tmod 2147483647 - y.tmod 2147483647))
  unfold Sum.rest
  generalize x.tmod 2147483647 = a at *
  generalize y.tmod 2147483647 = b at *
  generalize (a - b).tmod 2147483647 = c at *
  omega
theorem of_iff (x y : Int) (l : List UInt8) : (Sum.of x l = Sum.of y l) ↔ Sum.rest x = Sum.rest y := by
  constructor
  · intro h
    have h1 : Sum.hi (Sum.of x l) = Sum.hi (Sum.of y l) := by rw [h]
    unfold Sum.of at h1
    rw [Sum.hi_add, Sum.hi_add, Sum.hi_start, Sum.hi_start] at h1
    have a := Sum.rest_range x
    have b := Sum.rest_range y
    exact Sum.hash_inj257 l a.1 a.2 b.1 b.2 h1
  · intro h
    unfold Sum.of Sum.start
    rw [h]
set_option maxRecDepth 100000 in
set_option maxHeartbeats 1600000 in
theorem walk (a0 : Int) (a1 : Int) (a2 : Option Addr) (len2 cap2 : Nat) (z2 : List Int) (w : World) (w0 : (Lit.int .i64 a0).wf = true) (w1 : (Lit.int .i64 a1).wf = true) (w2 : IsRow .u8 w a2 len2 cap2 z2) :
    Calls Try.prog 7 #[.int .i64 a0, .int .i64 a1, .slice a2 len2 cap2] w fun e w' => e = .returned (.bool true) ∧ Below w.heap.size w w' := by
  obtain ⟨l, rfl, hv⟩ := sees_in w2
  have b0 := bounds_i64 w0
  have b1 := bounds_i64 w1
  have HV := hid hv
  obtain ⟨c1, c2, -⟩ := tmod_cases a0
  obtain ⟨d1, d2, -⟩ := tmod_cases a1
  clear hv w2 w0 w1
  by_cases hlen : l.length ≤ 16384
  · go_enter Try.func7, Try.ntmps7
    go_wp2_with (first | (go_at_call 23; refine (wakes2_any _).mono ?_; rintro e w1 ⟨rfl, hb⟩; have HB := hid hb; have HV1 := hid (HV.out.below hb); clear hb HV) | (go_at_call_of 28 (Value.int .i64 a0); refine (of_any a0 b0.1 b0.2 _ l _ HV1.out).mono ?_; rintro e w' ⟨rfl, rfl⟩) | (go_at_call 28; refine (of_any a1 b1.1 b1.2 _ l _ HV1.out).mono ?_; rintro e w' ⟨rfl, rfl⟩))
    go_ret
    refine ⟨?_, HB.out⟩
    show Ending.returned (.bool ((Sum.of a0 l == Sum.of a1 l) == ((a0.tmod 2147483647 - a1.tmod 2147483647).tmod 2147483647 == 0))) = _
    have h1 := like_iff a0 a1
    have h2 := of_iff a0 a1 l
    by_cases h : Sum.rest a0 = Sum.rest a1
    · rw [beq_iff_eq.2 (h2.2 h), beq_iff_eq.2 (h1.2 h)]; rfl
    · rw [beq_eq_false_iff_ne.2 (fun e => h (h2.1 e)), beq_eq_false_iff_ne.2 (fun e => h (h1.1 e))]; rfl
  · go_enter Try.func7, Try.ntmps7
    go_wp2_with (go_at_call 23; refine (wakes2_any _).mono ?_; rintro e w1 ⟨rfl, hb⟩; have HB := hid hb; clear hb)
    go_ret
    exact ⟨rfl, HB.out⟩

/-! ### The row -/
set_option maxRecDepth 100000 in
theorem lifted (os : Os) (started : os.Started) (H : Type) (enc : TypeId × Value → H) :
    ReturnsInHanded {} Try.checked os 7 .any (Rows.sealSeedsSpec.pre6 enc Try.prog Try.f7 Rows.sealSeedsRow.domain false) (Rows.sealSeedsSpec.post enc Try.prog Try.f7 false true false false) := by
  refine returnsInHanded_of_change (C := Try.checked) own started (by kernel_rfl) Try.func7
    (ChangeSpec.witness6 (enc := enc) (C := Try.checked) false ⟨#[], #[.int .i64 0, .int .i64 0, .slice none 0 0], []⟩ 8 (by kernel_rfl) (by kernel_rfl) (by kernel_rfl) (by kernel_rfl)) ?_
  intro W base args ds gs before hval0 hW hcnd _
  have hval : ∀ (j : Nat) t v, Try.f7.params[j]? = some t → args[j]? = some v → Value.okWide Try.prog W .any base t v := hval0
  have hW' := hW
  obtain ⟨p, q, hA0, hV, rfl, hfz, hnd⟩ := hW
  have hA : DataW.TrodAll enc Try.prog W 0 (fun _ => true) true Try.f7.params.toList args.toList ds p := hA0
  rw [Try.params7] at hA hval
  obtain ⟨v0, vs0, d0, ds0, p0, q0, hargs, rfl, rfl, h0, r0⟩ := trodAll_cons hA
  obtain ⟨v1, vs1, d1, ds1, p1, q1, rfl, rfl, rfl, h1, r1⟩ := trodAll_cons r0
  obtain ⟨v2, vs2, d2, ds2, p2, q2, rfl, rfl, rfl, h2, r2⟩ := trodAll_cons r1
  obtain ⟨rfl, rfl, rfl⟩ := trodAll_nil r2
  obtain rfl : args = #[v0, v1, v2] := by cases args; simp_all
  obtain ⟨rfl, rfl⟩ := trodVars_none hV
  obtain ⟨a0, rfl, rfl, rfl, w0⟩ := open_int Try.underlying3 (hval 0 3 v0 rfl rfl) h0
  obtain ⟨a1, rfl, rfl, rfl, w1⟩ := open_int Try.underlying3 (hval 1 3 v1 rfl rfl) h1
  obtain ⟨a2, len2, cap2, rfl⟩ := okWide_slice Try.underlying23 (hval 2 23 v2 rfl rfl)
  have k2 := h2
  have lt2 : ∀ x ∈ p2, x.block < W.heap.size := by obtain ⟨m, hm⟩ := k2; exact DataW.trod_lt m _ _ _ hm
  obtain ⟨z2, w2⟩ : ∃ zs, IsRow .u8 W a2 len2 cap2 zs := by
    obtain ⟨fuel, hf⟩ := h2
    rcases open_ints Try.underlying23 Try.underlying5 (by kernel_rfl) hf with ⟨hcs, _⟩ | ⟨x, l, c, zs, hcs, _, hl, hm, hz, _, hcell, hwz⟩
    · simp [Value.cells] at hcs
      obtain ⟨rfl, rfl, rfl⟩ := hcs
      exact ⟨[], .inl ⟨rfl, rfl, rfl, rfl⟩⟩
    · simp [Value.cells] at hcs
      obtain ⟨rfl, rfl, rfl⟩ := hcs
      exact ⟨zs, .inr ⟨_, rfl, hl, hm, by simpa using hz, hcell, hwz⟩⟩
  clear hA0 hval0
  refine (walk a0 a1 a2 len2 cap2 z2 W w0 w1 w2).mono fun e W' ⟨he, bel⟩ => ?_
  subst he
  exact ⟨_, rfl, _, _, _, [], _, [], hW', trodAll_mk1 (shut_bool Try.underlying4 _), (trodAll_cons_mk (shut_int Try.underlying3 w0) (trodAll_cons_mk (shut_int Try.underlying3 w1) (trodAll_cons_mk (Below.trod laidOut (by kernel_rfl) (of_decide_eq_true (by kernel_rfl)) k2 bel lt2) trodAll_mk0))), rfl, bel.frame _, fun h => by cases h⟩

theorem over : Rows.sealSeedsRow.holds Try.pinned (OpenSpec.ofChange Rows.sealSeedsSpec) :=
  OpenClaim.holds_of_wide 7 Try.f7 rfl rfl rfl rfl rfl rfl rfl ⟨rfl, rfl, rfl, rfl, rfl⟩ rfl rfl rfl rfl rfl (by kernel_rfl) Try.func7 (by kernel_rfl)
    (of_decide_eq_true (by kernel_rfl)) (by unfold Func.isWrapper; first | (rw [if_pos (by decide +kernel)]; kernel_rfl) | (rw [if_neg (by decide +kernel)]; exact ⟨rfl, rfl⟩))
    (fun os started H enc _ => lifted os started H enc)

/-- The statement. -/
theorem proved : Rows.SealSeedsSaid := over
#print axioms proved
end Go.Proofs.Ytoaeapnkefjpaaa.sealSeeds
namespace Go.Proofs.Ytoaeapnkefjpaaa
theorem sealSeeds_holds : Rows.SealSeedsSaid := sealSeeds.proved
end Go.Proofs.Ytoaeapnkefjpaaa
