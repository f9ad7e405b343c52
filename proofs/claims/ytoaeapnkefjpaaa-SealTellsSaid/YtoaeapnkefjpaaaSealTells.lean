/-
  SealTells of layer 2 answers true for every seed, every slice of bytes and every place, and leaves its arguments as they were.
  Conditions: none beyond the given row's. (The frame round the walk was written by the kit's proof-skeleton.)
-/
import Derived.Test.YtoaeapnkefjpaaaRows
import Derived.Test.YtoaeapnkefjpaaaSealC
import Derived.Test.YtoaeapnkefjpaaaMem2
import Derived.WalkKit
import Derived.ProofKit
import Derived.OpenShut
import Derived.ShutString
import Derived.ChangeOld
import Derived.Below
namespace Go.Proofs.Ytoaeapnkefjpaaa.sealTells
open Go.ChangeShapes Go.WideShapes Go.ChangeAt Go.RowKit
open Go.ChangeMaps (open_string shut_string)
set_option linter.unusedVariables false
set_option linter.unusedSimpArgs false

theorem own : ownKnob Try.prog.godebug = none := by kernel_rfl
theorem laidOut : laidOutB Try.prog = true := by kernel_rfl

/-- What the walk is told of a slice of integers that came in. -/
def IsRow (k : IntKind) (w : World) (a : Option Addr) (len cap : Nat) (zs : List Int) : Prop :=
  (a = none ∧ len = 0 ∧ cap = 0 ∧ zs = []) ∨
  ∃ x, a = some x ∧ len ≤ cap ∧ cap ≤ maxLen ∧ zs.length = cap ∧ (∀ i, i < zs.length → w.cell? (x.add i) = some (.int k (zs.getD i 0))) ∧ ∀ n ∈ zs, (Lit.int k n).wf = true

/-! ### The walk -/
theorem tells_half (s : Int) (l : List UInt8) (i : Nat) (hi : i < l.length) (y : UInt8) (hy : y ≠ l[i]) :
    (Sum.of s (l.set i y) / 2147483648 == Sum.of s l / 2147483648) = false ∧ (Go.bits .and .u64 (Sum.of s (l.set i y)) 2147483647 == Go.bits .and .u64 (Sum.of s l) 2147483647) = false := by
  have r1 := Sum.add_range (Sum.start s) (l.set i y)
  have r2 := Sum.add_range (Sum.start s) l
  rw [Sum.and31 _ (show 0 ≤ Sum.of s (l.set i y) from r1.1) (by have := r1.2; unfold Sum.of; omega), Sum.and31 _ (show 0 ≤ Sum.of s l from r2.1) (by have := r2.2; unfold Sum.of; omega)]
  have e1 : l.set i y = l.take i ++ y :: l.drop (i + 1) := by rw [List.set_eq_take_append_cons_drop, if_pos hi]
  have e2 : l.take i ++ l[i] :: l.drop (i + 1) = l := by rw [List.getElem_cons_drop, List.take_append_drop]
  have a := Sum.hi_range (Sum.start s)
  have b := Sum.lo_range (Sum.start s)
  have n1 := Sum.tells257 _ a.1 a.2 (l.take i) (l.drop (i + 1)) y l[i] hy
  have n2 := Sum.tellsR (Sum.lo (Sum.start s)) (l.take i) (l.drop (i + 1)) y l[i] hy
  rw [← e1, e2] at n1 n2
  have p1 := Sum.hash_range 65599 (l.set i y) _ b.1 b.2
  have p2 := Sum.hash_range 65599 l _ b.1 b.2
  constructor
  · rw [beq_eq_false_iff_ne]
    intro h
    refine n1 ?_
    unfold Sum.of Sum.add Sum.fin at h
    omega
  · rw [beq_eq_false_iff_ne]
    intro h
    refine n2 ?_
    unfold Sum.of Sum.add Sum.fin at h
    omega
theorem byte_sum (x : UInt8) (c : Int) (h1 : 1 ≤ c) (h2 : c < 256) : ∃ y : UInt8, y ≠ x ∧ (y.toNat : Int) = ((x.toNat : Int) + c) % 256 := by
  have hx := x.toNat_lt
  have e : ((UInt8.ofNat (((x.toNat : Int) + c) % 256).toNat).toNat : Int) = ((x.toNat : Int) + c) % 256 := by
    rw [UInt8.toNat_ofNat_of_lt' (by simp [UInt8.size]; omega)]; omega
  refine ⟨_, fun h => ?_, e⟩
  have h3 : ((UInt8.ofNat (((x.toNat : Int) + c) % 256).toNat).toNat : Int) = x.toNat := by rw [h]
  rw [e] at h3
  omega
set_option maxRecDepth 100000 in
set_option maxHeartbeats 1600000 in
theorem walk (a0 : Int) (a1 : Option Addr) (len1 cap1 : Nat) (z1 : List Int) (a2 : Int) (w : World) (w0 : (Lit.int .i64 a0).wf = true) (w1 : IsRow .u8 w a1 len1 cap1 z1) (w2 : (Lit.int .i64 a2).wf = true) :
    Calls Try.prog 5 #[.int .i64 a0, .slice a1 len1 cap1, .int .i64 a2] w fun e w' => e = .returned (.bool true) ∧ Below w.heap.size w w' := by
  obtain ⟨l, rfl, hv⟩ := sees_in w1
  have b0 := bounds_i64 w0
  have b2 := bounds_i64 w2
  have HV := hid hv
  clear hv w0 w1 w2
  by_cases hlen : l.length ≤ 4096
  case neg =>
    go_enter Try.func5, Try.ntmps5
    go_wp2_with (go_at_call 23; refine (wakes2_any _).mono ?_; rintro e w1 ⟨rfl, hb⟩; have HB := hid hb; clear hb)
    go_ret
    exact ⟨rfl, HB.out⟩
  by_cases hneg : a2 < 0
  · go_enter Try.func5, Try.ntmps5
    go_wp2_with (go_at_call 23; refine (wakes2_any _).mono ?_; rintro e w1 ⟨rfl, hb⟩; have HB := hid hb; clear hb)
    go_ret
    exact ⟨rfl, HB.out⟩
  by_cases hbig : (l.length : Int) ≤ a2
  · go_enter Try.func5, Try.ntmps5
    go_wp2_with (go_at_call 23; refine (wakes2_any _).mono ?_; rintro e w1 ⟨rfl, hb⟩; have HB := hid hb; clear hb)
    go_ret
    exact ⟨rfl, HB.out⟩
  obtain ⟨i, rfl⟩ : ∃ i : Nat, a2 = i := ⟨a2.toNat, by omega⟩
  have hi : i < l.length := by omega
  clear hneg hbig b2
  rcases HV.out.open with ⟨h0, _⟩ | ⟨g, off, cap, hp, hvv, hlc, hcap, hc⟩
  · rw [h0] at hi; simp at hi
  simp only [Value.slice.injEq] at hvv
  obtain ⟨rfl, -, rfl⟩ := hvv
  have hx := hc i _ (List.getElem?_eq_getElem hi)
  have bx := byte_bd l[i]
  have H0 := hid hc
  have HX := hid hx
  clear hc hx
  unfold maxLen at hcap
  go_enter Try.func5, Try.ntmps5
  go_wp2_with (first | (go_at_call 23; refine (wakes2_any _).mono ?_; rintro e w1 ⟨rfl, hb⟩; have HB := hid hb; have HV1 := hid (HV.out.below hb); have HX1 := hid ((hb.cell (p := ⟨g, off + i, none⟩) (block_lt_of_cell HX.out)).trans HX.out); clear hb HV HX) | (go_at_call 28; refine (of_any a0 b0.1 b0.2 _ l _ HV1.out).mono ?_; rintro e w' ⟨rfl, rfl⟩) | (at_builtin; refine wpList_app rfl (.tmp 29) (.tmp 30) 23 rfl w1.heap.size 5 (.int .u8 0) 1 1 Try.underlying23 info5 rfl (by decide) 0 [] l.length (l.map B) ?own ?src ?h63 ?hb (by simp) ?_))
  case own => exact World.ownsRow_made w1 #[] 0 (Nat.le_refl _) (Nat.zero_le _) rfl
  case src => exact HV1.out.src.keep (fun k _ hk => Below.heap_alloc w1 _ k hk)
  case h63 => unfold maxLen; omega
  case hb => omega
  intro v1 w2 hown hgrow hat
  obtain ⟨gm, cm, rfl, hm1, hm2, hm3, hm4⟩ := own_slice hown (by omega)
  have hb2 : Below w1.heap.size w1 w2 := ((Below.refl _ _).alloc (Nat.le_refl _) _).grown hgrow (by simp) (fun k hk => by cases hk; exact Nat.le_refl _)
  have HB2 := hid (HB.out.trans (hb2.mono HB.out.size))
  have hgm : w.heap.size ≤ gm := Nat.le_trans HB.out.size hm3
  have hgg : g < w1.heap.size := block_lt_of_cell HX1.out
  have HX2 := hid ((hb2.cell (p := ⟨g, off + i, none⟩) hgg).trans HX1.out)
  have hne : g ≠ gm := by omega
  have HO := hid hown
  clear hown hgrow hat hb2 HX1 HV1 HB
  go_wp2
  go_loopw [9] (fun d wr => ∃ (c : Int) (y : UInt8), 1 ≤ c ∧ c ≤ 1000 ∧ d = .int .i64 c ∧ Hid (wr.ownsRow w1.heap.size 5 1 (.slice (some ⟨gm, 0, none⟩) l.length cm) l.length ((l.set i y).map B)) ∧ Hid (Below w.heap.size w wr) ∧ Hid (wr.cell? ⟨g, off + i, none⟩ = some (.int .u8 (l[i].toNat : Int)))) (fun d _ => (256 - intOf d).toNat)
  case atStart => exact ⟨1, l[i], by omega, by omega, rfl, hid (by rw [List.set_getElem_self]; simpa using HO.out), HB2, HX2⟩
  case round =>
    obtain ⟨c, y, hc1, hc2, rfl, hO, hB, hX⟩ := hrel
    by_cases hlt : c < 256
    · obtain ⟨y', hy1, hy2⟩ := byte_sum l[i] c hc1 hlt
      have hcell := own_cell hO.out (i := i) (u := B y) (by simp [hi])
      have hfr := own_frozen hO.out i
      have hO' := own_set hO.out hi (B y')
      have hxx := hX.out
      obtain ⟨t1, t2⟩ := tells_half a0 l i hi y' hy1
      have HY := hid hy2
      have HT1 := hid t1
      have HT2 := hid t2
      have HO' := hid hO'
      have hcc := (show wr.cell? ⟨gm, i, none⟩ = some (.int .u8 (y.toNat : Int)) from hcell)
      clear hy2 t1 t2 hO' hcell HO HX2
      have hO2 : (wr.setCell ⟨gm, i, none⟩ (.int .u8 (y'.toNat : Int))).ownsRow w1.heap.size 5 1 (.slice (some ⟨gm, 0, none⟩) l.length cm) (l.set i y').length ((l.set i y').map B) := own_len HO'.out (by simp) (by simp [List.map_set])
      have HO2 := hid hO2
      clear hO2
      go_wp2_with fail
      rw [← HY.out]
      refine (of_any a0 b0.1 b0.2 _ (l.set i y') _ (own_sees HO2.out)).mono ?_
      rintro e w' ⟨rfl, rfl⟩
      have T1 := HT1.out
      have T2 := HT2.out
      go_wp2
      go_roundw
      case rel => exact ⟨_, y', by omega, by omega, rfl, hid (own_len HO'.out rfl (by simp [List.map_set])), hid (hB.out.setCell (p := ⟨gm, i, none⟩) hgm _), hid ((World.cell?_of_block (w := wr) (heap_setCell_other wr _ _ _ hne)).trans hX.out)⟩
      case measure => simp [intOf]; omega
    · go_wp2
      go_ret
      exact ⟨rfl, hB.out⟩

/-! ### The row -/
set_option maxRecDepth 100000 in
theorem lifted (os : Os) (started : os.Started) (H : Type) (enc : TypeId × Value → H) :
    ReturnsInHanded {} Try.checked os 5 .any (Rows.sealTellsSpec.pre6 enc Try.prog Try.f5 Rows.sealTellsRow.domain false) (Rows.sealTellsSpec.post enc Try.prog Try.f5 false true false false) := by
  refine returnsInHanded_of_change (C := Try.checked) own started (by kernel_rfl) Try.func5
    (ChangeSpec.witness6 (enc := enc) (C := Try.checked) false ⟨#[], #[.int .i64 0, .slice none 0 0, .int .i64 0], []⟩ 8 (by kernel_rfl) (by kernel_rfl) (by kernel_rfl) (by kernel_rfl)) ?_
  intro W base args ds gs before hval0 hW hcnd _
  have hval : ∀ (j : Nat) t v, Try.f5.params[j]? = some t → args[j]? = some v → Value.okWide Try.prog W .any base t v := hval0
  have hW' := hW
  obtain ⟨p, q, hA0, hV, rfl, hfz, hnd⟩ := hW
  have hA : DataW.TrodAll enc Try.prog W 0 (fun _ => true) true Try.f5.params.toList args.toList ds p := hA0
  rw [Try.params5] at hA hval
  obtain ⟨v0, vs0, d0, ds0, p0, q0, hargs, rfl, rfl, h0, r0⟩ := trodAll_cons hA
  obtain ⟨v1, vs1, d1, ds1, p1, q1, rfl, rfl, rfl, h1, r1⟩ := trodAll_cons r0
  obtain ⟨v2, vs2, d2, ds2, p2, q2, rfl, rfl, rfl, h2, r2⟩ := trodAll_cons r1
  obtain ⟨rfl, rfl, rfl⟩ := trodAll_nil r2
  obtain rfl : args = #[v0, v1, v2] := by cases args; simp_all
  obtain ⟨rfl, rfl⟩ := trodVars_none hV
  obtain ⟨a0, rfl, rfl, rfl, w0⟩ := open_int Try.underlying3 (hval 0 3 v0 rfl rfl) h0
  obtain ⟨a1, len1, cap1, rfl⟩ := okWide_slice Try.underlying23 (hval 1 23 v1 rfl rfl)
  have k1 := h1
  have lt1 : ∀ x ∈ p1, x.block < W.heap.size := by obtain ⟨m, hm⟩ := k1; exact DataW.trod_lt m _ _ _ hm
  obtain ⟨z1, w1⟩ : ∃ zs, IsRow .u8 W a1 len1 cap1 zs := by
    obtain ⟨fuel, hf⟩ := h1
    rcases open_ints Try.underlying23 Try.underlying5 (by kernel_rfl) hf with ⟨hcs, _⟩ | ⟨x, l, c, zs, hcs, _, hl, hm, hz, _, hcell, hwz⟩
    · simp [Value.cells] at hcs
      obtain ⟨rfl, rfl, rfl⟩ := hcs
      exact ⟨[], .inl ⟨rfl, rfl, rfl, rfl⟩⟩
    · simp [Value.cells] at hcs
      obtain ⟨rfl, rfl, rfl⟩ := hcs
      exact ⟨zs, .inr ⟨_, rfl, hl, hm, by simpa using hz, hcell, hwz⟩⟩
  obtain ⟨a2, rfl, rfl, rfl, w2⟩ := open_int Try.underlying3 (hval 2 3 v2 rfl rfl) h2
  clear hA0 hval0
  refine (walk a0 a1 len1 cap1 z1 a2 W w0 w1 w2).mono fun e W' ⟨he, bel⟩ => ?_
  subst he
  exact ⟨_, rfl, _, _, _, [], _, [], hW', trodAll_mk1 (shut_bool Try.underlying4 _), (trodAll_cons_mk (shut_int Try.underlying3 w0) (trodAll_cons_mk (Below.trod laidOut (by kernel_rfl) (of_decide_eq_true (by kernel_rfl)) k1 bel lt1) (trodAll_cons_mk (shut_int Try.underlying3 w2) trodAll_mk0))), rfl, bel.frame _, fun h => by cases h⟩

theorem over : Rows.sealTellsRow.holds Try.pinned (OpenSpec.ofChange Rows.sealTellsSpec) :=
  OpenClaim.holds_of_wide 5 Try.f5 rfl rfl rfl rfl rfl rfl rfl ⟨rfl, rfl, rfl, rfl, rfl⟩ rfl rfl rfl rfl rfl (by kernel_rfl) Try.func5 (by kernel_rfl)
    (of_decide_eq_true (by kernel_rfl)) (by unfold Func.isWrapper; first | (rw [if_pos (by decide +kernel)]; kernel_rfl) | (rw [if_neg (by decide +kernel)]; exact ⟨rfl, rfl⟩))
    (fun os started H enc _ => lifted os started H enc)

/-- The statement. -/
theorem proved : Rows.SealTellsSaid := over
#print axioms proved
end Go.Proofs.Ytoaeapnkefjpaaa.sealTells
namespace Go.Proofs.Ytoaeapnkefjpaaa
theorem sealTells_holds : Rows.SealTellsSaid := sealTells.proved
end Go.Proofs.Ytoaeapnkefjpaaa
