/-
  SealTurns of layer 2 answers true for every seed, every slice of bytes and every place, and leaves its arguments as they were.
  Conditions: none beyond the given row's. (The frame round the walk was written by the kit's proof-skeleton.)
-/
import Derived.Test.YtoaeapnkefjpaaaRows
import Derived.Test.YtoaeapnkefjpaaaSealC
import Derived.Test.YtoaeapnkefjpaaaMem2
import Derived.WalkKit
import Derived.ProofKit
import Derived.OpenShut
import Derived.ShutString
import Derived.ChangeOld
import Derived.Below
namespace Go.Proofs.Ytoaeapnkefjpaaa.sealTurns
open Go.ChangeShapes Go.WideShapes Go.ChangeAt Go.RowKit
open Go.ChangeMaps (open_string shut_string)
set_option linter.unusedVariables false
set_option linter.unusedSimpArgs false

theorem own : ownKnob Try.prog.godebug = none := by kernel_rfl
theorem laidOut : laidOutB Try.prog = true := by kernel_rfl

/-- What the walk is told of a slice of integers that came in. -/
def IsRow (k : IntKind) (w : World) (a : Option Addr) (len cap : Nat) (zs : List Int) : Prop :=
  (a = none ∧ len = 0 ∧ cap = 0 ∧ zs = []) ∨
  ∃ x, a = some x ∧ len ≤ cap ∧ cap ≤ maxLen ∧ zs.length = cap ∧ (∀ i, i < zs.length → w.cell? (x.add i) = some (.int k (zs.getD i 0))) ∧ ∀ n ∈ zs, (Lit.int k n).wf = true

/-! ### The walk -/
theorem turned (l : List UInt8) (i : Nat) (hi : i + 1 < l.length) : l = l.take i ++ l[i] :: l[i + 1] :: l.drop (i + 2) ∧ (l.set i l[i + 1]).set (i + 1) l[i] = l.take i ++ l[i + 1] :: l[i] :: l.drop (i + 2) := by
  have e2 : l.take i ++ l[i] :: l[i + 1] :: l.drop (i + 2) = l := by rw [List.getElem_cons_drop, List.getElem_cons_drop, List.take_append_drop]
  refine ⟨e2.symm, ?_⟩
  apply List.ext_getElem?
  intro j
  simp only [List.getElem?_set, List.getElem?_append, List.length_take, List.length_set]
  have hm : min i l.length = i := by omega
  rw [hm]
  by_cases h1 : j < i
  · rw [if_neg (by omega), if_neg (by omega), if_pos h1, List.getElem?_take, if_pos h1]
  · rw [if_neg h1]
    by_cases h2 : j = i
    · subst h2; simp; omega
    · by_cases h3 : j = i + 1
      · subst h3; simp [show i + 1 - i = 1 from by omega]; omega
      · rw [if_neg (by omega), if_neg (by omega)]
        obtain ⟨m, rfl⟩ : ∃ m, j = i + 2 + m := ⟨j - (i + 2), by omega⟩
        rw [show i + 2 + m - i = m + 1 + 1 from by omega]
        simp [List.getElem?_drop]
theorem turns_iff (s : Int) (l : List UInt8) (i : Nat) (hi : i + 1 < l.length) : ((Sum.of s ((l.set i l[i + 1]).set (i + 1) l[i]) == Sum.of s l) == ((l[i].toNat : Int) == (l[i + 1].toNat : Int))) = true := by
  obtain ⟨e1, e2⟩ := turned l i hi
  have a := Sum.hi_range (Sum.start s)
  by_cases h : l[i] = l[i + 1]
  · have e3 := e1
    rw [h] at e3
    have e : (l.set i l[i + 1]).set (i + 1) l[i] = l := by rw [e2, h]; exact e3.symm
    rw [e, h]
    simp
  · have hn : (l[i].toNat : Int) ≠ (l[i + 1].toNat : Int) := fun e => h (UInt8.toNat_inj.1 (by omega))
    have hs : Sum.of s ((l.set i l[i + 1]).set (i + 1) l[i]) ≠ Sum.of s l := by
      intro e
      have h1 : Sum.hi (Sum.of s ((l.set i l[i + 1]).set (i + 1) l[i])) = Sum.hi (Sum.of s l) := by rw [e]
      unfold Sum.of at h1
      rw [Sum.hi_add, Sum.hi_add, e2] at h1
      conv at h1 => rhs; rw [e1]
      exact h (Sum.turns257 _ _ _ _ _ h1).symm
    rw [beq_eq_false_iff_ne.2 hn, beq_eq_false_iff_ne.2 hs]
    rfl
set_option maxRecDepth 100000 in
set_option maxHeartbeats 1600000 in
theorem walk (a0 : Int) (a1 : Option Addr) (len1 cap1 : Nat) (z1 : List Int) (a2 : Int) (w : World) (w0 : (Lit.int .i64 a0).wf = true) (w1 : IsRow .u8 w a1 len1 cap1 z1) (w2 : (Lit.int .i64 a2).wf = true) :
    Calls Try.prog 6 #[.int .i64 a0, .slice a1 len1 cap1, .int .i64 a2] w fun e w' => e = .returned (.bool true) ∧ Below w.heap.size w w' := by
  obtain ⟨l, rfl, hv⟩ := sees_in w1
  have b0 := bounds_i64 w0
  have b2 := bounds_i64 w2
  have HV := hid hv
  clear hv w0 w1 w2
  by_cases hlen : l.length ≤ 16384
  case neg =>
    go_enter Try.func6, Try.ntmps6
    go_wp2_with (go_at_call 23; refine (wakes2_any _).mono ?_; rintro e w1 ⟨rfl, hb⟩; have HB := hid hb; clear hb)
    go_ret
    exact ⟨rfl, HB.out⟩
  by_cases hneg : a2 < 0
  · go_enter Try.func6, Try.ntmps6
    go_wp2_with (go_at_call 23; refine (wakes2_any _).mono ?_; rintro e w1 ⟨rfl, hb⟩; have HB := hid hb; clear hb)
    go_ret
    exact ⟨rfl, HB.out⟩
  by_cases hbig : (l.length : Int) - 1 ≤ a2
  · go_enter Try.func6, Try.ntmps6
    go_wp2_with (go_at_call 23; refine (wakes2_any _).mono ?_; rintro e w1 ⟨rfl, hb⟩; have HB := hid hb; clear hb)
    go_ret
    exact ⟨rfl, HB.out⟩
  obtain ⟨i, rfl⟩ : ∃ i : Nat, a2 = i := ⟨a2.toNat, by omega⟩
  have hi1 : i + 1 < l.length := by omega
  have hi : i < l.length := by omega
  clear hneg hbig b2
  rcases HV.out.open with ⟨h0, _⟩ | ⟨g, off, cap, hp, hvv, hlc, hcap, hc⟩
  · rw [h0] at hi; simp at hi
  simp only [Value.slice.injEq] at hvv
  obtain ⟨rfl, -, rfl⟩ := hvv
  have hx := hc i _ (List.getElem?_eq_getElem hi)
  have hy := hc (i + 1) _ (List.getElem?_eq_getElem hi1)
  have HX := hid hx
  have HY := hid hy
  have hg : g < w.heap.size := block_lt_of_cell hx
  clear hc hx hy
  unfold maxLen at hcap
  have hti := turns_iff a0 l i hi1
  have HTI := hid hti
  clear hti
  go_enter Try.func6, Try.ntmps6
  go_wp2_with (first | (go_at_call 23; refine (wakes2_any _).mono ?_; rintro e w1 ⟨rfl, hb⟩; have HB := hid hb; have HV1 := hid (HV.out.below hb); have HX1 := hid ((hb.cell (p := ⟨g, off + i, none⟩) hg).trans HX.out); have HY1 := hid ((hb.cell (p := ⟨g, off + (i + 1), none⟩) hg).trans HY.out); clear hb HV HX HY) | (at_builtin; refine wpList_app rfl (.tmp 24) (.tmp 25) 23 rfl w1.heap.size 5 (.int .u8 0) 1 1 Try.underlying23 info5 rfl (by decide) 0 [] l.length (l.map B) ?own ?src ?h63 ?hb (by simp) ?_))
  case own => exact World.ownsRow_made w1 #[] 0 (Nat.le_refl _) (Nat.zero_le _) rfl
  case src => exact HV1.out.src.keep (fun k _ hk => Below.heap_alloc w1 _ k hk)
  case h63 => unfold maxLen; omega
  case hb => omega
  intro v1 w2 hown hgrow hat
  obtain ⟨gm, cm, rfl, hm1, hm2, hm3, hm4⟩ := own_slice hown (by omega)
  have hb2 : Below w1.heap.size w1 w2 := ((Below.refl _ _).alloc (Nat.le_refl _) _).grown hgrow (by simp) (fun k hk => by cases hk; exact Nat.le_refl _)
  have hg1 : g < w1.heap.size := Nat.lt_of_lt_of_le hg HB.out.size
  have HB2 := hid (HB.out.trans (hb2.mono HB.out.size))
  have hx2 := (hb2.cell (p := ⟨g, off + i, none⟩) hg1).trans HX1.out
  have hy2 := (hb2.cell (p := ⟨g, off + (i + 1), none⟩) hg1).trans HY1.out
  have hne : g ≠ gm := by omega
  have hown' := hown
  have HV2 := hid (HV1.out.below hb2)
  have hc1 := own_cell hown' (i := i) (u := B l[i]) (by simp [hi])
  have hc2 := own_cell hown' (i := i + 1) (u := B l[i + 1]) (by simp [hi1])
  have hf1 := own_frozen hown' i
  have hf2 := own_frozen hown' (i + 1)
  have ho1 := own_set (own_set hown' hi (B l[i + 1])) hi1 (B l[i])
  have HO := hid ho1
  have hgm : w.heap.size ≤ gm := Nat.le_trans HB.out.size hm3
  clear hown hown' hgrow hat hb2 HX1 HY1 HV1 HB ho1
  unfold maxLen at hm2
  have hcast : ((i : Int) + 1).toNat = i + 1 := by omega
  go_wp2
  go_region
  have HM := hid (own_sees (own_len HO.out (by simp) (by simp [List.map_set]) : ((w2.setCell ⟨gm, i, none⟩ (B l[i + 1])).setCell ⟨gm, i + 1, none⟩ (B l[i])).ownsRow w1.heap.size 5 1 (.slice (some ⟨gm, 0, none⟩) l.length cm) ((l.set i l[i + 1]).set (i + 1) l[i]).length (((l.set i l[i + 1]).set (i + 1) l[i]).map B)))
  have hgne : (Value.slice (some ⟨g, off, none⟩) l.length cap1).ownBlock ≠ some gm := by intro e; cases e; exact hne rfl
  have HV3 := hid ((HV2.out.setCell (a := ⟨gm, i, none⟩) hgne (B l[i + 1])).setCell (a := ⟨gm, i + 1, none⟩) hgne (B l[i]))
  have hx3 : (((w2.setCell ⟨gm, i, none⟩ (.int .u8 (l[i + 1].toNat : Int))).setCell ⟨gm, i + 1, none⟩ (.int .u8 (l[i].toNat : Int)))).cell? ⟨g, off + i, none⟩ = some (.int .u8 (l[i].toNat : Int)) := (World.cell?_of_block (w := w2) ((heap_setCell_other _ _ _ _ hne).trans (heap_setCell_other _ _ _ _ hne))).trans hx2
  have hy3 : (((w2.setCell ⟨gm, i, none⟩ (.int .u8 (l[i + 1].toNat : Int))).setCell ⟨gm, i + 1, none⟩ (.int .u8 (l[i].toNat : Int)))).cell? ⟨g, off + (i + 1), none⟩ = some (.int .u8 (l[i + 1].toNat : Int)) := (World.cell?_of_block (w := w2) ((heap_setCell_other _ _ _ _ hne).trans (heap_setCell_other _ _ _ _ hne))).trans hy2
  have hbel := ((HB2.out.setCell (p := ⟨gm, i, none⟩) hgm (B l[i + 1])).setCell (p := ⟨gm, i + 1, none⟩) hgm (B l[i]))
  have HBE := hid hbel
  clear hx2 hy2 hc1 hc2 hf1 hf2 hbel hgne hne
  go_wp2
  generalize ((w2.setCell ⟨gm, i, none⟩ (.int .u8 (l[i + 1].toNat : Int))).setCell ⟨gm, i + 1, none⟩ (.int .u8 (l[i].toNat : Int))) = w3 at *
  replace HM := hid HM.out.drew
  replace HV3 := hid HV3.out.drew
  replace HBE := hid HBE.out.drew
  replace hx3 := (show w3.drew.cell? _ = _ from hx3)
  replace hy3 := (show w3.drew.cell? _ = _ from hy3)
  generalize w3.drew = w4 at *
  go_quiet ((first | (go_at_call_of 28 (Value.slice (some ⟨gm, 0, none⟩) l.length cm); exact quiet_mine (of_any a0 b0.1 b0.2 _ _ _ (HM.out.drewN _))) | (go_at_call 28; exact quiet_mine (of_any a0 b0.1 b0.2 _ l _ (HV3.out.drewN _)))))
  go_wp2
  go_ret
  refine ⟨?_, HBE.out.trans ⟨rfl, rfl, rfl, Nat.le_refl _, fun _ _ => rfl⟩⟩
  exact congrArg (fun b => Ending.returned (.bool b)) HTI.out

/-! ### The row -/
set_option maxRecDepth 100000 in
theorem lifted (os : Os) (started : os.Started) (H : Type) (enc : TypeId × Value → H) :
    ReturnsInHanded {} Try.checked os 6 .any (Rows.sealTurnsSpec.pre6 enc Try.prog Try.f6 Rows.sealTurnsRow.domain false) (Rows.sealTurnsSpec.post enc Try.prog Try.f6 false true false false) := by
  refine returnsInHanded_of_change (C := Try.checked) own started (by kernel_rfl) Try.func6
    (ChangeSpec.witness6 (enc := enc) (C := Try.checked) false ⟨#[], #[.int .i64 0, .slice none 0 0, .int .i64 0], []⟩ 8 (by kernel_rfl) (by kernel_rfl) (by kernel_rfl) (by kernel_rfl)) ?_
  intro W base args ds gs before hval0 hW hcnd _
  have hval : ∀ (j : Nat) t v, Try.f6.params[j]? = some t → args[j]? = some v → Value.okWide Try.prog W .any base t v := hval0
  have hW' := hW
  obtain ⟨p, q, hA0, hV, rfl, hfz, hnd⟩ := hW
  have hA : DataW.TrodAll enc Try.prog W 0 (fun _ => true) true Try.f6.params.toList args.toList ds p := hA0
  rw [Try.params6] at hA hval
  obtain ⟨v0, vs0, d0, ds0, p0, q0, hargs, rfl, rfl, h0, r0⟩ := trodAll_cons hA
  obtain ⟨v1, vs1, d1, ds1, p1, q1, rfl, rfl, rfl, h1, r1⟩ := trodAll_cons r0
  obtain ⟨v2, vs2, d2, ds2, p2, q2, rfl, rfl, rfl, h2, r2⟩ := trodAll_cons r1
  obtain ⟨rfl, rfl, rfl⟩ := trodAll_nil r2
  obtain rfl : args = #[v0, v1, v2] := by cases args; simp_all
  obtain ⟨rfl, rfl⟩ := trodVars_none hV
  obtain ⟨a0, rfl, rfl, rfl, w0⟩ := open_int Try.underlying3 (hval 0 3 v0 rfl rfl) h0
  obtain ⟨a1, len1, cap1, rfl⟩ := okWide_slice Try.underlying23 (hval 1 23 v1 rfl rfl)
  have k1 := h1
  have lt1 : ∀ x ∈ p1, x.block < W.heap.size := by obtain ⟨m, hm⟩ := k1; exact DataW.trod_lt m _ _ _ hm
  obtain ⟨z1, w1⟩ : ∃ zs, IsRow .u8 W a1 len1 cap1 zs := by
    obtain ⟨fuel, hf⟩ := h1
    rcases open_ints Try.underlying23 Try.underlying5 (by kernel_rfl) hf with ⟨hcs, _⟩ | ⟨x, l, c, zs, hcs, _, hl, hm, hz, _, hcell, hwz⟩
    · simp [Value.cells] at hcs
      obtain ⟨rfl, rfl, rfl⟩ := hcs
      exact ⟨[], .inl ⟨rfl, rfl, rfl, rfl⟩⟩
    · simp [Value.cells] at hcs
      obtain ⟨rfl, rfl, rfl⟩ := hcs
      exact ⟨zs, .inr ⟨_, rfl, hl, hm, by simpa using hz, hcell, hwz⟩⟩
  obtain ⟨a2, rfl, rfl, rfl, w2⟩ := open_int Try.underlying3 (hval 2 3 v2 rfl rfl) h2
  clear hA0 hval0
  refine (walk a0 a1 len1 cap1 z1 a2 W w0 w1 w2).mono fun e W' ⟨he, bel⟩ => ?_
  subst he
  exact ⟨_, rfl, _, _, _, [], _, [], hW', trodAll_mk1 (shut_bool Try.underlying4 _), (trodAll_cons_mk (shut_int Try.underlying3 w0) (trodAll_cons_mk (Below.trod laidOut (by kernel_rfl) (of_decide_eq_true (by kernel_rfl)) k1 bel lt1) (trodAll_cons_mk (shut_int Try.underlying3 w2) trodAll_mk0))), rfl, bel.frame _, fun h => by cases h⟩

theorem over : Rows.sealTurnsRow.holds Try.pinned (OpenSpec.ofChange Rows.sealTurnsSpec) :=
  OpenClaim.holds_of_wide 6 Try.f6 rfl rfl rfl rfl rfl rfl rfl ⟨rfl, rfl, rfl, rfl, rfl⟩ rfl rfl rfl rfl rfl (by kernel_rfl) Try.func6 (by kernel_rfl)
    (of_decide_eq_true (by kernel_rfl)) (by unfold Func.isWrapper; first | (rw [if_pos (by decide +kernel)]; kernel_rfl) | (rw [if_neg (by decide +kernel)]; exact ⟨rfl, rfl⟩))
    (fun os started H enc _ => lifted os started H enc)

/-- The statement. -/
theorem proved : Rows.SealTurnsSaid := over
#print axioms proved
end Go.Proofs.Ytoaeapnkefjpaaa.sealTurns
namespace Go.Proofs.Ytoaeapnkefjpaaa
theorem sealTurns_holds : Rows.SealTurnsSaid := sealTurns.proved
end Go.Proofs.Ytoaeapnkefjpaaa
