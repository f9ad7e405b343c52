/-
  THE PROGRAM: body, of the kinds with no names. Conditions: those that each contract names.
-/
import Derived.Test.YtnljmllkfmgclaaMpacP4
namespace Go.Proofs.Ytnljmllkfmgclaa
open Go.RowKit
set_option linter.unusedVariables false
set_option linter.unusedSimpArgs false

/-- The packet at block p, its names and codes in rows that are newer than base. -/
def PkIn (w : World) (p base : Nat) (P : Pk) : Prop := ∃ nv cv, PIn w p P nv cv ∧ w.ownsRow base 9 1 nv P.names.length (P.names.map S) ∧ w.ownsRow base 3 1 cv P.codes.length (P.codes.map I)
theorem PkIn.plain {w : World} {p base : Nat} {P : Pk} (h : PIn w p P (.slice none 0 0) (.slice none 0 0)) (h1 : P.names = []) (h2 : P.codes = []) : PkIn w p base P :=
  ⟨_, _, h, by rw [h1]; exact World.ownsRow_nil _ _ _ _, by rw [h2]; exact World.ownsRow_nil _ _ _ _⟩
/-- What reading a body comes to. -/
def GotB (w : World) (r p : Nat) (o : Option Pk) (e : Ending) (w' : World) : Prop :=
  Mod (fun k => k = r ∨ k = p) w w' ∧ match o with
  | none => e = .panicked gave ∧ ∃ P' nv' cv', PIn w' p P' nv' cv'
  | some P => e = .returned (.tuple #[]) ∧ PkIn w' p w.heap.size P
theorem GotB.no {w w' : World} {r p : Nat} {o : Option Pk} (hm : Mod (fun k => k = r ∨ k = p) w w') {P' : Pk} {nv' cv' : Value} (hp : PIn w' p P' nv' cv') (ho : o = none) : GotB w r p o (.panicked gave) w' := by
  subst ho
  exact ⟨hm, rfl, _, _, _, hp⟩
theorem GotB.yes {w w' : World} {r p : Nat} {o : Option Pk} {P : Pk} (hm : Mod (fun k => k = r ∨ k = p) w w') (ho : o = some P) (hp : PkIn w' p w.heap.size P) : GotB w r p o (.returned (.tuple #[])) w' := by
  subst ho
  exact ⟨hm, rfl, hp⟩
theorem GotP.cases {w w' : World} {r p : Nat} {nv cv : Value} {o : Option (Pk × List UInt8)} {e : Ending} (h : GotP w r p nv cv o e w') :
    (o = none ∧ e = .panicked gave ∧ Mod (fun k => k = r ∨ k = p) w w' ∧ ∃ P' nv' cv', PIn w' p P' nv' cv') ∨ ∃ P t, o = some (P, t) ∧ e = .returned (.tuple #[]) ∧ RdIn w' r t ∧ PIn w' p P nv cv ∧ Mod (fun k => k = r ∨ k = p) w w' := by
  cases o with
  | none => exact .inl ⟨rfl, h.2.1, h.1, h.2.2⟩
  | some x => exact .inr ⟨x.1, x.2, rfl, h.2.1, h.2.2.1, h.2.2.2, h.1⟩
theorem connect_frame {P P' : Pk} {s t : List UInt8} (h : Mp.connect P s = some (P', t)) : P'.names = P.names ∧ P'.codes = P.codes := by
  unfold Mp.connect at h
  cases h1 : Mp.text s with
  | none => rw [h1] at h; cases h
  | some a =>
  rw [h1, Option.bind_some] at h
  split at h
  · cases h
  cases h2 : Mp.byte a.2 with
  | none => rw [h2] at h; cases h
  | some v =>
  rw [h2, Option.bind_some] at h
  split at h
  · cases h
  cases h3 : Mp.byte v.2 with
  | none => rw [h3] at h; cases h
  | some c =>
  rw [h3, Option.bind_some] at h
  split at h
  · cases h
  cases h4 : Mp.short c.2 with
  | none => rw [h4] at h; cases h
  | some k =>
  rw [h4, Option.bind_some] at h
  cases h5 : Mp.text k.2 with
  | none => rw [h5] at h; cases h
  | some n =>
  rw [h5, Option.bind_some] at h
  simp only at h
  split at h
  · cases h6 : Mp.text n.2 with
    | none => rw [h6] at h; cases h
    | some tt =>
    rw [h6, Option.bind_some] at h
    cases h7 : Mp.text tt.2 with
    | none => rw [h7] at h; cases h
    | some x =>
    rw [h7, Option.bind_some] at h
    split at h
    · cases h
    · simp only [Option.some.injEq, Prod.mk.injEq] at h
      obtain ⟨rfl, rfl⟩ := h
      exact ⟨rfl, rfl⟩
  · simp only [Option.some.injEq, Prod.mk.injEq] at h
    obtain ⟨rfl, rfl⟩ := h
    exact ⟨rfl, rfl⟩
theorem str_empty (s : List UInt8) (h : s = []) : ((str s).toList == ([] : List UInt8)) = true := by subst h; rw [str_toList]; rfl
theorem str_full (s : List UInt8) (h : s ≠ []) : ((str s).toList == ([] : List UInt8)) = false := by rw [str_toList, beq_eq_false_iff_ne]; exact h
abbrev nil0 : Value := .slice none 0 0
set_option maxRecDepth 100000 in
set_option maxHeartbeats 3200000 in
theorem body_1 (w : World) (r p f : Nat) (s : List UInt8) (h : RdIn w r s) (hp : PIn w p (Pk.new 1 f) nil0 nil0) (hrp : r ≠ p) : Calls Try.prog 24 #[.pointer (some ⟨r, 0, none⟩), .pointer (some ⟨p, 0, none⟩)] w (GotB w r p (Mp.body 1 f s)) := by
  have hO : Mp.body 1 f s = (Mp.connect (Pk.new 1 f) s).bind fun x => if x.2 = [] then some x.1 else none := rfl
  obtain ⟨O, hOO⟩ : ∃ O, O = Mp.body 1 f s := ⟨_, rfl⟩
  rw [← hOO]
  rw [hO] at hOO
  have HO := hid hOO
  clear hO hOO
  have c0 : w.cell? ⟨p, 0, none⟩ = some (I 1) := hp.cell 0
  have lp := hp.lt
  have HR := hid h
  have HP := hid hp
  clear h hp
  go_enter Try.func24, Try.ntmps24
  go_wp2_with fail
  obtain ⟨wa, hwa⟩ : ∃ wa, wa = w.alloc (Obj.cells #[Value.pointer (some { block := p, off := 0 })] 53) := ⟨_, rfl⟩
  rw [← hwa]
  have HB : Hid (Below w.heap.size w wa) := hid (by rw [hwa]; exact (Below.refl _ _).alloc (Nat.le_refl _) _)
  have HRa := hid (HR.out.below HB.out)
  have HPa := hid (HP.out.below HB.out)
  clear hwa HR HP c0
  refine (connect_any wa r p s _ _ _ HRa.out HPa.out hrp).mono ?_
  intro e w1 hg
  rcases hg.cases with ⟨hk, rfl, hm, P', nv', cv', hp'⟩ | ⟨P1, t, hk, rfl, hr, hp, hm⟩
  · refine And.intro rfl (GotB.no ((Mod.of_below _ HB.out).trans hm) hp' ?_)
    rw [HO.out, hk]
    rfl
  have hfr := connect_frame hk
  rw [hk, Option.bind_some] at HO
  have HM1 : Hid (Mod (fun k => k = r ∨ k = p) w w1) := hid ((Mod.of_below _ HB.out).trans hm)
  have HP1 := hid hp
  have HFR := hid hfr
  have c1 := hr.c0
  clear hg hk hp hm hfr HRa HPa HB
  by_cases ht : t = []
  · have he := str_empty t ht
    have HT := hid ht
    clear ht hr
    go_wp2_with (first | (go_at_call 21; refine (unless_ok _).mono ?_; rintro e w2 ⟨rfl, rfl⟩) | fail)
    ((try simp only [Exit.inBlock, Exit.then]); first | refine bodyPost_end (results_none rfl _ _ _) rfl ?_ | refine bodyPost_ret (results_none rfl _ _ _) rfl ?_)
    refine GotB.yes HM1.out ?_ (PkIn.plain HP1.out HFR.out.1 HFR.out.2)
    rw [HO.out, if_pos HT.out]
  · have he := str_full t ht
    have HT := hid ht
    clear ht hr
    go_wp2_with (first | (go_at_call 21; refine (unless_no _).mono ?_; rintro e w2 ⟨rfl, rfl⟩) | fail)
    refine And.intro rfl (GotB.no HM1.out HP1.out ?_)
    rw [HO.out, if_neg HT.out]
set_option maxRecDepth 100000 in
set_option maxHeartbeats 3200000 in
theorem body_0 (w : World) (r p k f : Nat) (s : List UInt8) (hk : k = 12 ∨ k = 13 ∨ k = 14) (h : RdIn w r s) (hp : PIn w p (Pk.new k f) nil0 nil0) (hrp : r ≠ p) : Calls Try.prog 24 #[.pointer (some ⟨r, 0, none⟩), .pointer (some ⟨p, 0, none⟩)] w (GotB w r p (Mp.body k f s)) := by
  have hO : Mp.body k f s = if s = [] then some (Pk.new k f) else none := by
    rcases hk with rfl | rfl | rfl <;> rfl
  obtain ⟨O, hOO⟩ : ∃ O, O = Mp.body k f s := ⟨_, rfl⟩
  rw [← hOO]
  rw [hO] at hOO
  have HO := hid hOO
  clear hO hOO
  have c0 : w.cell? ⟨p, 0, none⟩ = some (I k) := hp.cell 0
  have c1 := h.c0
  have l1 := h.lt
  have lp := hp.lt
  have HP : Hid (PIn (w.alloc (Obj.cells #[Value.pointer (some { block := p, off := 0 })] 53)) p (Pk.new k f) nil0 nil0) := hid (hp.below ((Below.refl _ _).alloc (Nat.le_refl _) _))
  have HM : Hid (Mod (fun k => k = r ∨ k = p) w (w.alloc (Obj.cells #[Value.pointer (some { block := p, off := 0 })] 53))) := hid (Mod.alloc _)
  clear h hp
  by_cases ht : s = []
  · have he := str_empty s ht
    have HT := hid ht
    clear ht
    rcases hk with rfl | rfl | rfl
    all_goals
      go_enter Try.func24, Try.ntmps24
      go_wp2_with (first | (go_at_call 21; refine (unless_ok _).mono ?_; rintro e w2 ⟨rfl, rfl⟩) | fail)
      ((try simp only [Exit.inBlock, Exit.then]); first | refine bodyPost_end (results_none rfl _ _ _) rfl ?_ | refine bodyPost_ret (results_none rfl _ _ _) rfl ?_)
      refine GotB.yes HM.out ?_ (PkIn.plain HP.out rfl rfl)
      rw [HO.out, if_pos HT.out]
  · have he := str_full s ht
    have HT := hid ht
    clear ht
    rcases hk with rfl | rfl | rfl
    all_goals
      go_enter Try.func24, Try.ntmps24
      go_wp2_with (first | (go_at_call 21; refine (unless_no _).mono ?_; rintro e w2 ⟨rfl, rfl⟩) | fail)
      refine And.intro rfl (GotB.no HM.out HP.out ?_)
      rw [HO.out, if_neg HT.out]
end Go.Proofs.Ytnljmllkfmgclaa
