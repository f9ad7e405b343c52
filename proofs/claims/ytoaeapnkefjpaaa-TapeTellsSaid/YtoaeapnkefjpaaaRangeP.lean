/-
  A RANGE OVER A FUNCTION WHOSE BODY MAY PANIC: a round's contract with the panic's way; a drawn region in a round, by one order.
  Over any program. Conditions: none beyond what each lemma names.
-/
import Derived.Test.YtoaeapnkefjpaaaReg3
import Derived.RangeFuncRecord
import Derived.OrdersIn
import Derived.OwnWalkIn
namespace Go.Proofs.Ytoaeapnkefjpaaa
open Go.RowKit
set_option linter.unusedVariables false
set_option linter.unusedSimpArgs false
section
variable {P : Program} {F : Fence} {n : Nat}
/-- What is asked at a round's end; a panic passes the round. -/
def roundPostP (P : Program) (l : Nat) (R : Ending → World → Prop) : Exit → Act → World → Prop
  | .normal, _, w => ∃ v w', (Instr.endRound l none).run P w = .ok v w' ∧ R (.returned v) w'
  | .panic chain, a, w => a.defers = [] ∧ R (.panicked chain) w
  | _, _, _ => False
theorem roundIn_of_wpInP {l : Nat} {f : FuncId} {fn : Func} {tmps : Array Value} {assign body : Code} {w : World} {R : Ending → World → Prop} (hF : F.fn f) (hfn : P.funcs[f]? = some fn)
    (h : assign.wpIn (F.inRound l) n P (Exit.then (fun a₁ w₁ => ∃ w₂, (Instr.beginRound l).run P w₁ = .ok () w₂ ∧ body.wpIn (F.inRound l) n P (roundPostP P l R) a₁ w₂) (fun _ _ _ => False))
      { tmps := tmps, defers := [] } w) :
    RoundIn F n P l f tmps assign body w R := by
  refine ⟨hF, fun c cs hr => ?_⟩
  let b : Frame := { (default : Frame) with fn := f, kind := .normal, roundOf := some l }
  have hb0 : Frame.round l f tmps assign body .normal = b.atR { tmps := tmps, defers := [] } [.code assign, .beginRound, .code body] := by
    simp [Frame.round, Frame.atR, b]
  have hr' : (F.inRound l).room ((c :: cs).length + 1 + n) := hr
  have hF' : (F.inRound l).fn b.fn := hF
  obtain ⟨e, a₁, w₁, hq, harr⟩ := h b [.beginRound, .code body] (c :: cs) rfl hF' hr'
  rw [← hb0] at harr
  cases e with
  | normal =>
    obtain ⟨w₂, hbr, hbody⟩ := hq
    have s1 : StepsIn (Machine.fenced P (F.inRound l)) P (lone (b.atR a₁ [.beginRound, .code body]) (c :: cs) w₁) (lone (b.atR a₁ [.code body]) (c :: cs) w₂) :=
      .one (fenced_calm (fr := b.atR a₁ [.beginRound, .code body]) hF' hr' rfl) (stepR_beginRound rfl hbr)
    obtain ⟨e₂, a₂, w₃, hq₂, harr₂⟩ := hbody b [] (c :: cs) rfl hF' hr'
    cases e₂ with
    | normal =>
      obtain ⟨v, w₄, hend, hR⟩ := hq₂
      exact ⟨.returned v, w₄, hR, (StepsIn.trans harr s1).trans (StepsIn.trans harr₂ (.one (fenced_calm (fr := b.atR a₂ []) hF' hr' rfl) (stepR_round_end rfl rfl hend)))⟩
    | panic chain =>
      obtain ⟨hd, hR⟩ := hq₂
      obtain ⟨todo, hs⟩ := harr₂
      have hl : ({ b.atR a₂ todo with mode := .panicking chain } : Frame).leaving P w₃ (.panicked chain) := ⟨rfl, hd, fn, hfn⟩
      refine ⟨.panicked chain, w₃, hR, (StepsIn.trans harr s1).trans (StepsIn.trans hs (.one ?_ (step_leave_panicked hl)))⟩
      exact fenced_leaving (n := n) hF' hr' hl
    | ret => exact hq₂.elim
    | exit id => exact hq₂.elim
    | goto t => exact hq₂.elim
    | outgrown => exact hq₂.elim
  | exit id => exact hq.elim
  | goto t => exact hq.elim
  | ret => exact hq.elim
  | panic chain => exact hq.elim
  | outgrown => exact hq.elim
/-! ### an operation in a round -/
theorem operIn_of {l : Nat} {o : Oper} {a : Act} {w : World} {next : Act → World → Prop} {Q : Exit → Act → World → Prop} (hd : ∀ c, o.op ≠ .defer c) (h : o.wp P a w next Q) : o.wpIn (Fence.wide.inRound l) n P a w next Q := by
  unfold Oper.wp at h
  unfold Oper.wpIn
  refine ⟨fun _ _ => trivial, ?_⟩
  rw [Oper.semAt_eq _ _ _ hd]
  generalize (execOp a.eval o).run P w = r at *
  have hn : (Fence.wide.inRound l).depth.isSome = true → 1 ≤ n := fun e => by simp [Fence.wide] at e
  cases r with
  | ok x w' =>
    cases x <;> simp only [Oper.upon, Oper.uponIn] at h ⊢ <;> first
      | exact h
      | exact ⟨hn, (callsIn_wide (n := n - 1)).2 h⟩
      | exact ⟨hn, fun c cs _ => let ⟨v, w'', r, s⟩ := h c cs; ⟨v, w'', r, stepsIn_wide.2 s⟩⟩
  | halt x w' => cases x <;> simp only [Oper.upon, Oper.uponIn] at h ⊢ <;> exact h
variable {ops : Array Oper} {Q : Exit → Act → World → Prop} {md : Region.Mode} {R : World → World → Prop} {ds : List Nat}
theorem wpOpIn_of {l : Nat} (hno : ¬ LetsOut Q) (hnd : ∀ (j : Nat) (o : Oper), ops[j]? = some o → ∀ c, o.op ≠ .defer c) {i : Nat} {K : Act → World → Prop} {a : Act} {w : World} (h : wpOp P ops Q i K a w) : wpOpIn (Fence.wide.inRound l) n P ops Q i K a w := by
  unfold wpOp at h
  unfold wpOpIn
  cases ho : ops[i]? with
  | none => simpa [ho] using h
  | some o =>
    simp only [ho] at h ⊢
    split
    · rename_i hw
      rw [if_pos hw] at h
      rcases h with h | h
      · exact operIn_of (hnd i o ho) h
      · exact absurd h.2 hno
    · rename_i hw
      rw [if_neg hw] at h
      exact ⟨fun _ _ => trivial, h⟩
theorem wpAnyIn_of {l : Nat} (hno : ¬ LetsOut Q) (hnd : ∀ (j : Nat) (o : Oper), ops[j]? = some o → ∀ c, o.op ≠ .defer c) : ∀ (fuel : Nat) (listed : Array Bool) (a : Act) (w : World), wpAny P md ops Q fuel listed a w → wpAnyIn (Fence.wide.inRound l) n P md ops Q fuel listed a w
  | 0, _, _, _, h => h
  | fuel + 1, _, _, _, h => ⟨h.1, fun i hi => wpOpIn_mono (fun a' w' h' => wpAnyIn_of hno hnd fuel _ a' w' h') (wpOpIn_of hno hnd (h.2 i hi))⟩
def calmB (ops : Array Oper) : Bool := ops.all fun o => match o.op with | .defer _ => false | _ => true
theorem calmB_spec (h : calmB ops = true) : ∀ (j : Nat) (o : Oper), ops[j]? = some o → ∀ c, o.op ≠ .defer c := by
  intro j o ho c e
  have h1 := Array.all_eq_true_iff_forall_mem.1 h o (Array.mem_of_getElem? ho)
  rw [e] at h1
  cases h1
/-- A drawn region in a round, by one order. -/
theorem wpIn_region_round {l id : Nat} {a : Act} {w : World} (R : World → World → Prop) (ds : List Nat) (π : List (Nat × Nat)) (lst : List (Oper × Nat)) (hno : ¬ LetsOut Q) (hcalm : calmB ops = true) (hm : P.follows .mixedOrders = true) (hlen : π.length = ops.size) (hrefl : ∀ w, R w w) (htr : ∀ w w' w'', R w w' → R w' w'' → R w w'')
    (hc : (Region.noSelect ops && fitsB .any ops ds π (Array.replicate ops.size false)) = true) (hl : pick ops π = lst) (hQ : ∀ (i : Nat) (oi : Oper), ops[i]? = some oi → ∀ (c : List PanicEntry) (a : Act) (v : Value) (w : World), Q (.panic c) (Act.put a oi.dst v) w → Q (.panic c) a w)
    (h : wpK P ops Q R lst a w.drew) : (Code.region id ops true).wpIn (Fence.wide.inRound l) n P Q a w := by
  rw [Bool.and_eq_true] at hc
  subst hl
  refine wpIn_region_any hm (wpAnyIn_of hno (calmB_spec hcalm) _ _ _ _ (wpAny_of_wpC (R := R) (ds := ds) _ _ _ _ ?_))
  rw [← hlen]
  have := hc.2
  rw [← hlen] at this
  exact wpC_of_wpK' hrefl htr hc.1 hQ π _ a _ this h
/-- A plain region in a round. -/
theorem wpOpsIn_of {l : Nat} (hno : ¬ LetsOut Q) (hnd : ∀ (j : Nat) (o : Oper), ops[j]? = some o → ∀ c, o.op ≠ .defer c) : ∀ (is : List Nat) (a : Act) (w : World), wpOps P ops Q is a w → wpOpsIn (Fence.wide.inRound l) n P ops Q is a w
  | [], _, _, h => h
  | i :: is, a, w, h => by
    rw [wpOps_cons] at h
    rw [wpOpsIn_cons]
    exact wpOpIn_mono (fun a' w' h' => wpOpsIn_of hno hnd is a' w' h') (wpOpIn_of hno hnd h)
theorem wpIn_plain_round {l id : Nat} {a : Act} {w : World} (hno : ¬ LetsOut Q) (hcalm : calmB ops = true) (h : wpOps P ops Q (List.range ops.size) a w) : (Code.region id ops false).wpIn (Fence.wide.inRound l) n P Q a w :=
  wpIn_region (wpOpsIn_of hno (calmB_spec hcalm) _ a w h)
theorem wpIn_list_round {l id : Nat} {a : Act} {w : World} (hno : ¬ LetsOut Q) (hcalm : calmB ops = true) (h : wpList P ops Q ops.toList a w) : (Code.region id ops false).wpIn (Fence.wide.inRound l) n P Q a w := by
  refine wpIn_plain_round hno hcalm ?_
  have := wpOps_eq_wpList (P := P) (ops := ops) (Q := Q) ops.toList 0 (fun j => by simp)
  rw [List.range_eq_range', ← Array.length_toList, this]
  exact h
end
end Go.Proofs.Ytoaeapnkefjpaaa
