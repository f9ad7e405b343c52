/-
  A BODY WALKED FOR ONE FUNCTION'S FRAMES ALONE (a range over a function whose rounds may panic must know that the frame's function is there). Over any program.
  Conditions: none beyond what each lemma names.
-/
import Derived.Test.YtoaeapnkefjpaaaRangeP
import Derived.RangeFuncLeaves
namespace Go.Proofs.Ytoaeapnkefjpaaa
open Go.RowKit
set_option linter.unusedVariables false
set_option linter.unusedSimpArgs false
section
variable {P : Program} {f : FuncId} {Q : Exit → Act → World → Prop} {a : Act} {w : World}
/-- A code's walk in the frames of function f, outside of any round. -/
def wpFn (P : Program) (f : FuncId) (c : Code) (Q : Exit → Act → World → Prop) (a : Act) (w : World) : Prop :=
  ∀ (b : Frame) (k : List Item) (cs : List Frame), b.roundOf = none → b.fn = f → ∃ e a' w', Q e a' w' ∧ ArrivesIn (Machine.fenced P Fence.wide) P (lone (b.atR a (.code c :: k)) cs w) b k cs e a' w'
theorem wpFn_of_wp {c : Code} (h : c.wp P Q a w) : wpFn P f c Q a w := fun b k cs hro _ => (wpIn_wide (n := 0)).2 h b k cs hro trivial (room_wide _)
theorem wpFn_seq {x y : Code} (h : x.wp P (Exit.then (fun a w => wpFn P f y Q a w) Q) a w) : wpFn P f (.seq x y) Q a w := by
  intro b k cs hro hf
  have go : ∀ {m : Machine} {e : Exit} {a₁ : Act} {w₁ : World}, ArrivesIn (Machine.fenced P Fence.wide) P m b k cs e a₁ w₁ → StepsIn (Machine.fenced P Fence.wide) P (lone (b.atR a (.code (.seq x y) :: k)) cs w) m → ArrivesIn (Machine.fenced P Fence.wide) P (lone (b.atR a (.code (.seq x y) :: k)) cs w) b k cs e a₁ w₁ := fun h1 h2 => .of_steps h2 h1
  have s0 : StepsIn (Machine.fenced P Fence.wide) P (lone (b.atR a (.code (.seq x y) :: k)) cs w) (lone (b.atR a (.code x :: .code y :: k)) cs w) := .one (fenced_wide _ _) stepR_seq
  obtain ⟨e, a₁, w₁, hq, harr⟩ := (wpIn_wide (n := 0)).2 h b (.code y :: k) cs hro trivial (room_wide _)
  cases e with
  | normal =>
    obtain ⟨e₂, a₂, w₂, hq₂, harr₂⟩ := hq b k cs hro hf
    exact ⟨e₂, a₂, w₂, hq₂, go harr₂ (s0.trans harr)⟩
  | exit id => exact ⟨_, a₁, w₁, hq, go (ArrivesIn.pass (x := .code y) rfl (fun _ _ => .inl (by simp)) harr) s0⟩
  | goto l => exact ⟨_, a₁, w₁, hq, go (ArrivesIn.pass (x := .code y) rfl (fun _ _ => .inl (by simp)) harr) s0⟩
  | ret => exact ⟨_, a₁, w₁, hq, go (ArrivesIn.pass (x := .code y) rfl (fun _ _ => .inl (by simp)) harr) s0⟩
  | panic ch => exact ⟨_, a₁, w₁, hq, go (ArrivesIn.pass (x := .code y) rfl (fun _ _ => .inl (by simp)) harr) s0⟩
  | outgrown => exact ⟨_, a₁, w₁, hq, go (ArrivesIn.pass (x := .code y) rfl (fun _ _ => .inl (by simp)) harr) s0⟩
/-- Off the end, or by a panic. -/
def Plain2 (Q : Exit → Act → World → Prop) : Exit → Act → World → Prop
  | .normal, a, w => Q .normal a w
  | .panic c, a, w => Q (.panic c) a w
  | _, _, _ => False
theorem wpFn_block {id : Nat} {c : Code} (h : wpFn P f c (Plain2 Q) a w) : wpFn P f (.block id c) Q a w := by
  intro b k cs hro hf
  have s0 : StepsIn (Machine.fenced P Fence.wide) P (lone (b.atR a (.code (.block id c) :: k)) cs w) (lone (b.atR a (.code c :: .inBlock id :: k)) cs w) := .one (fenced_wide _ _) stepR_block
  obtain ⟨e, a₁, w₁, hq, harr⟩ := h b (.inBlock id :: k) cs hro hf
  cases e with
  | normal => exact ⟨.normal, a₁, w₁, hq, s0.trans (StepsIn.trans harr (.one (fenced_wide _ _) stepR_inBlock))⟩
  | panic ch => exact ⟨.panic ch, a₁, w₁, hq, .of_steps s0 harr⟩
  | exit id' => exact hq.elim
  | goto l => exact hq.elim
  | ret => exact hq.elim
  | outgrown => exact hq.elim
theorem calls_of_wpFn {n : Nat} {fn : Func} {c : Code} {args : Array Value} {R : Ending → World → Prop} (hf : P.funcs[f]? = some fn) (hb : fn.body = some c)
    (h : wpFn P f c (bodyPostM Fence.wide n P fn R) { tmps := args ++ Array.replicate (fn.ntmps - args.size) undef, defers := [] } w) : Calls P f args w R := by
  refine (callsIn_wide (n := n)).1 ⟨trivial, fun cs hr => ?_⟩
  obtain ⟨b, hbd⟩ : ∃ b : Frame, b = { (default : Frame) with fn := f, kind := .normal, roundOf := none } := ⟨_, rfl⟩
  have hbf : b.fn = f := by rw [hbd]
  have henter : Frame.enter P f args .normal = b.atR { tmps := args ++ Array.replicate (fn.ntmps - args.size) undef, defers := [] } [.code c] := by
    rw [hbd]; simp [Frame.enter, Frame.atR, hf, hb]
  obtain ⟨e, a', w', hq, harr⟩ := h b [] cs (by rw [hbd]) hbf
  rw [← henter] at harr
  have hgo : ∀ (todo : List Item) (u : FrameMode), StepsIn (Machine.fenced P Fence.wide) P (lone (Frame.enter P f args .normal) cs w) (lone { b.atR a' todo with mode := u } cs w') → LeavesInM Fence.wide n P fn a'.tmps R a'.defers u w' →
      ∃ e w'' fr, R e w'' ∧ ComesIn (Machine.fenced P Fence.wide) P (lone (Frame.enter P f args .normal) cs w) (lone fr cs w'') e ∧ fr.fn = f ∧ fr.leaving P w'' e := by
    intro todo u hs hl
    obtain ⟨e', w'', fr', hR, hs', hfn, hl'⟩ := leaves_stepsInM a'.defers u w' { b.atR a' todo with mode := u } cs rfl rfl rfl (by show P.funcs[b.fn]? = some fn; rw [hbf]; exact hf) (by show b.kind = .normal; rw [hbd]) trivial (room_wide _) hl
    exact ⟨e', w'', fr', hR, ComesIn.of_steps hs hs', by rw [hfn]; exact hbf, hl'⟩
  cases e with
  | normal => exact hgo [] .returning (StepsIn.trans harr (.one (fenced_wide _ _) (stepR_end (by rw [hbd])))) hq
  | ret =>
    obtain ⟨todo, hs₀⟩ := harr.1 (by rw [hbd])
    exact hgo todo .returning hs₀ hq
  | panic chain =>
    obtain ⟨todo, hs₀⟩ := harr
    exact hgo todo (.panicking chain) hs₀ hq
  | exit id => exact hq.elim
  | goto l => exact hq.elim
  | outgrown => exact ⟨.outgrown, w', b, hq, harr.resolve_left (by rw [hbd]; simp), hbf, trivial⟩
/-- What is asked behind the function that was ranged over. -/
def rangeEnd (P : Program) (l : Nat) (Q : Exit → Act → World → Prop) (a : Act) : Ending → World → Prop
  | .returned _, w => ∃ w', (Instr.endLoop l).run P w = .ok none w' ∧ Q .normal a w'
  | .panicked c, w => Q (.panic c) a w
  | .outgrown, _ => False
theorem wpFn_range {g : Operand} {ps : Array Tmp} {assign body : Code} {it : FuncId} {lb : Array Value} (hg : a.eval g = .func (.func it) #[] lb) (hc : ∀ args W, (callFunc it args).run P W = .ok (.enter it args) W)
    (h : ∀ W, W = (w.alloc (.deferred (some []))).alloc (.loop { state := .ready, pending := none, fn := f, tmps := a.tmps, params := ps, assign := assign, body := body, defers := w.heap.size }) →
      Calls P it (#[.func (.yield (w.heap.size + 1)) #[] #[]] ++ lb) W (rangeEnd P (w.heap.size + 1) Q { a with defers := { target := .collected w.heap.size, args := #[] } :: a.defers })) :
    wpFn P f (.rangeFunc g ps assign body) Q a w := by
  intro b k cs hro hf
  obtain ⟨W, hW⟩ : ∃ W, W = (w.alloc (.deferred (some []))).alloc (.loop { state := .ready, pending := none, fn := f, tmps := a.tmps, params := ps, assign := assign, body := body, defers := w.heap.size }) := ⟨_, rfl⟩
  obtain ⟨a2, ha2⟩ : ∃ a2 : Act, a2 = { a with defers := { target := .collected w.heap.size, args := #[] } :: a.defers } := ⟨_, rfl⟩
  have hcall := h W hW
  rw [← ha2] at hcall
  have henter : step P (lone (b.atR a (.code (.rangeFunc g ps assign body) :: k)) cs w) = .next (lone (Frame.enter P it (#[.func (.yield (w.heap.size + 1)) #[] #[]] ++ lb) .normal) (b.atR a2 (.inRangeFunc (w.heap.size + 1) :: k) :: cs) W) := by
    rw [ha2]
    refine stepR_rangeFunc (l := w.heap.size + 1) (mark := [{ target := .collected w.heap.size, args := #[] }]) (w₁ := W) (w₁' := W) (d := { target := .fn (.func it) lb, args := #[.func (.yield (w.heap.size + 1)) #[] #[]] }) ?_ ?_ ?_
    · rw [hro, hf, hW]; exact run_enterLoop_outer _ _ _ _ _
    · simp only [resolve, hg]
      simp [go_sem]
    · simp [invoke, go_sem]
      exact hc _ _
  have s0 : StepsIn (Machine.fenced P Fence.wide) P (lone (b.atR a (.code (.rangeFunc g ps assign body) :: k)) cs w) (lone (Frame.enter P it (#[.func (.yield (w.heap.size + 1)) #[] #[]] ++ lb) .normal) (b.atR a2 (.inRangeFunc (w.heap.size + 1) :: k) :: cs) W) := .one (fenced_wide _ _) henter
  obtain ⟨e, w₃, fr, hR, hsteps, hfn, hleave⟩ := ((callsIn_wide (n := 0)).2 hcall).2 (b.atR a2 (.inRangeFunc (w.heap.size + 1) :: k) :: cs) (room_wide _)
  cases e with
  | outgrown => exact hR.elim
  | returned v =>
    obtain ⟨w₄, hend, hj⟩ := hR
    refine ⟨.normal, a2, w₄, hj, s0.trans (StepsIn.trans hsteps (.head (fenced_wide _ _) ?_ (.one (fenced_wide _ _) (stepR_endRangeFunc (b := b) (a := a2) (k := k) hend))))⟩
    rw [← finish_atR_inRangeFunc (w.heap.size + 1) v]; exact step_leave_returned hleave
  | panicked chain =>
    refine ⟨.panic chain, a2, w₃, hR, .inRangeFunc (w.heap.size + 1) :: k, s0.trans (StepsIn.trans hsteps (.one (fenced_wide _ _) ?_))⟩
    rw [← Frame.raise_atR]; exact step_leave_panicked hleave
end
end Go.Proofs.Ytoaeapnkefjpaaa
