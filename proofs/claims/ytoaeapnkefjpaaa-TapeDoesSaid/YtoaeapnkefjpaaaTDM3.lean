/-
  Part 3 of what TapeDoes leans on: contracts of the functions it reaches, and plain lemmas. Conditions: those that each lemma names.
-/
import Derived.RangeFuncLeaves
import Derived.Deep.Cut
import Derived.Deep.DeepMust
import Derived.OwnWalk
import Derived.Test.YtoaeapnkefjpaaaTDM2
import Derived.Test.YtoaeapnkefjpaaaTDM1
namespace Go.Proofs.Ytoaeapnkefjpaaa
open Go.RowKit
set_option linter.unusedVariables false
set_option linter.unusedSimpArgs false
section
variable {P : Program} {f : FuncId} {Q : Exit → Act → World → Prop} {a : Act} {w : World}
/-- A code's walk in the frames of function f, outside of any round. -/
def wpFn (P : Program) (f : FuncId) (c : Code) (Q : Exit → Act → World → Prop) (a : Act) (w : World) : Prop :=
  ∀ (b : Frame) (k : List Item) (cs : List Frame), b.roundOf = none → b.fn = f → ∃ e a' w', Q e a' w' ∧ ArrivesIn (Machine.fenced P Fence.wide) P (lone (b.atR a (.code c :: k)) cs w) b k cs e a' w'
theorem wpFn_of_wp {c : Code} (h : c.wp P Q a w) : wpFn P f c Q a w := fun b k cs hro _ => (wpIn_wide (n := 0)).2 h b k cs hro trivial (room_wide _)
theorem wpFn_seq {x y : Code} (h : x.wp P (Exit.then (fun a w => wpFn P f y Q a w) Q) a w) : wpFn P f (.seq x y) Q a w := by
  intro b k cs hro hf
  have go : ∀ {m : Machine} {e : Exit} {a₁ : Act} {w₁ : World}, ArrivesIn (Machine.fenced P Fence.wide) P m b k cs e a₁ w₁ → StepsIn (Machine.fenced P Fence.wide) P (lone (b.atR a (.code (.seq x y) :: k)) cs w) m → ArrivesIn (Machine.fenced P Fence.wide) P (lone (b.atR a (.code (.seq x y) :: k)) cs w) b k cs e a₁ w₁ := fun h1 h2 => .of_steps h2 h1
  have s0 : StepsIn (Machine.fenced P Fence.wide) P (lone (b.atR a (.code (.seq x y) :: k)) cs w) (lone (b.atR a (.code x :: .code y :: k)) cs w) := .one (fenced_wide _ _) stepR_seq
  obtain ⟨e, a₁, w₁, hq, harr⟩ := (wpIn_wide (n := 0)).2 h b (.code y :: k) cs hro trivial (room_wide _)
  cases e with
  | normal =>
    obtain ⟨e₂, a₂, w₂, hq₂, harr₂⟩ := hq b k cs hro hf
    exact ⟨e₂, a₂, w₂, hq₂, go harr₂ (s0.trans harr)⟩
  | exit id => exact ⟨_, a₁, w₁, hq, go (ArrivesIn.pass (x := .code y) rfl (fun _ _ => .inl (by simp)) harr) s0⟩
  | goto l => exact ⟨_, a₁, w₁, hq, go (ArrivesIn.pass (x := .code y) rfl (fun _ _ => .inl (by simp)) harr) s0⟩
  | ret => exact ⟨_, a₁, w₁, hq, go (ArrivesIn.pass (x := .code y) rfl (fun _ _ => .inl (by simp)) harr) s0⟩
  | panic ch => exact ⟨_, a₁, w₁, hq, go (ArrivesIn.pass (x := .code y) rfl (fun _ _ => .inl (by simp)) harr) s0⟩
  | outgrown => exact ⟨_, a₁, w₁, hq, go (ArrivesIn.pass (x := .code y) rfl (fun _ _ => .inl (by simp)) harr) s0⟩
/-- Off the end, or by a panic. -/
def Plain2 (Q : Exit → Act → World → Prop) : Exit → Act → World → Prop
  | .normal, a, w => Q .normal a w
  | .panic c, a, w => Q (.panic c) a w
  | _, _, _ => False
theorem wpFn_block {id : Nat} {c : Code} (h : wpFn P f c (Plain2 Q) a w) : wpFn P f (.block id c) Q a w := by
  intro b k cs hro hf
  have s0 : StepsIn (Machine.fenced P Fence.wide) P (lone (b.atR a (.code (.block id c) :: k)) cs w) (lone (b.atR a (.code c :: .inBlock id :: k)) cs w) := .one (fenced_wide _ _) stepR_block
  obtain ⟨e, a₁, w₁, hq, harr⟩ := h b (.inBlock id :: k) cs hro hf
  cases e with
  | normal => exact ⟨.normal, a₁, w₁, hq, s0.trans (StepsIn.trans harr (.one (fenced_wide _ _) stepR_inBlock))⟩
  | panic ch => exact ⟨.panic ch, a₁, w₁, hq, .of_steps s0 harr⟩
  | exit id' => exact hq.elim
  | goto l => exact hq.elim
  | ret => exact hq.elim
  | outgrown => exact hq.elim
theorem calls_of_wpFn {n : Nat} {fn : Func} {c : Code} {args : Array Value} {R : Ending → World → Prop} (hf : P.funcs[f]? = some fn) (hb : fn.body = some c)
    (h : wpFn P f c (bodyPostM Fence.wide n P fn R) { tmps := args ++ Array.replicate (fn.ntmps - args.size) undef, defers := [] } w) : Calls P f args w R := by
  refine (callsIn_wide (n := n)).1 ⟨trivial, fun cs hr => ?_⟩
  obtain ⟨b, hbd⟩ : ∃ b : Frame, b = { (default : Frame) with fn := f, kind := .normal, roundOf := none } := ⟨_, rfl⟩
  have hbf : b.fn = f := by rw [hbd]
  have henter : Frame.enter P f args .normal = b.atR { tmps := args ++ Array.replicate (fn.ntmps - args.size) undef, defers := [] } [.code c] := by
    rw [hbd]; simp [Frame.enter, Frame.atR, hf, hb]
  obtain ⟨e, a', w', hq, harr⟩ := h b [] cs (by rw [hbd]) hbf
  rw [← henter] at harr
  have hgo : ∀ (todo : List Item) (u : FrameMode), StepsIn (Machine.fenced P Fence.wide) P (lone (Frame.enter P f args .normal) cs w) (lone { b.atR a' todo with mode := u } cs w') → LeavesInM Fence.wide n P fn a'.tmps R a'.defers u w' →
      ∃ e w'' fr, R e w'' ∧ ComesIn (Machine.fenced P Fence.wide) P (lone (Frame.enter P f args .normal) cs w) (lone fr cs w'') e ∧ fr.fn = f ∧ fr.leaving P w'' e := by
    intro todo u hs hl
    obtain ⟨e', w'', fr', hR, hs', hfn, hl'⟩ := leaves_stepsInM a'.defers u w' { b.atR a' todo with mode := u } cs rfl rfl rfl (by show P.funcs[b.fn]? = some fn; rw [hbf]; exact hf) (by show b.kind = .normal; rw [hbd]) trivial (room_wide _) hl
    exact ⟨e', w'', fr', hR, ComesIn.of_steps hs hs', by rw [hfn]; exact hbf, hl'⟩
  cases e with
  | normal => exact hgo [] .returning (StepsIn.trans harr (.one (fenced_wide _ _) (stepR_end (by rw [hbd])))) hq
  | ret =>
    obtain ⟨todo, hs₀⟩ := harr.1 (by rw [hbd])
    exact hgo todo .returning hs₀ hq
  | panic chain =>
    obtain ⟨todo, hs₀⟩ := harr
    exact hgo todo (.panicking chain) hs₀ hq
  | exit id => exact hq.elim
  | goto l => exact hq.elim
  | outgrown => exact ⟨.outgrown, w', b, hq, harr.resolve_left (by rw [hbd]; simp), hbf, trivial⟩
/-- What is asked behind the function that was ranged over. -/
def rangeEnd (P : Program) (l : Nat) (Q : Exit → Act → World → Prop) (a : Act) : Ending → World → Prop
  | .returned _, w => ∃ w', (Instr.endLoop l).run P w = .ok none w' ∧ Q .normal a w'
  | .panicked c, w => Q (.panic c) a w
  | .outgrown, _ => False
theorem wpFn_range {g : Operand} {ps : Array Tmp} {assign body : Code} {it : FuncId} {lb : Array Value} (hg : a.eval g = .func (.func it) #[] lb) (hc : ∀ args W, (callFunc it args).run P W = .ok (.enter it args) W)
    (h : ∀ W, W = (w.alloc (.deferred (some []))).alloc (.loop { state := .ready, pending := none, fn := f, tmps := a.tmps, params := ps, assign := assign, body := body, defers := w.heap.size }) →
      Calls P it (#[.func (.yield (w.heap.size + 1)) #[] #[]] ++ lb) W (rangeEnd P (w.heap.size + 1) Q { a with defers := { target := .collected w.heap.size, args := #[] } :: a.defers })) :
    wpFn P f (.rangeFunc g ps assign body) Q a w := by
  intro b k cs hro hf
  obtain ⟨W, hW⟩ : ∃ W, W = (w.alloc (.deferred (some []))).alloc (.loop { state := .ready, pending := none, fn := f, tmps := a.tmps, params := ps, assign := assign, body := body, defers := w.heap.size }) := ⟨_, rfl⟩
  obtain ⟨a2, ha2⟩ : ∃ a2 : Act, a2 = { a with defers := { target := .collected w.heap.size, args := #[] } :: a.defers } := ⟨_, rfl⟩
  have hcall := h W hW
  rw [← ha2] at hcall
  have henter : step P (lone (b.atR a (.code (.rangeFunc g ps assign body) :: k)) cs w) = .next (lone (Frame.enter P it (#[.func (.yield (w.heap.size + 1)) #[] #[]] ++ lb) .normal) (b.atR a2 (.inRangeFunc (w.heap.size + 1) :: k) :: cs) W) := by
    rw [ha2]
    refine stepR_rangeFunc (l := w.heap.size + 1) (mark := [{ target := .collected w.heap.size, args := #[] }]) (w₁ := W) (w₁' := W) (d := { target := .fn (.func it) lb, args := #[.func (.yield (w.heap.size + 1)) #[] #[]] }) ?_ ?_ ?_
    · rw [hro, hf, hW]; exact run_enterLoop_outer _ _ _ _ _
    · simp only [resolve, hg]
      simp [go_sem]
    · simp [invoke, go_sem]
      exact hc _ _
  have s0 : StepsIn (Machine.fenced P Fence.wide) P (lone (b.atR a (.code (.rangeFunc g ps assign body) :: k)) cs w) (lone (Frame.enter P it (#[.func (.yield (w.heap.size + 1)) #[] #[]] ++ lb) .normal) (b.atR a2 (.inRangeFunc (w.heap.size + 1) :: k) :: cs) W) := .one (fenced_wide _ _) henter
  obtain ⟨e, w₃, fr, hR, hsteps, hfn, hleave⟩ := ((callsIn_wide (n := 0)).2 hcall).2 (b.atR a2 (.inRangeFunc (w.heap.size + 1) :: k) :: cs) (room_wide _)
  cases e with
  | outgrown => exact hR.elim
  | returned v =>
    obtain ⟨w₄, hend, hj⟩ := hR
    refine ⟨.normal, a2, w₄, hj, s0.trans (StepsIn.trans hsteps (.head (fenced_wide _ _) ?_ (.one (fenced_wide _ _) (stepR_endRangeFunc (b := b) (a := a2) (k := k) hend))))⟩
    rw [← finish_atR_inRangeFunc (w.heap.size + 1) v]; exact step_leave_returned hleave
  | panicked chain =>
    refine ⟨.panic chain, a2, w₃, hR, .inRangeFunc (w.heap.size + 1) :: k, s0.trans (StepsIn.trans hsteps (.one (fenced_wide _ _) ?_))⟩
    rw [← Frame.raise_atR]; exact step_leave_panicked hleave
end
end Go.Proofs.Ytoaeapnkefjpaaa

namespace Go.Proofs.Ytoaeapnkefjpaaa
open Go.RowKit
set_option linter.unusedVariables false
set_option linter.unusedSimpArgs false

def behind : Code → Code
  | .seq _ c => c
  | c => c
def within : Code → Code
  | .block _ c => c
  | c => c
def roundOf : Code → Code
  | .rangeFunc _ _ _ b => b
  | c => c
def assignOf : Code → Code
  | .rangeFunc _ _ b _ => b
  | c => c
noncomputable def layLoop : Code := within (behind (behind (behind (behind (behind (behind (Try.f111.body.getD .skip)))))))
noncomputable def layBody : Code := roundOf layLoop
noncomputable def layAssign : Code := assignOf layLoop
/-- Where the blocks lie. -/
structure LA where
  t : Nat
  p : Nat
  l : Nat
  kd : Nat
  b3 : Nat
  b6 : Nat
  b8 : Nat
  bs : Nat
  bn : Nat
  g : Nat
  n : Nat
  cap : Nat
/-- What stands all along the loop. -/
structure LW (w : World) (A : LA) (own0 : Nat → Prop) (T : TS) (a : Nat) (all : List UInt8) : Prop where
  tape : TapeIn w A.t A.p A.n T
  h3 : w.heap[A.b3]? = some (.cells #[.pointer (some ⟨A.t, 0, none⟩)] 86 (0, 0))
  h6 : w.heap[A.b6]? = some (.cells #[.int .i64 ((a : Int) / 256)] 3 (0, 0))
  pages : Sees w (.slice (some ⟨A.g, 0, none⟩) all.length A.cap) all
  hs : w.heap[A.bs]? = some (.cells #[.slice (some ⟨A.g, 0, none⟩) all.length A.cap] 23 (0, 0))
  hn : w.heap[A.bn]? = some (.cells #[I 256] 3 (0, 0))
  hd : w.heap[A.kd]? = some (.deferred (some []))
  out : ∀ k, k = A.t ∨ k = A.b3 ∨ k = A.b6 ∨ k = A.g ∨ k = A.bs ∨ k = A.bn ∨ k = A.kd → k < w.heap.size ∧ ¬ own0 k ∧ k ≠ A.b8 ∧ k ≠ A.l
  o8 : A.b8 < w.heap.size ∧ ¬ own0 A.b8 ∧ A.b8 ≠ A.l
  ol : A.l < w.heap.size ∧ ¬ own0 A.l
theorem LW.on {w W : World} {A : LA} {own0 : Nat → Prop} {T : TS} {a : Nat} {all : List UInt8} (h : LW w A own0 T a all) (hm : Mod (fun k => own0 k ∨ k = A.b8 ∨ k = A.l) w W) : LW W A own0 T a all := by
  have hk : ∀ k, k = A.t ∨ k = A.b3 ∨ k = A.b6 ∨ k = A.g ∨ k = A.bs ∨ k = A.bn ∨ k = A.kd → W.heap[k]? = w.heap[k]? := fun k hk => hm.block k (h.out k hk).1 (by have := h.out k hk; rintro (x | x | x) <;> simp_all)
  refine ⟨h.tape.keep (hk _ (by simp)), (hk _ (by simp)).trans h.h3, (hk _ (by simp)).trans h.h6, h.pages.keep (fun k e => hk k ?_), (hk _ (by simp)).trans h.hs, (hk _ (by simp)).trans h.hn, (hk _ (by simp)).trans h.hd, fun k e => ⟨Nat.lt_of_lt_of_le (h.out k e).1 hm.size, (h.out k e).2⟩, ⟨Nat.lt_of_lt_of_le h.o8.1 hm.size, h.o8.2⟩, ⟨Nat.lt_of_lt_of_le h.ol.1 hm.size, h.ol.2⟩⟩
  cases e
  simp
/-- Between two rounds: i pages are written. -/
structure LJ (wS : World) (A : LA) (own0 : Nat → Prop) (T : TS) (D0 : DS) (a : Nat) (all : List UInt8) (K : Nat) (rec : Loop) (i : Nat) (W : World) : Prop where
  mod : Mod (fun k => own0 k ∨ k = A.b8 ∨ k = A.l) wS W
  h8 : W.heap[A.b8]? = some (.cells #[.int .i64 (i : Int)] 3 (0, 0))
  hl : W.heap[A.l]? = some (.loop rec)
  drum : ∃ own D, DrumAt W A.p own D ∧ TS.wr D0 (T.lo + a / 256) ((TS.pagesOf all K).take i) = (0, D) ∧ ∀ k, own k → own0 k ∨ wS.heap.size ≤ k
theorem LJ.drewN {wS : World} {A : LA} {own0 : Nat → Prop} {T : TS} {D0 : DS} {a : Nat} {all : List UInt8} {K : Nat} {rec : Loop} {i : Nat} {W : World} (h : LJ wS A own0 T D0 a all K rec i W) (n : Nat) : LJ wS A own0 T D0 a all K rec i (W.drewN n) := by
  obtain ⟨own, D, h1, h2, h3⟩ := h.drum
  exact ⟨h.mod.trans (Mod.of_below _ (below_drewN W n)), h.h8, h.hl, own, D, h1.below (below_drewN W n), h2, h3⟩
theorem page_of (all : List UInt8) (k i : Nat) (h : all.length = k * 256) (hi : i < k) : (TS.pagesOf all k)[i]? = some ((all.drop (i * 256)).take 256) ∧ ((all.drop (i * 256)).take 256).length = 256 := by
  refine ⟨?_, by rw [List.length_take, List.length_drop, h]; have : (i + 1) * 256 ≤ k * 256 := Nat.mul_le_mul_right _ hi; omega⟩
  unfold TS.pagesOf
  rw [List.getElem?_map, List.getElem?_range hi, Nat.mul_comm i 256]
  rfl
/-- A page of what a slice shows, its capacity cut. -/
theorem Sees.page {w : World} {g cap : Nat} {L : List UInt8} {k i : Nat} (h : Sees w (.slice (some ⟨g, 0, none⟩) L.length cap) L) (hL : L.length = k * 256) (hi : i < k) : Sees w (.slice (some ⟨g, i * 256, none⟩) 256 256) ((L.drop (i * 256)).take 256) := by
  have hlen := (page_of L k i hL hi).2
  have hlt : (i + 1) * 256 ≤ k * 256 := Nat.mul_le_mul_right _ hi
  obtain ⟨ao, c, hv, hc1, hc2, h3⟩ := h
  obtain ⟨g', off', he, hc⟩ := h3 (by omega)
  simp only [Value.slice.injEq] at hv
  obtain ⟨rfl, -, rfl⟩ := hv
  simp only [Option.some.injEq, Addr.mk.injEq, and_true] at he
  obtain ⟨rfl, rfl⟩ := he
  refine ⟨_, 256, by rw [hlen], by rw [hlen]; exact Nat.le_refl _, by decide, fun _ => ⟨g, i * 256, rfl, fun j c hj => ?_⟩⟩
  rw [List.getElem?_take] at hj
  split at hj
  · rw [List.getElem?_drop] at hj
    have := hc _ c hj
    rw [Nat.zero_add] at this
    exact this
  · cases hj
theorem take_snoc {α : Type} {l : List α} {i : Nat} {x : α} (h : l[i]? = some x) : l.take (i + 1) = l.take i ++ [x] := by
  obtain ⟨hi, rfl⟩ := List.getElem?_eq_some_iff.1 h
  rw [List.take_succ_eq_append_getElem hi]
/-- As Ext, opaque to the simplifier. -/
structure Onto (a b : World) : Prop where
  ext : Ext a b
theorem Onto.refl (a : World) : Onto a a := ⟨Ext.refl a⟩
theorem Onto.trans (a b c : World) (h : Onto a b) (k : Onto b c) : Onto a c := ⟨Ext.trans _ _ _ h.ext k.ext⟩
set_option maxRecDepth 100000 in
set_option maxHeartbeats 1600000 in
theorem lay_round {m : Nat} (A : LA) (wS : World) (own0 : Nat → Prop) (T : TS) (D0 : DS) (a : Nat) (all : List UInt8) (K : Nat) (x : Nat → Value) (rec : Loop) (i : Nat) (W : World) (R : Ending → World → Prop)
    (hrec : rec = { state := .ready, pending := none, fn := 111, tmps := #[x 0, x 1, x 2, .pointer (some ⟨A.b3, 0, none⟩), x 4, x 5, .pointer (some ⟨A.b6, 0, none⟩), x 7, .pointer (some ⟨A.b8, 0, none⟩), x 9, x 10, x 11, x 12, x 13, x 14, x 15, x 16, x 17, x 18, x 19, x 20, x 21, x 22, x 23, x 24, x 25, x 26, x 27, x 28, x 29, x 30, x 31, x 32, x 33, x 34, x 35, x 36, x 37, x 38, x 39, x 40, x 41, x 42, x 43, x 44, x 45, x 46, x 47, x 48, x 49, x 50], params := #[30], assign := layAssign, body := layBody, defers := A.kd })
    (hL : all.length = K * 256) (hw : LW wS A own0 T a all) (hK : K ≤ 1000) (hN : D0.waits.length ≤ 900000000) (ha : a ≤ 1048576) (hi : i < K) (hj : LJ wS A own0 T D0 a all K rec i W)
    (hR : ∀ c W', c ≠ 0 → (∃ own D, DrumAt W' A.p own D ∧ TS.wr D0 (T.lo + a / 256) (TS.pagesOf all K) = (c, D) ∧ (∀ k, own k → own0 k ∨ wS.heap.size ≤ k) ∧ Mod (fun k => own0 k ∨ k = A.b8 ∨ k = A.l) wS W') → R (.panicked (gaveUp c)) W') :
    ∃ fn tmps assign body, (Instr.yield A.l #[.slice (some ⟨A.g, 0 + i * 256, none⟩) 256 256]).run Try.prog W = .ok (.round A.l fn tmps assign body) W ∧
      RoundIn Fence.wide m Try.prog A.l fn tmps assign body W (fun e W' => (e = .returned (.bool true) ∧ LJ wS A own0 T D0 a all K rec (i + 1) W') ∨ ∃ c, e = .panicked c ∧ R (.panicked c) W') := by
  have hy := run_yield (P := Try.prog) (args := #[.slice (some ⟨A.g, 0 + i * 256, none⟩) 256 256]) hj.hl (by rw [hrec]; rfl)
  have hbr := run_beginRound (P := Try.prog) hj.hl (by rw [hrec])
  obtain ⟨hp1, hp2⟩ := page_of all K i hL hi
  have hpg := (hw.on hj.mod).pages.page hL hi
  obtain ⟨pg, hpgd⟩ : ∃ pg, pg = (all.drop (i * 256)).take 256 := ⟨_, rfl⟩
  rw [← hpgd] at hp1 hp2 hpg
  obtain ⟨Wb, hWb⟩ : ∃ Wb, Wb = W.putObj A.l (.loop { rec with state := .busy }) := ⟨_, rfl⟩
  rw [← hWb] at hbr
  obtain ⟨own, D, hd, hwr, hsub⟩ := hj.drum
  have hlW : A.l < W.heap.size := (Array.getElem?_eq_some_iff.1 hj.hl).1
  have hol : ¬ own A.l := fun h => by rcases hsub _ h with h' | h' <;> have := hw.ol <;> simp_all <;> omega
  have hmodb : Mod (fun k => own0 k ∨ k = A.b8 ∨ k = A.l) W Wb := by
    rw [hWb]
    refine ⟨rfl, rfl, rfl, by simp, fun k hk ho => World.putObj_heap_other (fun e => ho (.inr (.inr e)))⟩
  have hob : ∀ k, k ≠ A.l → Wb.heap[k]? = W.heap[k]? := fun k hk => by rw [hWb]; exact World.putObj_heap_other hk
  have hlb : Wb.heap[A.l]? = some (.loop { rec with state := .busy }) := by rw [hWb]; exact World.putObj_heap_same hlW
  have hdb : DrumAt Wb A.p own D := hd.keep (fun k hk => hob k (fun e => hol (e ▸ hk))) (by rw [hWb]; simp)
  have hm2 := hj.mod.trans hmodb
  have hwb := hw.on hm2
  have h8b : Wb.heap[A.b8]? = some (.cells #[.int .i64 (i : Int)] 3 (0, 0)) := (hob _ hw.o8.2.2).trans hj.h8
  have hpb : Sees Wb (.slice (some ⟨A.g, i * 256, none⟩) 256 256) pg := hpg.keep (fun k e => hob k (by cases e; exact (hw.out A.g (by simp)).2.2.2))
  have hWN : D.waits.length ≤ 1000000000 := by
    have := TS.wr_waits ((TS.pagesOf all K).take i) D0 (T.lo + a / 256)
    rw [hwr] at this
    rw [List.length_take] at this
    simp only at this
    omega
  have hgo : ¬ own A.g := fun h => by rcases hsub _ h with h' | h' <;> have := hw.out A.g (by simp) <;> simp_all <;> omega
  obtain ⟨b1, b2, b3, b4, b5, b6, b7⟩ := hw.tape.bd
  have hwd := write_any Wb.drew A.p own D ((T.lo : Int) + (a : Int) / 256 + (i : Int)) _ pg (hdb.below (Ext.drew Wb)) hpb.drew (by omega) (fun k e => by cases e; exact hgo) hWN
  have hsn := TS.wr_snoc D0 (T.lo + a / 256) _ pg hwr
  rw [← take_snoc hp1, List.length_take] at hsn
  have hal : ((T.lo + a / 256 + min i (TS.pagesOf all K).length : Nat) : Int) = (T.lo : Int) + (a : Int) / 256 + (i : Int) := by
    have : (TS.pagesOf all K).length = K := by unfold TS.pagesOf; simp
    rw [this, Nat.min_eq_left (by omega)]; omega
  rw [hal] at hsn
  generalize hRR : D.write ((T.lo : Int) + (a : Int) / 256 + (i : Int)) pg = RR at hwd hsn
  obtain ⟨e0, D1⟩ := RR
  have HWD := hid hwd
  have HSN := hid hsn
  have HW := hid hwb
  have HM := hid hm2
  have HL := hid hlb
  have HB8 := hid h8b
  have HR := hid hR
  have HW0 := hid hw
  have HSUB := hid hsub
  have HP1 := hid hp1
  have HYY := hid hy
  have HBR := hid hbr
  have kk : ∀ w', Onto Wb.drew w' → ∀ k v ty, Wb.heap[k]? = some (.cells #[v] ty (0, 0)) → w'.cell? ⟨k, 0, none⟩ = some v := fun w' hh k v ty hk => by
    rw [cell_of_row _ _ _ _ _ _ ((hh.ext.block k (Array.getElem?_eq_some_iff.1 hk).1).trans hk)]; rfl
  have k3 : ∀ w', Onto Wb.drew w' → w'.cell? ⟨A.b3, 0, none⟩ = some (.pointer (some ⟨A.t, 0, none⟩)) := fun w' hh => kk w' hh _ _ _ hwb.h3
  have k6 : ∀ w', Onto Wb.drew w' → w'.cell? ⟨A.b6, 0, none⟩ = some (.int .i64 ((a : Int) / 256)) := fun w' hh => kk w' hh _ _ _ hwb.h6
  have k8 : ∀ w', Onto Wb.drew w' → w'.cell? ⟨A.b8, 0, none⟩ = some (.int .i64 (i : Int)) := fun w' hh => kk w' hh _ _ _ h8b
  have kt : ∀ w', Onto Wb.drew w' → TapeIn w' A.t A.p A.n T := fun w' hh => hwb.tape.below (Ext.trans _ _ _ (Ext.drew Wb) hh.ext)
  have kt0 : ∀ w', Onto Wb.drew w' → w'.cell? ⟨A.t, 0, none⟩ = some (.pointer (some ⟨A.p, 0, none⟩)) := fun w' hh => (kt w' hh).c0
  have kt1 : ∀ w', Onto Wb.drew w' → w'.cell? ⟨A.t, 1, none⟩ = some (I T.lo) := fun w' hh => (kt w' hh).c1
  clear kk kt
  have hw1 : IntKind.i64.wrap ((T.lo : Int) + (a : Int) / 256) = (T.lo : Int) + (a : Int) / 256 := IntWalk.i64_in _ (by omega)
  have hw2 : IntKind.i64.wrap ((T.lo : Int) + (a : Int) / 256 + (i : Int)) = (T.lo : Int) + (a : Int) / 256 + (i : Int) := IntWalk.i64_in _ (by omega)
  have HI := hid hi
  have HLL := hid hL
  clear hWb hpgd hwd hsn hwb hm2 hlb h8b hR hw hsub hp1 hy hbr hpg hpb hdb hd hwr hj hmodb hob hRR hal hgo hL hi
  refine ⟨_, _, _, _, HYY.out, ?_⟩
  clear HYY
  have e1 : rec.fn = 111 := by rw [hrec]
  have e2 : rec.assign = layAssign := by rw [hrec]
  have e3 : rec.body = layBody := by rw [hrec]
  have e4 := congrArg Loop.tmps hrec
  have e5 : rec.params = #[30] := by rw [hrec]
  have e6 : rec.state = .ready ∧ rec.pending = none := by rw [hrec]; exact ⟨rfl, rfl⟩
  have E6 := hid e6
  rw [e1, e2, e3, e4, e5]
  clear e1 e2 e3 e4 e5 e6 hrec
  refine roundIn_of_wpInP (fn := Try.f111) trivial Try.func111 ?_
  simp only [layAssign, layLoop, assignOf, behind, within, Try.f111, Option.getD_some, List.zip_toArray, List.zip_cons_cons, List.zip_nil_right, List.foldl_toArray', List.foldl_cons, List.foldl_nil, List.setIfInBounds_toArray, List.set_cons_zero, List.set_cons_succ]
  refine wpIn_list_round (fun ⟨_, _, h⟩ => h) (by kernel_rfl) ?_
  go_wp2_with fail
  refine ⟨_, HBR.out, ?_⟩
  clear HBR
  simp only [layBody, layLoop, roundOf, behind, within, Try.f111, Option.getD_some]
  refine wpIn_block (wpIn_seq ?_)
  refine wpIn_region_round Onto [13] [(0,0),(1,0),(2,0),(3,0),(4,0),(5,0),(6,0),(7,0),(8,0),(9,0),(10,0),(11,0),(12,0),(13,2),(14,0)] _ (fun ⟨_, _, h⟩ => h) (by kernel_rfl) (by kernel_rfl) rfl Onto.refl Onto.trans (by kernel_rfl) (by simp only [pick, List.getElem?_toArray, List.getElem?_cons_zero, List.getElem?_cons_succ]; rfl) (fun i oi hi c a v w h => by revert h; cases oi.dst <;> exact fun h => h) ?_
  refine wpK_q (v := ?_) (a' := ?_) (by rfl) (fun w' hR => ?_) ?_ ?_
  rotate_left 2
  · go_simp; with_reducible rfl
  · simp only [Act.put, List.setIfInBounds_toArray, List.set_cons_zero, List.set_cons_succ]; rfl
  refine wpK_q (v := ?_) (a' := ?_) (by rfl) (fun w' hR => ?_) ?_ ?_
  rotate_left 2
  · go_simp; with_reducible rfl
  · simp only [Act.put, List.setIfInBounds_toArray, List.set_cons_zero, List.set_cons_succ]; rfl
  refine wpK_q (v := ?_) (a' := ?_) (by rfl) (fun w' hR => ?_) ?_ ?_
  rotate_left 2
  · go_simp; with_reducible rfl
  · simp only [Act.put, List.setIfInBounds_toArray, List.set_cons_zero, List.set_cons_succ]; rfl
  refine wpK_q (v := ?_) (a' := ?_) (by rfl) (fun w' hR => ?_) ?_ ?_
  rotate_left 2
  · go_simp; with_reducible rfl
  · simp only [Act.put, List.setIfInBounds_toArray, List.set_cons_zero, List.set_cons_succ]; rfl
  refine wpK_q (v := ?_) (a' := ?_) (by rfl) (fun w' hR => ?_) ?_ ?_
  rotate_left 2
  · go_simp; with_reducible rfl
  · simp only [Act.put, List.setIfInBounds_toArray, List.set_cons_zero, List.set_cons_succ]; rfl
  refine wpK_q (v := ?_) (a' := ?_) (by rfl) (fun w' hR => ?_) ?_ ?_
  rotate_left 2
  · go_simp; with_reducible rfl
  · simp only [Act.put, List.setIfInBounds_toArray, List.set_cons_zero, List.set_cons_succ]; rfl
  refine wpK_q (v := ?_) (a' := ?_) (by rfl) (fun w' hR => ?_) ?_ ?_
  rotate_left 2
  · go_simp; with_reducible rfl
  · simp only [Act.put, List.setIfInBounds_toArray, List.set_cons_zero, List.set_cons_succ]; rfl
  refine wpK_q (v := ?_) (a' := ?_) (by rfl) (fun w' hR => ?_) ?_ ?_
  rotate_left 2
  · go_simp; with_reducible rfl
  · simp only [Act.put, List.setIfInBounds_toArray, List.set_cons_zero, List.set_cons_succ]; rfl
  refine wpK_q (v := ?_) (a' := ?_) (by rfl) (fun w' hR => ?_) ?_ ?_
  rotate_left 2
  · go_simp; with_reducible rfl
  · simp only [Act.put, List.setIfInBounds_toArray, List.set_cons_zero, List.set_cons_succ]; rfl
  refine wpK_q (v := ?_) (a' := ?_) (by rfl) (fun w' hR => ?_) ?_ ?_
  rotate_left 2
  · go_simp; with_reducible rfl
  · simp only [Act.put, List.setIfInBounds_toArray, List.set_cons_zero, List.set_cons_succ]; rfl
  refine wpK_q (v := ?_) (a' := ?_) (by rfl) (fun w' hR => ?_) ?_ ?_
  rotate_left 2
  · go_simp; with_reducible rfl
  · simp only [Act.put, List.setIfInBounds_toArray, List.set_cons_zero, List.set_cons_succ]; rfl
  refine wpK_q (v := ?_) (a' := ?_) (by rfl) (fun w' hR => ?_) ?_ ?_
  rotate_left 2
  · go_simp; with_reducible rfl
  · simp only [Act.put, List.setIfInBounds_toArray, List.set_cons_zero, List.set_cons_succ]; rfl
  refine wpK_q (v := ?_) (a' := ?_) (by rfl) (fun w' hR => ?_) ?_ ?_
  rotate_left 2
  · go_simp; with_reducible rfl
  · simp only [Act.put, List.setIfInBounds_toArray, List.set_cons_zero, List.set_cons_succ]; rfl
  refine wpK_call Try.func50 (by kernel_rfl) rfl rfl (by rfl) #[.pointer (some ⟨A.p, 0, none⟩), .int .i64 ((T.lo : Int) + (a : Int) / 256 + (i : Int)), .slice (some ⟨A.g, i * 256, none⟩) 256 256] (by simp only [List.map_toArray, List.map_cons, List.map_nil]; rfl) ?_
  refine HWD.out.mono ?_
  rintro e w' ⟨rfl, own', hd, hs', hm'⟩
  have hlt0 : ∀ k, k < wS.heap.size → own k → own0 k := fun k hk ho => (HSUB.out k ho).resolve_right (by omega)
  have hmw : Mod (fun k => own0 k ∨ k = A.b8 ∨ k = A.l) wS w' := (HM.out.trans (Mod.of_below _ (Ext.drew Wb))).then hm' (fun k hk ho => .inl (hlt0 k hk ho))
  have hsub' : ∀ k, own' k → own0 k ∨ wS.heap.size ≤ k := fun k hk => (hs' k hk).elim (HSUB.out k) (fun h => .inr (Nat.le_trans HM.out.size h))
  have hl' : w'.heap[A.l]? = some (.loop { rec with state := .busy }) := (hm'.block _ (Array.getElem?_eq_some_iff.1 HL.out).1 hol).trans HL.out
  have ho8 : ¬ own A.b8 := fun h => HW0.out.o8.2.1 (hlt0 _ HW0.out.o8.1 h)
  have h8' : w'.heap[A.b8]? = some (.cells #[.int .i64 (i : Int)] 3 (0, 0)) := (hm'.block _ (Array.getElem?_eq_some_iff.1 HB8.out).1 ho8).trans HB8.out
  have ho8' : ¬ own' A.b8 := fun h => (hs' _ h).elim ho8 (fun h => by have := (Array.getElem?_eq_some_iff.1 HB8.out).1; have e : Wb.drew.heap.size = Wb.heap.size := rfl; omega)
  have hol' : ¬ own' A.l := fun h => (hs' _ h).elim hol (fun h => by have := (Array.getElem?_eq_some_iff.1 HL.out).1; have e : Wb.drew.heap.size = Wb.heap.size := rfl; omega)
  have HD := hid hd
  have HS := hid hsub'
  have HMW := hid hmw
  have HL' := hid hl'
  have HO8 := hid ho8'
  have HOL := hid hol'
  have H8 := hid h8'
  have c8 : w'.cell? ⟨A.b8, 0, none⟩ = some (.int .i64 (i : Int)) := by rw [cell_of_row _ _ _ _ _ _ h8']; rfl
  have f8 : w'.frozen? ⟨A.b8, 0, none⟩ = false := frozen_row h8' 0
  have hi64 : IntKind.i64.wrap ((i : Int) + 1) = (i : Int) + 1 := IntWalk.i64_in _ (by have := HI.out; omega)
  clear hd k3 k6 k8 kt0 kt1 HWD hs' hm' hmw hsub' hl' ho8 h8' ho8' hol' hlt0 HL HB8 HW HM HSUB hol
  refine ⟨_, rfl, fun h => (by cases h), ?_⟩
  refine wpK_q (v := ?_) (a' := ?_) (by rfl) (fun w' hR => ?_) ?_ ?_
  rotate_left 2
  · go_simp; with_reducible rfl
  · simp only [Act.put, List.setIfInBounds_toArray, List.set_cons_zero, List.set_cons_succ]; rfl
  refine wpK_done ?_
  refine wpIn_seq ?_
  refine wpIn_list_round (fun ⟨_, _, h⟩ => h) (by kernel_rfl) ?_
  by_cases h0 : e0 = 0
  · subst h0
    go_wp2_with (go_at_call 108; refine (unless_ok _ _).mono ?_; rintro e w2 ⟨rfl, rfl⟩)
    refine wpIn_list_round (fun ⟨_, _, h⟩ => h) (by kernel_rfl) ?_
    go_wp2_with fail
    have hl2 := (heap_setCell_other w' ⟨A.b8, 0, none⟩ A.l (.int .i64 ((i : Int) + 1)) (Ne.symm HW0.out.o8.2.2)).trans HL'.out
    have hre : ({ rec with state := .ready, pending := none } : Loop) = rec := by
      obtain ⟨h1, h2⟩ := E6.out
      cases rec
      simp_all
    refine ⟨_, _, run_endRound (P := Try.prog) none hl2, .inl ⟨rfl, ?_⟩⟩
    simp only [Option.isNone_none, if_true]
    rw [hre]
    have hkp : ∀ k, k ≠ A.b8 → k ≠ A.l → ((w'.setCell ⟨A.b8, 0, none⟩ (.int .i64 ((i : Int) + 1))).putObj A.l (.loop rec)).heap[k]? = w'.heap[k]? := fun k h1 h2 => (World.putObj_heap_other h2).trans (heap_setCell_other w' ⟨A.b8, 0, none⟩ k _ h1)
    refine ⟨HMW.out.trans ⟨rfl, rfl, rfl, by simp, fun k hk ho => hkp k (fun e => ho (.inr (.inl e))) (fun e => ho (.inr (.inr e)))⟩, ?_, World.putObj_heap_same (Array.getElem?_eq_some_iff.1 hl2).1, ?_⟩
    · refine (World.putObj_heap_other HW0.out.o8.2.2).trans ?_
      rw [heap_setCell_same w' A.b8 0 _ _ _ H8.out]
      simp
    · exact ⟨own', D1, HD.out.keep (fun k hk => hkp k (fun e => HO8.out (e ▸ hk)) (fun e => HOL.out (e ▸ hk))) (by simp), HSN.out, HS.out⟩
  · have hb : (e0 == 0) = false := by simpa using h0
    have H0 := hid h0
    clear h0
    go_wp2_with (go_at_call 108; refine (unless_no _ _).mono ?_; rintro e w2 ⟨rfl, rfl⟩)
    refine ⟨rfl, .inr ⟨gaveUp e0, rfl, HR.out e0 w' H0.out ⟨own', D1, HD.out, ?_, HS.out, HMW.out⟩⟩⟩
    rw [← List.take_append_drop (i + 1) (TS.pagesOf all K), TS.wr_stop _ _ _ _ (by rw [HSN.out]; exact H0.out)]
    exact HSN.out
end Go.Proofs.Ytoaeapnkefjpaaa

namespace Go.Proofs.Ytoaeapnkefjpaaa
open Go.RowKit
set_option linter.unusedVariables false
set_option linter.unusedSimpArgs false

theorem wpList_zeros {ops : Array Oper} {rest : List Oper} {o : Oper} {a : Act} {w : World} {Q : Exit → Act → World → Prop} (hgd : o.guard = none) (s x : Operand)
    (ho : o.op = .call { callee := .builtin .append, args := #[s, x], argTypes := #[23, 3] }) (base n : Nat) (xs : List Value) (k : Nat) (hx : a.eval x = .int .i64 k)
    (hown : w.ownsRow base 5 1 (a.eval s) n xs) (hn : 0 < n) (hk : n + k ≤ 1000000000) (hbase : base ≤ w.heap.size)
    (h : ∀ v' w', w'.ownsRow base 5 1 v' (n + k) (xs ++ List.replicate k (B 0)) → w.grownBy w' (a.eval s).ownBlock → (v'.ownBlock = (a.eval s).ownBlock ∨ v'.ownBlock = some w.heap.size) → wpList Try.prog ops Q rest (a.put o.dst v') w') : wpList Try.prog ops Q (o :: rest) a w := by
  refine wpList_plain hgd fun K hK => ?_
  obtain ⟨v', w', hr, h2, h3, h4⟩ := run_app_zeros w base o.type (a.eval s) n xs hown k hn hk hbase
  unfold Oper.wp execOp
  simp only [ho, resolve, invoke, builtin, Sem.run_bind, Sem.run_pure, Result.andThen_ok, List.map_toArray, List.map_cons, List.map_nil, hx, hr]
  exact hK _ _ (h v' w' h2 h3 h4)
theorem heap_five {w W : World} {o0 o1 o2 o3 o4 : Obj} (h : W = ((((w.alloc o0).alloc o1).alloc o2).alloc o3).alloc o4) :
    W.heap.size = w.heap.size + 5 ∧ W.heap[w.heap.size]? = some o0 ∧ W.heap[w.heap.size + 1]? = some o1 ∧ W.heap[w.heap.size + 1 + 1]? = some o2 ∧ W.heap[w.heap.size + 3]? = some o3 ∧ W.heap[w.heap.size + 4]? = some o4 ∧ ∀ k, k < w.heap.size → W.heap[k]? = w.heap[k]? := by
  have e : ∀ (w : World) (o : Obj) (k : Nat), k < w.heap.size → (w.alloc o).heap[k]? = w.heap[k]? := fun w o k hk => Below.heap_alloc w o k hk
  have z : ∀ (w : World) (o : Obj), (w.alloc o).heap.size = w.heap.size + 1 := fun w o => by simp
  rw [h]
  refine ⟨by simp only [z], ?_, ?_, ?_, ?_, ?_, fun k hk => ?_⟩
  · rw [e _ _ _ (by simp only [z]; omega), e _ _ _ (by simp only [z]; omega), e _ _ _ (by simp only [z]; omega), e _ _ _ (by simp only [z]; omega)]; exact heap_alloc_new _ _
  · rw [e _ _ _ (by simp only [z]; omega), e _ _ _ (by simp only [z]; omega), e _ _ _ (by simp only [z]; omega)]; exact heap_alloc_at (z _ _)
  · rw [e _ _ _ (by simp only [z]; omega), e _ _ _ (by simp only [z]; omega)]; exact heap_alloc_at (by simp only [z])
  · rw [e _ _ _ (by simp only [z]; omega)]; exact heap_alloc_at (by simp only [z])
  · exact heap_alloc_at (by simp only [z])
  · rw [e _ _ _ (by simp only [z]; omega), e _ _ _ (by simp only [z]; omega), e _ _ _ (by simp only [z]; omega), e _ _ _ (by simp only [z]; omega), e _ _ _ hk]
theorem heap_alloc2 {w W : World} {x o : Obj} (h : W = (w.alloc x).alloc o) : W.heap[w.heap.size + 1]? = some o := by rw [h]; exact heap_alloc_at (by simp)
/-- The loop over the pages, and the way out of the function. -/
theorem lay_tail (A : LA) (W : World) (own : Nat → Prop) (T : TS) (D : DS) (a : Nat) (all : List UInt8) (K : Nat) (tm : Array Value) (act : Act) (R : Ending → World → Prop)
    (hl : W.heap[A.l]? = some (.loop { state := .ready, pending := none, fn := 111, tmps := tm, params := #[30], assign := layAssign, body := layBody, defers := A.kd }))
    (htm : tm = #[tm.getD 0 undef, tm.getD 1 undef, tm.getD 2 undef, .pointer (some ⟨A.b3, 0, none⟩), tm.getD 4 undef, tm.getD 5 undef, .pointer (some ⟨A.b6, 0, none⟩), tm.getD 7 undef, .pointer (some ⟨A.b8, 0, none⟩), tm.getD 9 undef, tm.getD 10 undef, tm.getD 11 undef, tm.getD 12 undef, tm.getD 13 undef, tm.getD 14 undef, tm.getD 15 undef, tm.getD 16 undef, tm.getD 17 undef, tm.getD 18 undef, tm.getD 19 undef, tm.getD 20 undef, tm.getD 21 undef, tm.getD 22 undef, tm.getD 23 undef, tm.getD 24 undef, tm.getD 25 undef, tm.getD 26 undef, tm.getD 27 undef, tm.getD 28 undef, tm.getD 29 undef, tm.getD 30 undef, tm.getD 31 undef, tm.getD 32 undef, tm.getD 33 undef, tm.getD 34 undef, tm.getD 35 undef, tm.getD 36 undef, tm.getD 37 undef, tm.getD 38 undef, tm.getD 39 undef, tm.getD 40 undef, tm.getD 41 undef, tm.getD 42 undef, tm.getD 43 undef, tm.getD 44 undef, tm.getD 45 undef, tm.getD 46 undef, tm.getD 47 undef, tm.getD 48 undef, tm.getD 49 undef, tm.getD 50 undef]) (hact : act.defers = [{ target := .collected A.kd, args := #[] }])
    (hL : all.length = K * 256) (hw : LW W A own T a all) (hd : DrumAt W A.p own D) (h8 : W.heap[A.b8]? = some (.cells #[.int .i64 0] 3 (0, 0))) (hK : K ≤ 1000) (hcap : all.length ≤ A.cap) (hcm : A.cap ≤ 9223372036854775807) (hN : D.waits.length ≤ 900000000) (ha : a ≤ 1048576)
    (hR : ∀ own' D' W' c, DrumAt W' A.p own' D' → TS.wr D (T.lo + a / 256) (TS.pagesOf all K) = (c, D') → (∀ k, own' k → own k ∨ W.heap.size ≤ k) → Mod (fun k => own k ∨ k = A.b8 ∨ k = A.l ∨ k = A.kd) W W' → R (endOr c (.tuple #[])) W') :
    Calls Try.prog 115 #[.func (.yield A.l) #[] #[], .pointer (some ⟨A.bs, 0, none⟩), .pointer (some ⟨A.bn, 0, none⟩)] W (rangeEnd Try.prog A.l (Plain2 (bodyPostM Fence.wide 5 Try.prog Try.f111 R)) act) := by
  obtain ⟨rec, hrec⟩ : ∃ rec : Loop, rec = { state := .ready, pending := none, fn := 111, tmps := tm, params := #[30], assign := layAssign, body := layBody, defers := A.kd } := ⟨_, rfl⟩
  rw [← hrec] at hl
  have hwr : TS.wr D (T.lo + a / 256) ((TS.pagesOf all K).take 0) = (0, D) := by simp [TS.wr]
  -- behind the mark
  have hkd : ∀ (own' : Nat → Prop) (D' : DS) (c : Int) (W' : World), DrumAt W' A.p own' D' → TS.wr D (T.lo + a / 256) (TS.pagesOf all K) = (c, D') → (∀ k, own' k → own k ∨ W.heap.size ≤ k) → Mod (fun k => own k ∨ k = A.b8 ∨ k = A.l) W W' →
      W'.heap[A.kd]? = some (.deferred (some [])) ∧ R (endOr c (.tuple #[])) (W'.putObj A.kd (.deferred none)) := by
    intro own' D' c W' h1 h2 h3 h4
    have hk := (hw.on h4).hd
    have hok : ¬ own' A.kd := fun h => by
      have := hw.out A.kd (by simp)
      rcases h3 _ h with h' | h'
      · exact this.2.1 h'
      · omega
    refine ⟨hk, hR own' D' _ c (h1.keep (fun k hk => World.putObj_heap_other (fun e => hok (e ▸ hk))) (by simp)) h2 h3 ?_⟩
    refine (h4.mono (fun k _ h => ?_)).trans ⟨rfl, rfl, rfl, by simp, fun k hk ho => World.putObj_heap_other (fun e => ho (.inr (.inr (.inr e))))⟩
    rcases h with h | h | h
    · exact .inl h
    · exact .inr (.inl h)
    · exact .inr (.inr (.inl h))
  refine (callsIn_wide (n := 1)).1 (iter_any (m := 0) A.l A.bs A.bn A.g 0 A.cap K all.length hL W (LJ W A own T D a all K rec) _ hcap hcm ?_ ?_ ?_ ?_ ?_)
  · exact ⟨Mod.refl _ _, h8, hl, own, D, hd, hwr, fun k hk => .inl hk⟩
  · intro i W' hj
    have h := hw.on hj.mod
    exact ⟨by rw [cell_of_row _ _ _ _ _ _ h.hs]; rfl, by rw [cell_of_row _ _ _ _ _ _ h.hn]; rfl⟩
  · intro i W' hi hj
    refine lay_round A W own T D a all K (fun i => tm.getD i undef) rec i W' _ ?_ hL hw hK hN ha hi hj ?_
    · rw [hrec]
      congr 1
    · rintro c W2 hc ⟨own', D', h1, h2, h3, h4⟩
      obtain ⟨k1, k2⟩ := hkd own' D' c W2 h1 h2 h3 h4
      show LeavesInM Fence.wide 5 Try.prog Try.f111 act.tmps R act.defers (.panicking (gaveUp c)) W2
      rw [hact]
      refine ⟨by simp, .inl ⟨_, _, rfl, run_takeDeferred k1, ?_⟩⟩
      show R (.panicked (gaveUp c)) _
      rw [endOr_no (by simpa using hc)]
      exact k2
  · exact fun i W' n hj => hj.drewN n
  · intro W' hj
    obtain ⟨own', D', h1, h2, h3⟩ := hj.drum
    have hal : (TS.pagesOf all K).take K = TS.pagesOf all K := List.take_of_length_le (by unfold TS.pagesOf; simp)
    rw [hal] at h2
    have hlt : A.l < W'.heap.size := (Array.getElem?_eq_some_iff.1 hj.hl).1
    have hol : ¬ own' A.l := fun h => by
      rcases h3 _ h with h' | h'
      · exact hw.ol.2 h'
      · have := hw.ol.1; omega
    have hend := run_endLoop (P := Try.prog) hj.hl (by rw [hrec]; simp)
    obtain ⟨W2, hW2⟩ : ∃ W2, W2 = W'.putObj A.l (.loop { rec with state := .exhausted }) := ⟨_, rfl⟩
    rw [← hW2, show rec.pending = none from by rw [hrec]] at hend
    obtain ⟨k1, k2⟩ := hkd own' D' 0 W2 (h1.keep (fun k hk => by rw [hW2]; exact World.putObj_heap_other (fun e => hol (e ▸ hk))) (by rw [hW2]; simp)) h2 h3 (hj.mod.trans (by rw [hW2]; exact ⟨rfl, rfl, rfl, by simp, fun k hk ho => World.putObj_heap_other (fun e => ho (.inr (.inr e)))⟩))
    refine ⟨W2, hend, ?_⟩
    show LeavesInM Fence.wide 5 Try.prog Try.f111 act.tmps R act.defers .returning W2
    rw [hact]
    refine ⟨by simp, .inl ⟨_, _, rfl, run_takeDeferred k1, ?_⟩⟩
    exact ⟨_, results_none rfl _ _ _, k2⟩
set_option maxRecDepth 100000 in
set_option maxHeartbeats 1600000 in
theorem tlay_any (w : World) (t p : Nat) (own : Nat → Prop) (T : TS) (D : DS) (a : Nat) (v : Value) (b : List UInt8) (h : TapeIn w t p D.safe.length T) (hd : DrumAt w p own D) (ht : ¬ own t) (ha : a ≤ T.size) (ho : D.off = false ∨ a % 256 = 0) (hv : Sees w v b) (hvo : ∀ k, v.ownBlock = some k → ¬ own k) (hb0 : 0 < b.length) (hb1 : b.length ≤ 66000) (hN : D.waits.length ≤ 900000000) :
    Calls Try.prog 111 #[.pointer (some ⟨t, 0, none⟩), I a, v] w fun e w' => e = endOr (TS.laid D T a b).1 (.tuple #[]) ∧ Drummed' own p w (TS.laid D T a b).2 w' := by
  obtain ⟨b1, b2, b3, b4, b5, b6, b7⟩ := h.bd
  have H := hid h
  have HD := hid hd
  have HV := hid hv
  have HVO := hid hvo
  have HT := hid ht
  have HO := hid ho
  have ha2 : a ≤ 1048576 := by omega
  clear h hd hv hvo ht ho b7
  obtain ⟨av, cv, rfl, hbl⟩ := HV.out.form0
  have hmf := closes
  refine calls_of_wpFn (n := 5) Try.func111 rfl ?_
  simp only [Try.ntmps111, List.size_toArray, List.length_cons, List.length_nil, Nat.reduceAdd, Nat.reduceSub, Array.replicate_succ, Array.replicate_zero, List.push_toArray, List.append_toArray, List.nil_append, List.cons_append]
  refine wpFn_seq ?_
  go_wp2_with fail
  refine wpFn_seq ?_
  go_wp2_with fail
  refine wpFn_seq ?_
  go_wp2_with fail
  obtain ⟨wA, hwA⟩ : ∃ wA, wA = (w.alloc (.cells #[.pointer (some ⟨t, 0, none⟩)] 86)).alloc (.cells #[.int .i64 ((a : Int) / 256)] 3) := ⟨_, rfl⟩
  rw [← hwA]
  have hBA : Below w.heap.size w wA := by rw [hwA]; exact ((Below.refl _ _).alloc (Nat.le_refl _) _).alloc (by simp) _
  have hzA : wA.heap.size = w.heap.size + 2 := by rw [hwA]; simp
  have hgt : wA.heap[w.heap.size]? = some (.cells #[.pointer (some ⟨t, 0, none⟩)] 86 (0, 0)) := by rw [hwA]; exact (Below.heap_alloc _ _ _ (by simp)).trans (heap_alloc_new _ _)
  have hg6 : wA.heap[w.heap.size + 1]? = some (.cells #[.int .i64 ((a : Int) / 256)] 3 (0, 0)) := by rw [hwA]; exact heap_alloc_at (by simp)
  have hah := ahead_any wA t p own T D (H.out.below hBA) (HD.out.below hBA) a ha HO.out
  have q1 : ((a / 256 * 256 : Nat) : Int) = (a : Int) / 256 * 256 := by omega
  have q2 : ((a % 256 : Nat) : Int) = (a : Int) % 256 := by omega
  rw [q1, q2] at hah
  obtain ⟨X0, hX0⟩ : ∃ X0, X0 = TS.ahead D T a := ⟨_, rfl⟩
  rw [← hX0] at hah
  have hX0l : X0.length = a % 256 := by
    rw [hX0]
    unfold TS.ahead
    have : (TS.bytes D T).length = T.size := TS.stretch_len HD.out.ok (by omega)
    rw [List.length_take, List.length_drop, this]; omega
  have HBA := hid hBA
  have HGT := hid hgt
  have HG6 := hid hg6
  have HX0 := hid hX0
  have HZA := hid hzA
  clear q1 q2 hwA hBA hgt hg6 hX0 hzA
  refine hah.mono ?_
  rintro e w1 ⟨v1, rfl, ho1, hb1'⟩
  rw [hX0l] at ho1
  obtain ⟨av1, cv1, rfl⟩ := own_form ho1
  have HO1 := hid ho1
  have HB1 := hid hb1'
  have hsA : wA.heap.size ≤ w1.heap.size := hb1'.size
  have HVs := hid (HV.out.below (Ext.trans _ _ _ HBA.out hb1'))
  clear ho1 hb1' hah
  obtain ⟨n1, hn1⟩ : ∃ n1 : Nat, n1 = a % 256 + b.length := ⟨_, rfl⟩
  obtain ⟨kz, hkz⟩ : ∃ kz : Nat, kz = (256 - n1 % 256) % 256 := ⟨_, rfl⟩
  obtain ⟨K, hK⟩ : ∃ K : Nat, n1 + kz = K * 256 := ⟨(n1 + kz) / 256, by omega⟩
  have hn1b : 0 < n1 ∧ n1 ≤ 66256 := by omega
  have hkzb : kz ≤ 255 := by omega
  go_wp2_with (at_builtin; refine wpList_app rfl (.tmp 18) (.tmp 19) 23 rfl wA.heap.size 5 (.int .u8 0) 1 1 Try.underlying23 info5 rfl (by decide) (a % 256) (X0.map B) b.length (b.map B) HO1.out HVs.out.src ?h63 ?hb hsA ?_)
  case h63 => unfold maxLen; omega
  case hb => omega
  intro v2 w2 hown hgrow hat
  rw [← List.map_append, ← hn1] at hown
  obtain ⟨av2, cv2, rfl⟩ := own_form hown
  have hb2 : Below w.heap.size w w2 := (Ext.trans _ _ _ HBA.out HB1.out).grown hgrow (by have := HBA.out.size; omega) (fun k hk => by have := (own_lt HO1.out k hk).1; have := HBA.out.size; omega)
  have hbA2 : Below wA.heap.size wA w2 := HB1.out.grown hgrow hsA (fun k hk => (own_lt HO1.out k hk).1)
  have HO2 := hid hown
  have HB2 := hid hb2
  have HBA2 := hid hbA2
  have HN1 := hid hn1
  have HKZ := hid hkz
  have HK := hid hK
  have hsz2 : wA.heap.size ≤ w2.heap.size := hbA2.size
  have hkk : (-((n1 : Int) % 256)) % 256 = (kz : Int) := by omega
  clear hown hgrow hat hb2 hn1 hkz hK HO1 HB1 HVs hbA2
  go_wp2_with fail
  refine wpFn_seq ?_
  go_wp2_with (at_builtin; refine wpList_zeros rfl (.tmp 21) (.tmp 26) rfl wA.heap.size n1 ((X0 ++ b).map B) kz ?hx HO2.out hn1b.1 ?hkn hsz2 ?_)
  case hx =>
    show Value.int .i64 ((256 - (n1 : Int) % 256) % 256) = _
    have := HKZ.out
    congr 1
    omega
  case hkn => omega
  intro v3 w3 hown hgrow hat
  have hz8 : (X0 ++ b ++ List.replicate kz 0).length = K * 256 := by
    have := HN1.out; have := HK.out
    rw [List.length_append, List.length_append, List.length_replicate, hX0l]; omega
  obtain ⟨all, hall⟩ : ∃ all, all = X0 ++ b ++ List.replicate kz 0 := ⟨_, rfl⟩
  have hrow : w3.ownsRow wA.heap.size 5 1 v3 (K * 256) (all.map B) := by
    exact own_len hown HK.out (by rw [hall]; simp)
  rw [← hall] at hz8
  obtain ⟨N, hNN⟩ : ∃ N, N = K * 256 := ⟨_, rfl⟩
  rw [← hNN] at hrow hz8
  obtain ⟨g, cap, rfl, g1, g2, g3, g4⟩ := own_slice hrow (by have := HK.out; omega)
  unfold maxLen at g2
  have hb3 : Below w.heap.size w w3 := HB2.out.grown hgrow (by have := HB2.out.size; omega) (fun k hk => by have := (own_lt HO2.out k hk).1; have := HBA.out.size; omega)
  have hgz : Below wA.heap.size wA w3 := HBA2.out.grown hgrow hsz2 (fun k hk => (own_lt HO2.out k hk).1)
  have HB3 := hid hb3
  have HS3 := hid (own_sees' hrow hz8)
  have HAL := hid hall
  have HLN := hid hz8
  have HNK := hid hNN
  have HG3 := hid hgz
  have hsz3 : wA.heap.size ≤ w3.heap.size := hgz.size
  clear hown hgrow hat hrow hall hz8 hNN hb3 HO2 HB2 HBA2 hgz
  go_wp2_with fail
  refine wpFn_seq ?_
  go_wp2_with fail
  refine wpFn_seq ?_
  go_wp2_with (go_at_call 114; refine (chunk_any _ _ ⟨_, _, _, rfl⟩).mono ?_; rintro e w4 ⟨rfl, hw4⟩)
  refine wpFn_block (wpFn_range (it := 115) rfl (fun args W => by simp [go_sem]) ?_)
  intro W hW
  have hz4 : w4.heap.size = w3.heap.size + 3 := by rw [← hw4]; simp
  have hzA := HZA.out
  have hz3 : w.heap.size + 2 ≤ w3.heap.size := by omega
  have hzW : W.heap.size = w3.heap.size + 5 := by rw [hW]; simp [hz4]
  have hlt := HD.out.lt
  have htl := H.out.lt
  obtain ⟨-, h8', hs', hn', -, -, ex⟩ := heap_five (show W = _ from by rw [hW, ← hw4])
  have ex0 : ∀ k, k < w.heap.size → W.heap[k]? = w.heap[k]? := fun k hk => (ex k (by omega)).trans (HB3.out.block k hk)
  have exA : ∀ k, k < w.heap.size + 2 → W.heap[k]? = wA.heap[k]? := fun k hk => (ex k (by omega)).trans (HG3.out.block k (by omega))
  have hl' := heap_alloc2 hW
  have hk' : W.heap[w4.heap.size]? = some (.deferred (some [])) := by rw [hW]; exact (Below.heap_alloc _ _ _ (by simp)).trans (heap_alloc_new _ _)
  have hxx : ((TS.stretch D T.lo (T.hi - T.lo)).drop (a / 256 * 256)).take (a % 256) = X0 := by rw [HX0.out]; rfl
  have hpad : TS.padded D T a b = all := by
    unfold TS.padded
    simp only [hxx]
    rw [HAL.out, List.length_append, hX0l, HKZ.out, HN1.out]
  have hNa := HLN.out
  have hNk := HNK.out
  subst hNa
  have hlaid : TS.laid D T a b = TS.wr D (T.lo + a / 256) (TS.pagesOf all K) := by
    unfold TS.laid
    rw [hpad, hNk, Nat.mul_div_cancel _ (by decide)]
  have hbW : Below w.heap.size w W := HB3.out.trans ⟨by rw [hW, ← hw4]; rfl, by rw [hW, ← hw4]; rfl, by rw [hW, ← hw4]; rfl, by omega, fun k hk => ex k (by omega)⟩
  refine lay_tail { t := t, p := p, l := w4.heap.size + 1, kd := w4.heap.size, b3 := w.heap.size, b6 := w.heap.size + 1, b8 := w3.heap.size, bs := w3.heap.size + 1, bn := w3.heap.size + 1 + 1, g := g, n := D.safe.length, cap := cap } W own T D a all K _ _ _ hl' ?htm rfl hNk ?hw (HD.out.below hbW) h8' ?hK g1 (by omega) hN ha2 ?hR
  case htm => rfl
  case hK => have := HK.out; omega
  case hR =>
    intro own' D' W' c h1 h2 h3 h4
    rw [hlaid, h2]
    refine ⟨rfl, own', h1, fun k hk => (h3 k hk).imp id (fun h => by omega), (Mod.of_below own hbW).then h4 (fun k hk h => ?_)⟩
    simp only at h
    rcases h with h | h | h | h
    · exact h
    all_goals omega
  case hw =>
    have nl : ∀ k, w.heap.size ≤ k → ¬ own k := fun k hk h => by have := hlt k h; omega
    refine ⟨(H.out.below hbW), (exA w.heap.size (by omega)).trans HGT.out, (exA (w.heap.size + 1) (by omega)).trans HG6.out, HS3.out.keep (fun k e => ex k (by cases e; exact g4)), hs', hn', hk', ?_, ⟨by simp only; omega, nl _ (by simp only; omega), by simp only; omega⟩, ⟨by simp only; omega, nl _ (by simp only; omega)⟩⟩
    · simp only
      rintro k (rfl | rfl | rfl | rfl | rfl | rfl | rfl)
      · exact ⟨by omega, HT.out, by omega, by omega⟩
      all_goals exact ⟨by omega, nl _ (by omega), by omega, by omega⟩
end Go.Proofs.Ytoaeapnkefjpaaa

namespace Go.Proofs.Ytoaeapnkefjpaaa
open Go.RowKit
set_option linter.unusedVariables false
set_option linter.unusedSimpArgs false

/-- An error's code. -/
def Code1 (c : Int) : Prop := c = 0 ∨ c = 1 ∨ c = 20
theorem Code1.bd {c : Int} (h : Code1 c) : -9223372036854775808 ≤ c ∧ c ≤ 9223372036854775807 := by rcases h with rfl | rfl | rfl <;> decide
theorem DS.Off_len (D : DS) (k : Int) : (D.Off k).safe.length = D.safe.length := by
  unfold DS.Off
  split
  · rfl
  · exact DS.lay_len _ _ _
theorem DS.op_len (D : DS) : D.op.safe.length = D.safe.length := by
  unfold DS.op
  split
  · split
    · exact DS.Off_len _ _
    · rfl
  · rfl
theorem DS.write_len (D : DS) (a : Int) (l : List UInt8) : (D.write a l).2.safe.length = D.safe.length := by
  unfold DS.write
  split
  · rfl
  · split
    · rfl
    · simp only []
      have := DS.op_len { D with waits := D.waits ++ [(a.toNat, l)] }
      split <;> exact this
theorem DS.Flush_len (D : DS) : D.Flush.2.safe.length = D.safe.length := by
  unfold DS.Flush
  split
  · rfl
  · simp only []
    have := DS.op_len D
    split
    · exact this
    · rw [DS.flush_len]; exact this
theorem DS.Flush_waits (D : DS) : D.Flush.2.waits.length ≤ D.waits.length := by
  unfold DS.Flush
  split
  · exact Nat.le_refl _
  · simp only []
    split
    · exact DS.op_waits' D
    · simp
theorem DS.Flush_on {D : DS} (h : D.Flush.1 = 0) : D.Flush.2.off = false := by
  unfold DS.Flush at h ⊢
  split at h
  · cases h
  · rename_i h1
    rw [if_neg h1]
    simp only [] at h ⊢
    split at h
    · cases h
    · rename_i h2
      rw [if_neg h2]
      simpa using h2
theorem DS.write_on' {D : DS} {a : Int} {l : List UInt8} (h : (D.write a l).1 = 0) : (D.write a l).2.off = false := by
  unfold DS.write at h ⊢
  split at h
  · cases h
  · rename_i h0
    rw [if_neg h0]
    split at h
    · cases h
    · rename_i h1
      rw [if_neg h1]
      simp only [] at h ⊢
      split at h
      · cases h
      · rename_i h2
        rw [if_neg h2]
        simpa using h2
theorem DS.write_code (D : DS) (a : Int) (l : List UInt8) : Code1 (D.write a l).1 := by
  unfold DS.write
  split
  · exact .inr (.inl rfl)
  · split
    · exact .inr (.inr rfl)
    · simp only []
      split
      · exact .inr (.inr rfl)
      · exact .inl rfl
theorem DS.Flush_code (D : DS) : Code1 D.Flush.1 := by
  unfold DS.Flush
  split
  · exact .inr (.inr rfl)
  · simp only []
    split
    · exact .inr (.inr rfl)
    · exact .inl rfl
theorem TS.wr_len : ∀ (l : List (List UInt8)) (D : DS) (a : Nat), (TS.wr D a l).2.safe.length = D.safe.length
  | [], _, _ => rfl
  | p :: ps, D, a => by
    rw [TS.wr]
    split
    · rw [TS.wr_len ps, DS.write_len]
    · exact DS.write_len _ _ _
theorem TS.wr_code : ∀ (l : List (List UInt8)) (D : DS) (a : Nat), Code1 (TS.wr D a l).1
  | [], _, _ => .inl rfl
  | p :: ps, D, a => by
    rw [TS.wr]
    split
    · exact TS.wr_code ps _ _
    · exact DS.write_code _ _ _
/-- What lay comes to. -/
def TS.layR (D : DS) (T : TS) (a : Nat) (b : List UInt8) : Int × DS := if D.off then (20, D) else TS.laid D T a b
theorem TS.layR_len (D : DS) (T : TS) (a : Nat) (b : List UInt8) : (TS.layR D T a b).2.safe.length = D.safe.length := by
  unfold TS.layR
  split
  · rfl
  · exact TS.wr_len _ _ _
theorem TS.layR_code (D : DS) (T : TS) (a : Nat) (b : List UInt8) : Code1 (TS.layR D T a b).1 := by
  unfold TS.layR
  split
  · exact .inr (.inr rfl)
  · exact TS.wr_code _ _ _
theorem TS.layR_waits (D : DS) (T : TS) (a : Nat) (b : List UInt8) (hb : b.length ≤ 66000) : (TS.layR D T a b).2.waits.length ≤ D.waits.length + 300 := by
  unfold TS.layR
  split
  · simp
  · unfold TS.laid
    have h := TS.wr_waits (TS.pagesOf (TS.padded D T a b) ((TS.padded D T a b).length / 256)) D (T.lo + a / 256)
    have h2 : (TS.pagesOf (TS.padded D T a b) ((TS.padded D T a b).length / 256)).length = (TS.padded D T a b).length / 256 := by unfold TS.pagesOf; simp
    have h3 : (TS.padded D T a b).length ≤ 67000 := by
      unfold TS.padded
      simp only [List.length_append, List.length_replicate]
      have := List.length_take_le (a % 256) ((TS.stretch D T.lo (T.hi - T.lo)).drop (a / 256 * 256))
      omega
    omega
/-- do, a step at a time. -/
theorem TS.doIt_eq (D : DS) (T : TS) (r : List UInt8) : TS.doIt D T r =
    (let x1 := TS.layR D T T.pos (TS.body T r)
     if x1.1 ≠ 0 then (x1.1, x1.2, { T with sick := x1.1 }) else
     let x2 := x1.2.Flush
     if x2.1 ≠ 0 then (x2.1, x2.2, { T with sick := x2.1 }) else
     let x3 := x2.2.write (T.lo + T.pos / 256 : Nat) (TS.marked x2.2 T)
     if x3.1 ≠ 0 then (x3.1, x3.2, { T with sick := x3.1 }) else
     let x4 := x3.2.Flush
     if x4.1 ≠ 0 then (x4.1, x4.2, { T with sick := x4.1 }) else
     (0, x4.2, { T with pos := T.pos + 12 + r.length, count := T.count + 1 })) := by
  unfold TS.doIt TS.layR
  cases D.off with
  | true => simp
  | false => simp
theorem TS.body_len' (T : TS) (r : List UInt8) : (TS.body T r).length = if T.pos + (12 + r.length) < T.size then 12 + r.length + 1 else 12 + r.length := by
  unfold TS.body
  simp only [List.length_cons, List.length_append, TS.framed_len]
  split <;> simp <;> omega
theorem TS.body_len (T : TS) (r : List UInt8) : 0 < (TS.body T r).length ∧ (TS.body T r).length ≤ 13 + r.length := by
  unfold TS.body
  simp only [List.length_cons, List.length_append, TS.framed_len]
  split <;> simp <;> omega
end Go.Proofs.Ytoaeapnkefjpaaa

namespace Go.Proofs.Ytoaeapnkefjpaaa
open Go.RowKit
set_option linter.unusedVariables false
set_option linter.unusedSimpArgs false

theorem TS.padded_len (D : DS) (T : TS) (a : Nat) (b : List UInt8) : (TS.padded D T a b).length % 256 = 0 := by
  unfold TS.padded
  simp only [List.length_append, List.length_replicate]
  omega
theorem TS.laid_off {D : DS} {T : TS} {a : Nat} {b : List UInt8} (hb : 0 < b.length) (ho : D.off = true) (ha : T.lo + a / 256 < D.safe.length) : TS.laid D T a b = (20, D) := by
  unfold TS.laid
  have hm := TS.padded_len D T a b
  have hp : 0 < (TS.padded D T a b).length := by
    unfold TS.padded
    simp only [List.length_append]
    omega
  obtain ⟨k, hk⟩ : ∃ k, (TS.padded D T a b).length / 256 = k + 1 := ⟨(TS.padded D T a b).length / 256 - 1, by omega⟩
  rw [hk]
  unfold TS.pagesOf
  rw [List.range_succ_eq_map, List.map_cons, TS.wr]
  have hl : (((TS.padded D T a b).drop (256 * 0)).take 256).length = 256 := by rw [List.length_take, List.length_drop]; omega
  have hw : D.write ((T.lo + a / 256 : Nat) : Int) (((TS.padded D T a b).drop (256 * 0)).take 256) = (20, D) := by
    unfold DS.write DS.bad
    have h1 : ¬ (((T.lo + a / 256 : Nat) : Int) < 0) := by omega
    have h2 : ¬ ((D.safe.length : Int) ≤ ((T.lo + a / 256 : Nat) : Int)) := by omega
    simp only [hl, h1, h2, ho]
    simp
  rw [hw]
  rfl
set_option maxRecDepth 100000 in
theorem tlay_down (w : World) (t p : Nat) (own : Nat → Prop) (T : TS) (D : DS) (a : Nat) (v : Value) (h : TapeIn w t p D.safe.length T) (hd : DrumAt w p own D) (ha : a < T.size) (ho : D.off = true) (h0 : 0 < a % 256) :
    Calls Try.prog 111 #[.pointer (some ⟨t, 0, none⟩), I a, v] w fun e w' => e = .panicked (gaveUp 20) ∧ Below w.heap.size w w' := by
  obtain ⟨b1, b2, b3, b4, b5, b6, b7⟩ := h.bd
  have H := hid h
  have HD := hid hd
  have HO := hid ho
  have ha2 : a ≤ 1048576 := by omega
  clear h hd ho b7
  go_enter Try.func111, Try.ntmps111
  go_wp2_with fail
  obtain ⟨wA, hwA⟩ : ∃ wA, wA = (w.alloc (.cells #[.pointer (some ⟨t, 0, none⟩)] 86)).alloc (.cells #[.int .i64 ((a : Int) / 256)] 3) := ⟨_, rfl⟩
  rw [← hwA]
  have hBA : Below w.heap.size w wA := by rw [hwA]; exact ((Below.refl _ _).alloc (Nat.le_refl _) _).alloc (by simp) _
  have hbd := bytes_down wA t p own T D (H.out.below hBA) (HD.out.below hBA) HO.out (a / 256 * 256) (a % 256) (by omega) h0 (by omega)
  have q1 : ((a / 256 * 256 : Nat) : Int) = (a : Int) / 256 * 256 := by omega
  have q2 : ((a % 256 : Nat) : Int) = (a : Int) % 256 := by omega
  rw [q1, q2] at hbd
  have HBA := hid hBA
  clear q1 q2 hwA hBA
  refine hbd.mono ?_
  rintro e w1 ⟨rfl, hb⟩
  exact ⟨rfl, rfl, HBA.out.trans (hb.mono HBA.out.size)⟩
theorem tlay_all (w : World) (t p : Nat) (own : Nat → Prop) (T : TS) (D : DS) (a : Nat) (v : Value) (b : List UInt8) (h : TapeIn w t p D.safe.length T) (hd : DrumAt w p own D) (ht : ¬ own t) (ha : a < T.size) (hv : Sees w v b) (hvo : ∀ k, v.ownBlock = some k → ¬ own k) (hb0 : 0 < b.length) (hb1 : b.length ≤ 66000) (hN : D.waits.length ≤ 900000000) :
    Calls Try.prog 111 #[.pointer (some ⟨t, 0, none⟩), I a, v] w fun e w' => e = endOr (TS.layR D T a b).1 (.tuple #[]) ∧ Drummed' own p w (TS.layR D T a b).2 w' := by
  cases ho : D.off with
  | false =>
    have := tlay_any w t p own T D a v b h hd ht (Nat.le_of_lt ha) (.inl ho) hv hvo hb0 hb1 hN
    unfold TS.layR
    rw [if_neg (by simp [ho])]
    exact this
  | true =>
    have e : TS.layR D T a b = (20, D) := by unfold TS.layR; rw [if_pos ho]
    rw [e]
    by_cases h0 : a % 256 = 0
    · have := tlay_any w t p own T D a v b h hd ht (Nat.le_of_lt ha) (.inr h0) hv hvo hb0 hb1 hN
      obtain ⟨b1, b2, b3, b4, b5, b6, b7⟩ := h.bd
      have hsz : T.size = (T.hi - T.lo) * 256 := rfl
      rw [TS.laid_off hb0 ho (by omega)] at this
      exact this
    · refine (tlay_down w t p own T D a v h hd ha ho (by omega)).mono ?_
      rintro e w' ⟨rfl, hb⟩
      exact ⟨rfl, own, hd.below hb, fun _ hk => .inl hk, Mod.of_below own hb⟩
/-! ### the door -/
set_option maxRecDepth 100000 in
set_option maxHeartbeats 1600000 in
theorem catch2_idle (p1 p2 : Addr) (w : World) :
    CallsD Try.prog 110 #[.pointer (some p1), .pointer (some p2)] .returning w fun e u' w' => e = .returned (.tuple #[]) ∧ u' = .returning ∧ w' = w := by
  refine callsD_of_wpS Try.func110 rfl fun c₀ cs hu => ?_
  apply wpS_seq
  apply wpS_region
  simp [wpOpsS, go_sem, recoverD, hu, Try.ntmps110, Exit.thenS]
  refine wpS_of_wp ?_
  go_wp2
  cases c₀
  simp_all [bodyPostS, results, Try.results110]
set_option maxRecDepth 100000 in
set_option maxHeartbeats 800000 in
theorem catch2_gave (b1 b2 t p n : Nat) (c1 : Array Value) (t1 : TypeId) (T : TS) (c : Int) (w : World) (h1 : w.heap[b1]? = some (.cells c1 t1 (0, 0))) (h2 : w.heap[b2]? = some (.cells #[.pointer (some ⟨t, 0, none⟩)] 86 (0, 0))) (h3 : TapeIn w t p n T)
    (s1 : c1.size = 1) (n12 : b1 ≠ b2) (n1t : b1 ≠ t) (n2t : b2 ≠ t) (hc : -9223372036854775808 ≤ c ∧ c ≤ 9223372036854775807) :
    CallsD Try.prog 110 #[.pointer (some ⟨b1, 0, none⟩), .pointer (some ⟨b2, 0, none⟩)] (.panicking (gaveUp c)) w fun e u' w' =>
      e = .returned (.tuple #[]) ∧ u' = .panicking [{ v := .iface 130 (.agg #[I c]), recovered := true }] ∧
      (w'.heap[b1]? = some (.cells #[I c] t1 (0, 0)) ∧ TapeIn w' t p n { T with sick := c }) ∧ Mod (fun k => k = b1 ∨ k = t) w w' := by
  have hta := gave_is c
  refine callsD_of_wpS Try.func110 rfl fun c₀ cs hu => ?_
  apply wpS_seq
  apply wpS_region
  unfold gaveUp at hu
  simp [wpOpsS, go_sem, recoverD, hu, Try.ntmps110, Exit.thenS]
  refine wpS_of_wp ?_
  simp only [Array.replicate_succ, Array.replicate_zero, List.push_toArray, List.append_toArray, List.nil_append, List.cons_append, List.setIfInBounds_toArray, List.set_cons_zero, List.set_cons_succ]
  go_wp2
  obtain ⟨wa, hwa⟩ : ∃ wa, wa = w.alloc (.cells #[.int .i64 c] 130) := ⟨_, rfl⟩
  obtain ⟨b4, hb4⟩ : ∃ b4, b4 = w.heap.size := ⟨_, rfl⟩
  rw [← hwa, ← hb4]
  have l1 := (Array.getElem?_eq_some_iff.1 h1).1
  have l2 := (Array.getElem?_eq_some_iff.1 h2).1
  have l3 := h3.lt
  have g1 : wa.heap[b1]? = some (.cells c1 t1 (0, 0)) := by rw [hwa]; exact (Below.heap_alloc w _ _ l1).trans h1
  have g2 : wa.heap[b2]? = some (.cells #[.pointer (some ⟨t, 0, none⟩)] 86 (0, 0)) := by rw [hwa]; exact (Below.heap_alloc w _ _ l2).trans h2
  have g3 : TapeIn wa t p n T := by rw [hwa]; exact h3.keep (Below.heap_alloc w _ _ l3)
  have g4 : wa.heap[b4]? = some (.cells #[.int .i64 c] 130 (0, 0)) := by rw [hwa, hb4]; exact heap_alloc_new _ _
  have hm : Mod (fun k => k = b1 ∨ k = t) w wa := by rw [hwa]; exact Mod.alloc _
  have n14 : b4 ≠ b1 := by omega
  have n24 : b4 ≠ b2 := by omega
  have n34 : b4 ≠ t := by omega
  obtain ⟨v1, hv1⟩ := cell_one g1 s1
  have k4 : ∀ w', KeepTwo b4 b2 wa.drew w' → w'.cell? ⟨b4, 0, none⟩ = some (I c) := fun w' hh => by rw [cell_of_row w' b4 _ _ _ _ (hh.1.trans g4)]; rfl
  have k2 : ∀ w', KeepTwo b4 b2 wa.drew w' → w'.cell? ⟨b2, 0, none⟩ = some (.pointer (some ⟨t, 0, none⟩)) := fun w' hh => by rw [cell_of_row w' b2 _ _ _ _ (hh.2.trans g2)]; rfl
  have G1 := hid g1
  have G2 := hid g2
  have G3 := hid g3
  have HM := hid hm
  have HU := hid hu
  clear hwa hb4 h1 h2 h3 l1 l2 l3 hta g1 g2 g3 g4 hm hu
  refine wp_region_order (KeepTwo b4 b2) [] [(0,0),(1,0),(2,0),(3,0),(4,0),(5,1),(6,0),(7,0),(8,1)] _ (by kernel_rfl) rfl KeepTwo.refl KeepTwo.trans (by kernel_rfl) (by simp only [pick, List.getElem?_toArray, List.getElem?_cons_zero, List.getElem?_cons_succ]; rfl) (fun c a d v w h => by cases d <;> exact h) ?_
  refine wpK_q (v := ?_) (a' := ?_) (by rfl) (fun w' hR => ?_) ?_ ?_
  rotate_left 2
  · go_simp; with_reducible rfl
  · simp only [Act.put, List.setIfInBounds_toArray, List.set_cons_zero, List.set_cons_succ]; rfl
  refine wpK_q (v := ?_) (a' := ?_) (by rfl) (fun w' hR => ?_) ?_ ?_
  rotate_left 2
  · go_simp; with_reducible rfl
  · simp only [Act.put, List.setIfInBounds_toArray, List.set_cons_zero, List.set_cons_succ]; rfl
  refine wpK_q (v := ?_) (a' := ?_) (by rfl) (fun w' hR => ?_) ?_ ?_
  rotate_left 2
  · go_simp; with_reducible rfl
  · simp only [Act.put, List.setIfInBounds_toArray, List.set_cons_zero, List.set_cons_succ]; rfl
  refine wpK_q (v := ?_) (a' := ?_) (by rfl) (fun w' hR => ?_) ?_ ?_
  rotate_left 2
  · go_simp; with_reducible rfl
  · simp only [Act.put, List.setIfInBounds_toArray, List.set_cons_zero, List.set_cons_succ]; rfl
  refine wpK_q (v := ?_) (a' := ?_) (by rfl) (fun w' hR => ?_) ?_ ?_
  rotate_left 2
  · go_simp; with_reducible rfl
  · simp only [Act.put, List.setIfInBounds_toArray, List.set_cons_zero, List.set_cons_succ]; rfl
  refine wpK_s (by rfl) rfl (exec_store rfl (vx := .pointer (some ⟨b1, 0, none⟩)) (vy := I c) rfl rfl (run_store1 (u := v1) (by kernel_rfl) rfl rfl hv1 (frozen_row G1.out 0))) (fun _ => ⟨heap_setCell_other wa.drew ⟨b1, 0, none⟩ b4 _ n14, heap_setCell_other wa.drew ⟨b1, 0, none⟩ b2 _ (Ne.symm n12)⟩) ?_
  refine wpK_q (v := ?_) (a' := ?_) (by rfl) (fun w' hR => ?_) ?_ ?_
  rotate_left 2
  · go_simp; with_reducible rfl
  · simp only [Act.put, List.setIfInBounds_toArray, List.set_cons_zero, List.set_cons_succ]; rfl
  refine wpK_q (v := ?_) (a' := ?_) (by rfl) (fun w' hR => ?_) ?_ ?_
  rotate_left 2
  · go_simp; with_reducible rfl
  · simp only [Act.put, List.setIfInBounds_toArray, List.set_cons_zero, List.set_cons_succ]; rfl
  obtain ⟨wx, hwx⟩ : ∃ wx, wx = wa.drew.setCell ⟨b1, 0, none⟩ (I c) := ⟨_, rfl⟩
  have x1 : wx.heap[b1]? = some (.cells #[I c] t1 (0, 0)) := by rw [hwx]; exact set_one (show wa.drew.heap[b1]? = _ from G1.out) s1 (I c)
  have xo : ∀ k, k ≠ b1 → wx.heap[k]? = wa.heap[k]? := fun k hk => by rw [hwx]; exact heap_setCell_other wa.drew ⟨b1, 0, none⟩ k _ hk
  have x3 : TapeIn wx t p n T := G3.out.keep (xo t (Ne.symm n1t))
  have xm : Mod (fun k => k = b1 ∨ k = t) w wx := by rw [hwx]; exact ((HM.out.trans (Mod.drew wa)).trans (Mod.set (.inl rfl)))
  rw [← hwx]
  have X1 := hid x1
  have X3 := hid x3
  have XM := hid xm
  refine wpK_s (by rfl) rfl (exec_store rfl (vx := .pointer (some ⟨t, 5, none⟩)) (vy := I c) rfl rfl (run_store1 (u := I T.sick) (by kernel_rfl) rfl rfl x3.c5 (x3.fr 5))) (fun _ => ⟨heap_setCell_other wx ⟨t, 5, none⟩ b4 _ n34, heap_setCell_other wx ⟨t, 5, none⟩ b2 _ n2t⟩) ?_
  have y1 : (wx.setCell ⟨t, 5, none⟩ (I c)).heap[b1]? = some (.cells #[I c] t1 (0, 0)) := (heap_setCell_other wx ⟨t, 5, none⟩ b1 _ n1t).trans X1.out
  have y3 : TapeIn (wx.setCell ⟨t, 5, none⟩ (I c)) t p n { T with sick := c } := by
    refine ⟨⟨x3.ok.lt, x3.ok.le, x3.ok.pos, x3.ok.count, hc⟩, x3.n2, ?_⟩
    rw [heap_setCell_same wx t 5 _ _ _ x3.ht]
    rfl
  have ym : Mod (fun k => k = b1 ∨ k = t) w (wx.setCell ⟨t, 5, none⟩ (I c)) := xm.trans (Mod.set (.inr rfl))
  refine wpK_done ?_
  generalize wx.setCell ⟨t, 5, none⟩ (I c) = w9 at *
  have hu := HU.out
  clear HU k4 k2 G1 G2 G3 HM X1 X3 XM x1 xo x3 xm hv1 hwx
  simp only [Exit.inBlock]
  refine (show bodyPostS _ _ _ _ _ _ _ _ _ from ?_)
  simp [bodyPostS, results, Try.results110, y1, y3, ym]
/-- Out through the door, nothing given up. -/
theorem door2_ret {b1 b2 : Nat} {tmps : Array Value} {w : World} {R : Ending → World → Prop} {u1 : Value} (h4 : tmps[4]?.getD undef = .pointer (some ⟨b1, 0, none⟩))
    (c1 : w.cell? ⟨b1, 0, none⟩ = some u1) (h : R (.returned u1) w) :
    bodyPostD Try.prog Try.f99 R Exit.ret { tmps := tmps, defers := [{ target := .fn (.func 110) #[.pointer (some ⟨b1, 0, none⟩), .pointer (some ⟨b2, 0, none⟩)], args := #[] }] } w := by
  refine leaves_cons (f := 110) (args := #[.pointer (some ⟨b1, 0, none⟩), .pointer (some ⟨b2, 0, none⟩)]) (by simp) (by simp [go_sem]) ?_
  refine (catch2_idle _ _ _).mono ?_
  rintro e u' w'' ⟨rfl, rfl, rfl⟩
  simp [Leaves, settle, results, Try.results99, go_sem, h4, c1, h]
/-- Out through the door, something given up: the tape is sick of it. -/
theorem door2_gave {b1 b2 t p n : Nat} {T : TS} {tmps : Array Value} {w : World} {R : Ending → World → Prop} {c : Int} {v1 : Array Value} (h4 : tmps[4]?.getD undef = .pointer (some ⟨b1, 0, none⟩))
    (g1 : w.heap[b1]? = some (.cells v1 46 (0, 0))) (g2 : w.heap[b2]? = some (.cells #[.pointer (some ⟨t, 0, none⟩)] 86 (0, 0))) (g3 : TapeIn w t p n T) (s1 : v1.size = 1) (n12 : b1 ≠ b2) (n1t : b1 ≠ t) (n2t : b2 ≠ t) (hc : -9223372036854775808 ≤ c ∧ c ≤ 9223372036854775807)
    (h : ∀ w', TapeIn w' t p n { T with sick := c } → Mod (fun k => k = b1 ∨ k = t) w w' → R (.returned (I c)) w') :
    bodyPostD Try.prog Try.f99 R (Exit.panic (gaveUp c)) { tmps := tmps, defers := [{ target := .fn (.func 110) #[.pointer (some ⟨b1, 0, none⟩), .pointer (some ⟨b2, 0, none⟩)], args := #[] }] } w := by
  refine leaves_cons (f := 110) (args := #[.pointer (some ⟨b1, 0, none⟩), .pointer (some ⟨b2, 0, none⟩)]) (by simp) (by simp [go_sem]) ?_
  refine (catch2_gave b1 b2 t p n v1 46 T c w g1 g2 g3 s1 n12 n1t n2t hc).mono ?_
  rintro e u' w'' ⟨rfl, rfl, ⟨r1, r2⟩, hm⟩
  have c1 : w''.cell? ⟨b1, 0, none⟩ = some (I c) := by rw [cell_of_row w'' b1 _ _ _ _ r1]; rfl
  have hh := h w'' r2 hm
  simp [Leaves, settle, results, Try.results99, go_sem, h4, c1, hh]
theorem res99 (d : Tmp) (v : Value) (tmps : Array Value) (hd : d ∉ [4]) : results Try.f99 (tmps.setIfInBounds d v) = results Try.f99 tmps := by
  have h : ¬ d = 4 := by simpa using hd
  simp [results, Try.results99, Array.getElem?_setIfInBounds_ne h]
end Go.Proofs.Ytoaeapnkefjpaaa

namespace Go.Proofs.Ytoaeapnkefjpaaa
open Go.RowKit
set_option linter.unusedVariables false
set_option linter.unusedSimpArgs false

theorem hq99 {ops : Array Oper} {R : Ending → World → Prop} (hck : (ops.all fun o => o.dst.all fun d => ![4].contains d) = true) (i : Nat) (oi : Oper) (hi : ops[i]? = some oi) (c : List PanicEntry) (a : Act) (v : Value) (w : World) (h : bodyPostD Try.prog Try.f99 R (.panic c) (Act.put a oi.dst v) w) : bodyPostD Try.prog Try.f99 R (.panic c) a w :=
  door_ops [4] res99 hck i oi hi c a v w h
/-- What do comes to. -/
def Done (w0 : World) (t p n : Nat) (own0 : Nat → Prop) (X : Int × DS × TS) (e : Ending) (w' : World) : Prop :=
  e = .returned (I X.1) ∧ TapeIn w' t p n X.2.2 ∧ ∃ own', DrumAt w' p own' X.2.1 ∧ (∀ k, own' k → own0 k ∨ w0.heap.size ≤ k) ∧ Mod (fun k => own0 k ∨ k = t) w0 w'
/-- Within do. -/
structure DoAt (w0 : World) (t p n : Nat) (own0 : Nat → Prop) (T : TS) (D : DS) (u : Value) (W : World) : Prop where
  h2 : W.heap[w0.heap.size]? = some (.cells #[.pointer (some ⟨t, 0, none⟩)] 86 (0, 0))
  h4 : W.heap[w0.heap.size + 1]? = some (.cells #[u] 46 (0, 0))
  tape : TapeIn W t p n T
  drum : ∃ own, DrumAt W p own D ∧ ∀ k, own k → own0 k ∨ w0.heap.size + 2 ≤ k
  mod : Mod own0 w0 W
  lt0 : ∀ k, own0 k → k < w0.heap.size
  tl : t < w0.heap.size
  nt : ¬ own0 t
section
variable {w0 : World} {t p n : Nat} {own0 : Nat → Prop} {T : TS} {D D' : DS} {u : Value} {W W' : World}
theorem DoAt.size (h : DoAt w0 t p n own0 T D u W) : w0.heap.size + 2 ≤ W.heap.size := (Array.getElem?_eq_some_iff.1 h.h4).1
theorem DoAt.on (h : DoAt w0 t p n own0 T D u W) (hb : Below W.heap.size W W') : DoAt w0 t p n own0 T D u W' := by
  obtain ⟨own, h1, h2⟩ := h.drum
  have hz := h.size
  exact ⟨(hb.block _ (by omega)).trans h.h2, (hb.block _ (by omega)).trans h.h4, h.tape.below hb, ⟨own, h1.below hb, h2⟩, h.mod.trans (Mod.of_below _ hb), h.lt0, h.tl, h.nt⟩
theorem DoAt.step (h : DoAt w0 t p n own0 T D u W) {own : Nat → Prop} (hs : ∀ k, own k → own0 k ∨ w0.heap.size + 2 ≤ k) (hd : Drummed' own p W D' W') : DoAt w0 t p n own0 T D' u W' := by
  obtain ⟨own', h1, h2, h3⟩ := hd
  have hz := h.size
  have nb : ∀ k, k < w0.heap.size + 2 → ¬ own0 k → ¬ own k := fun k hk h0 ho => (hs k ho).elim h0 (fun h' => by omega)
  have n0 : ∀ k, w0.heap.size ≤ k → ¬ own0 k := fun k hk h' => by have := h.lt0 k h'; omega
  have htl := h.tl
  refine ⟨(h3.block _ (by omega) (nb _ (by omega) (n0 _ (by omega)))).trans h.h2, (h3.block _ (by omega) (nb _ (by omega) (n0 _ (by omega)))).trans h.h4, h.tape.mod h3 (nb _ (by omega) h.nt), ⟨own', h1, fun k hk => ?_⟩, h.mod.then h3 (fun k hk ho => ?_), h.lt0, h.tl, h.nt⟩
  · rcases h2 k hk with h' | h'
    · exact hs k h'
    · exact .inr (by omega)
  · rcases hs k ho with h' | h'
    · exact h'
    · omega
theorem DoAt.put4 (h : DoAt w0 t p n own0 T D u W) (v : Value) : DoAt w0 t p n own0 T D v (W.setCell ⟨w0.heap.size + 1, 0, none⟩ v) := by
  have htl := h.tl
  have e : ∀ k, k ≠ w0.heap.size + 1 → (W.setCell ⟨w0.heap.size + 1, 0, none⟩ v).heap[k]? = W.heap[k]? := fun k hk => heap_setCell_other W ⟨w0.heap.size + 1, 0, none⟩ k v hk
  obtain ⟨own, h1, h2⟩ := h.drum
  refine ⟨(e _ (by omega)).trans h.h2, set_one h.h4 rfl v, h.tape.keep (e _ (by omega)), ⟨own, h1.keep (fun k hk => e k (fun e => ?_)) (by simp), h2⟩, h.mod.then (Mod.set (own := fun k => k = w0.heap.size + 1) rfl) (fun k hk e => by omega), h.lt0, h.tl, h.nt⟩
  rcases h2 k hk with h' | h'
  · have := h.lt0 k h'; omega
  · omega
theorem DoAt.c2 (h : DoAt w0 t p n own0 T D u W) : W.cell? ⟨w0.heap.size, 0, none⟩ = some (.pointer (some ⟨t, 0, none⟩)) := by rw [cell_of_row _ _ _ _ _ _ h.h2]; rfl
theorem DoAt.c4 (h : DoAt w0 t p n own0 T D u W) : W.cell? ⟨w0.heap.size + 1, 0, none⟩ = some u := by rw [cell_of_row _ _ _ _ _ _ h.h4]; rfl
/-- Given up. -/
theorem DoAt.gave (h : DoAt w0 t p n own0 T D u W) {c : Int} (hc : -9223372036854775808 ≤ c ∧ c ≤ 9223372036854775807) {X : Int × DS × TS} (hX : X = (c, D, { T with sick := c })) {tmps : Array Value} (h4 : tmps[4]?.getD undef = .pointer (some ⟨w0.heap.size + 1, 0, none⟩)) :
    bodyPostD Try.prog Try.f99 (Done w0 t p n own0 X) (Exit.panic (gaveUp c)) { tmps := tmps, defers := [{ target := .fn (.func 110) #[.pointer (some ⟨w0.heap.size + 1, 0, none⟩), .pointer (some ⟨w0.heap.size, 0, none⟩)], args := #[] }] } W := by
  have htl := h.tl
  refine door2_gave h4 h.h4 h.h2 h.tape rfl (by omega) (by omega) (by omega) hc (fun w' ht hm => ?_)
  obtain ⟨own, h1, h2⟩ := h.drum
  subst hX
  refine ⟨rfl, ht, own, h1.mod hm (fun k hk e => ?_), fun k hk => (h2 k hk).imp id (fun e => by omega), (h.mod.mono (fun k _ e => .inl e)).then hm (fun k hk e => ?_)⟩
  · rcases h2 k hk with h' | h'
    · rcases e with rfl | rfl
      · have := h.lt0 _ h'; omega
      · exact h.nt h'
    · omega
  · rcases e with e | e
    · omega
    · exact .inr e
/-- Done. -/
theorem DoAt.fin (h : DoAt w0 t p n own0 T D (I 0) W) {X : Int × DS × TS} (T' : TS) (ht : TapeIn W' t p n T') (hm : Mod (fun k => k = t) W W') (hX : X = (0, D, T')) {tmps : Array Value} (h4 : tmps[4]?.getD undef = .pointer (some ⟨w0.heap.size + 1, 0, none⟩)) :
    bodyPostD Try.prog Try.f99 (Done w0 t p n own0 X) Exit.ret { tmps := tmps, defers := [{ target := .fn (.func 110) #[.pointer (some ⟨w0.heap.size + 1, 0, none⟩), .pointer (some ⟨w0.heap.size, 0, none⟩)], args := #[] }] } W' := by
  have htl := h.tl
  refine door2_ret h4 (u1 := I 0) (hm.cell h.c4 (show ¬ (w0.heap.size + 1 = t) by omega)) ?_
  obtain ⟨own, h1, h2⟩ := h.drum
  subst hX
  refine ⟨rfl, ht, own, h1.mod hm (fun k hk e => ?_), fun k hk => (h2 k hk).imp id (fun e => by omega), (h.mod.mono (fun k _ e => .inl e)).then hm (fun k hk e => .inr e)⟩
  rcases h2 k hk with h' | h'
  · exact h.nt (e ▸ h')
  · omega
end
theorem own_born (w : World) (e : TypeId) (x : Value) : (w.alloc (.cells #[x] e)).ownsRow w.heap.size e 1 (.slice (some ⟨w.heap.size, 0, none⟩) 1 1) 1 [x] :=
  ⟨by simp, .inr ⟨w.heap.size, 1, #[x], rfl, Nat.le_refl _, heap_alloc_new _ _, Nat.le_refl _, by decide, rfl, rfl⟩⟩
set_option maxRecDepth 100000 in
set_option maxHeartbeats 1600000 in
theorem tdo_any (w : World) (t p : Nat) (own : Nat → Prop) (T : TS) (D : DS) (v : Value) (r : List UInt8) (h : TapeIn w t p D.safe.length T) (hd : DrumAt w p own D) (ht : ¬ own t) (hv : Sees w v r) (hr : r.length ≤ 65536) (hs : T.pos + 12 + r.length ≤ T.size) (hN : D.waits.length ≤ 800000000) :
    Calls Try.prog 99 #[.pointer (some ⟨t, 0, none⟩), v] w (Done w t p D.safe.length own (TS.doIt D T r)) := by
  obtain ⟨b1, b2, b3, b4, b5, b6, b7⟩ := h.bd
  obtain ⟨av, cv, rfl, hrl⟩ := hv.form0
  obtain ⟨wA, hwA⟩ : ∃ wA, wA = (w.alloc (.cells #[.pointer (some ⟨t, 0, none⟩)] 86)).alloc (.cells #[.int .i64 0] 46) := ⟨_, rfl⟩
  have hBA : Below w.heap.size w wA := by rw [hwA]; exact ((Below.refl _ _).alloc (Nat.le_refl _) _).alloc (by simp) _
  have hA : DoAt w t p D.safe.length own T D (I 0) wA := ⟨by rw [hwA]; exact (Below.heap_alloc _ _ _ (by simp)).trans (heap_alloc_new _ _), by rw [hwA]; exact heap_alloc_at (by simp), h.below hBA, ⟨own, hd.below hBA, fun k hk => .inl hk⟩, Mod.of_below own hBA, hd.lt, h.lt, ht⟩
  have hvA := hv.below hBA
  have HA := hid hA
  have HV := hid hvA
  have HX : Hid (w.heap.size ≤ wA.heap.size ∧ D.Ok) := hid ⟨hBA.size, hd.ok⟩
  have HWA := hid hwA
  have HDA := hid (hd.below hBA)
  have hmf := closes
  obtain ⟨Z, hZ⟩ : ∃ Z, Z = TS.doIt D T r := ⟨_, rfl⟩
  have hbl := TS.body_len T r
  have hX1l := TS.layR_len D T T.pos (TS.body T r)
  have hX1c := TS.layR_code D T T.pos (TS.body T r)
  have hX1w := TS.layR_waits D T T.pos (TS.body T r) (by omega)
  have hZ2 := hZ.trans (TS.doIt_eq D T r)
  simp only at hZ2
  rw [← hZ]
  have HZ := hid hZ2
  have HX1 := hid (And.intro hX1l (And.intro hX1c hX1w))
  have HBL := hid hbl
  clear hZ hZ2 hX1l hX1c hX1w hbl
  clear h hd ht hv hA hvA hBA hwA b7
  go_enter_defers Try.func99, Try.ntmps99
  go_upto_region 2 with (fail)
  rw [← HWA.out]
  clear HWA
  have hbB : Below wA.heap.size wA (wA.alloc (.cells #[.int .u8 0] 5)) := (Below.refl wA.heap.size wA).alloc (Nat.le_refl _) _
  have hB := HA.out.on hbB
  have c2B := hB.c2
  have c4B := hB.tape.c4
  have HVB := hid (HV.out.below hbB)
  have HO0 := hid (own_born wA 5 (.int .u8 0))
  have HBB := hid hbB
  clear hB hbB
  go_wp2_with fail
  generalize wA.alloc (.cells #[.int .u8 0] 5) = wB at *
  refine (framed_of wB T.count (by omega) _ r HVB.out hr).mono ?_
  rintro e w1 ⟨v1, rfl, ho1, hb1⟩
  rw [TS.framed_len] at ho1
  obtain ⟨av1, cv1, rfl⟩ := own_form ho1
  have HS1 := hid (own_sees' ho1 (TS.framed_len T.count r))
  have HV1 := hid (HVB.out.below hb1)
  have HO1 := hid (own_below HO0.out hb1)
  have HB1 := hid (Ext.trans _ _ _ HBB.out hb1)
  clear ho1 hb1 c2B c4B HVB HO0 HBB
  have hs1 : wA.heap.size ≤ w1.heap.size := HB1.out.size
  go_wp2_with (at_builtin; refine wpList_app rfl (.tmp 8) (.tmp 14) 23 rfl wA.heap.size 5 (.int .u8 0) 1 1 Try.underlying23 info5 rfl (by decide) 1 [.int .u8 0] 11 ((TS.framed T.count r).map B) HO1.out ?src ?h63 ?hb hs1 ?_)
  case src => have := HS1.out.src; rw [TS.framed_len] at this; exact this
  case h63 => decide
  case hb => omega
  intro v2 w2 hown hgrow hat
  obtain ⟨av2, cv2, rfl⟩ := own_form hown
  have HO2 := hid hown
  have HB2 := hid (HB1.out.grown hgrow hs1 (fun k hk => by have := (own_lt HO1.out k hk).1; omega))
  have HV2 := hid (HV.out.below HB2.out)
  clear hown hgrow hat HO1 HB1 HV1 HS1
  have hs2 : wA.heap.size ≤ w2.heap.size := HB2.out.size
  go_wp2_with (at_builtin; refine wpList_app rfl (.tmp 15) (.tmp 16) 23 rfl wA.heap.size 5 (.int .u8 0) 1 1 Try.underlying23 info5 rfl (by decide) 12 (.int .u8 0 :: (TS.framed T.count r).map B) r.length (r.map B) HO2.out ?src ?h63 ?hb hs2 ?_)
  case src => exact HV2.out.src
  case h63 => unfold maxLen; omega
  case hb => omega
  intro v3 w3 hown hgrow hat
  obtain ⟨av3, cv3, rfl⟩ := own_form hown
  have HO3 := hid hown
  have HB3 := hid (HB2.out.grown hgrow hs2 (fun k hk => by have := (own_lt HO2.out k hk).1; omega))
  clear hown hgrow hat HO2 HB2 HV2
  have hs3 : wA.heap.size ≤ w3.heap.size := HB3.out.size
  have hA3 := HA.out.on HB3.out
  have HA3 := hid hA3
  have k2 : ∀ w', Ext w3.drew w' → w'.cell? ⟨w.heap.size, 0, none⟩ = some (.pointer (some ⟨t, 0, none⟩)) := fun w' hh => (hA3.on (Ext.trans _ _ _ (Ext.drew w3) hh)).c2
  have k3 : ∀ w', Ext w3.drew w' → w'.cell? ⟨t, 3, none⟩ = some (I T.pos) := fun w' hh => (hA3.on (Ext.trans _ _ _ (Ext.drew w3) hh)).tape.c3
  have hw1 : IntKind.i64.wrap ((T.pos : Int) + (12 + (r.length : Int))) = (T.pos : Int) + (12 + (r.length : Int)) := IntWalk.i64_in _ (by omega)
  clear hA3
  go_upto_region 3 with (fail)
  refine wp_region_order' Ext [] [(0,0),(1,0),(2,0),(3,0),(4,0),(5,0),(6,0),(7,0),(8,1),(9,0)] _ (by kernel_rfl) rfl Ext.refl Ext.trans (by kernel_rfl) (by simp only [pick, List.getElem?_toArray, List.getElem?_cons_zero, List.getElem?_cons_succ]; rfl) (fun i oi hi c a v w h => hq99 (by kernel_rfl) i oi hi c a v w h) ?_
  refine wpK_q (v := ?_) (a' := ?_) (by rfl) (fun w' hR => ?_) ?_ ?_
  rotate_left 2
  · go_simp; with_reducible rfl
  · simp only [Act.put, List.setIfInBounds_toArray, List.set_cons_zero, List.set_cons_succ]; rfl
  refine wpK_q (v := ?_) (a' := ?_) (by rfl) (fun w' hR => ?_) ?_ ?_
  rotate_left 2
  · go_simp; with_reducible rfl
  · simp only [Act.put, List.setIfInBounds_toArray, List.set_cons_zero, List.set_cons_succ]; rfl
  refine wpK_q (v := ?_) (a' := ?_) (by rfl) (fun w' hR => ?_) ?_ ?_
  rotate_left 2
  · go_simp; with_reducible rfl
  · simp only [Act.put, List.setIfInBounds_toArray, List.set_cons_zero, List.set_cons_succ]; rfl
  refine wpK_q (v := ?_) (a' := ?_) (by rfl) (fun w' hR => ?_) ?_ ?_
  rotate_left 2
  · go_simp; with_reducible rfl
  · simp only [Act.put, List.setIfInBounds_toArray, List.set_cons_zero, List.set_cons_succ]; rfl
  refine wpK_q (v := ?_) (a' := ?_) (by rfl) (fun w' hR => ?_) ?_ ?_
  rotate_left 2
  · go_simp; with_reducible rfl
  · simp only [Act.put, List.setIfInBounds_toArray, List.set_cons_zero, List.set_cons_succ]; rfl
  refine wpK_q (v := ?_) (a' := ?_) (by rfl) (fun w' hR => ?_) ?_ ?_
  rotate_left 2
  · go_simp; with_reducible rfl
  · simp only [Act.put, List.setIfInBounds_toArray, List.set_cons_zero, List.set_cons_succ]; rfl
  refine wpK_q (v := ?_) (a' := ?_) (by rfl) (fun w' hR => ?_) ?_ ?_
  rotate_left 2
  · go_simp; with_reducible rfl
  · simp only [Act.put, List.setIfInBounds_toArray, List.set_cons_zero, List.set_cons_succ]; rfl
  refine wpK_q (v := ?_) (a' := ?_) (by rfl) (fun w' hR => ?_) ?_ ?_
  rotate_left 2
  · go_simp; with_reducible rfl
  · simp only [Act.put, List.setIfInBounds_toArray, List.set_cons_zero, List.set_cons_succ]; rfl
  refine wpK_call Try.func98 (by kernel_rfl) rfl rfl (by rfl) #[.pointer (some ⟨t, 0, none⟩)] (by simp only [List.map_toArray, List.map_cons, List.map_nil]; rfl) ?_
  refine (size_any _ t p _ T (HA3.out.tape.below (Ext.drew w3))).mono ?_
  rintro e w4 ⟨rfl, m4, rfl⟩
  refine ⟨_, rfl, fun _ => below_drewN _ m4, ?_⟩
  have HB4 := hid (show Below wA.heap.size wA (w3.drew.drewN m4) from Ext.trans _ _ _ HB3.out (Ext.trans _ _ _ (Ext.drew w3) (below_drewN _ m4)))
  have HO4 := hid (show (w3.drew.drewN m4).ownsRow wA.heap.size 5 1 (.slice av3 (12 + r.length) cv3) (12 + r.length) (.int .u8 0 :: (TS.framed T.count r).map B ++ r.map B) from HO3.out)
  generalize w3.drew.drewN m4 = w4 at *
  clear HO3 HB3 HA3 k2 k3 hs3
  have hs4 : wA.heap.size ≤ w4.heap.size := HB4.out.size
  by_cases hlt : T.pos + (12 + r.length) < T.size
  focus
    have hlt' : decide ((T.pos : Int) + (12 + (r.length : Int)) < (T.size : Int)) = true := decide_eq_true (by omega)
    refine wpK_q (v := ?_) (a' := ?_) (by rfl) (fun w' hR => ?_) ?_ ?_
    rotate_left 2
    · go_simp; with_reducible rfl
    · simp only [Act.put, List.setIfInBounds_toArray, List.set_cons_zero, List.set_cons_succ]; rfl
    refine wpK_done ?_
    go_wp2_with (at_builtin; refine wpList_app rfl (.tmp 28) (.tmp 29) 23 rfl wA.heap.size 5 (.int .u8 0) 1 1 Try.underlying23 info5 rfl (by decide) (12 + r.length) (.int .u8 0 :: (TS.framed T.count r).map B ++ r.map B) 1 [.int .u8 0] (HO4.out.alloc _) (Src.new w4 1 5 [.int .u8 0] rfl (fun u hu => by obtain rfl := List.mem_singleton.1 hu; rfl)) ?h63 ?hb ?hs ?_)
    case h63 => unfold maxLen; omega
    case hb => omega
    case hs => simp; omega
    intro v5 w5 hown hgrow hat
    obtain ⟨av5, cv5, rfl⟩ := own_form hown
    have HS5 : Hid (Sees w5 (.slice av5 (12 + r.length + 1) cv5) (TS.body T r)) := hid (own_sees' (own_len hown rfl (by
      unfold TS.body
      rw [if_pos hlt]
      simp)) (by rw [TS.body_len' T r, if_pos hlt]))
    have HB5 := hid ((HB4.out.trans ((Below.refl wA.heap.size w4).alloc hs4 _)).grown hgrow (by simp; omega) (fun k hk => by have := (own_lt HO4.out k hk).1; omega))
    have HN5 := hid (fun k hk => (own_lt hown k hk).1)
    clear hown hgrow hat HO4 HB4 hlt' hlt
    go_wp2_with fail
    generalize Value.slice av5 (12 + r.length + 1) cv5 = vb at *
  rotate_left
  focus
    have hlt' : decide ((T.pos : Int) + (12 + (r.length : Int)) < (T.size : Int)) = false := decide_eq_false (by omega)
    refine wpK_q (v := ?_) (a' := ?_) (by rfl) (fun w' hR => ?_) ?_ ?_
    rotate_left 2
    · go_simp; with_reducible rfl
    · simp only [Act.put, List.setIfInBounds_toArray, List.set_cons_zero, List.set_cons_succ]; rfl
    refine wpK_done ?_
    have HS5 : Hid (Sees w4 (.slice av3 (12 + r.length) cv3) (TS.body T r)) := hid (own_sees' (own_len HO4.out rfl (by
      unfold TS.body
      rw [if_neg hlt]
      simp)) (by rw [TS.body_len' T r, if_neg hlt]))
    have HN5 := hid (fun k hk => (own_lt HO4.out k hk).1)
    have HB5 := hid HB4.out
    clear HO4 HB4 hlt' hlt
    go_wp2_with fail
    generalize Value.slice av3 (12 + r.length) cv3 = vb at *
    generalize w4 = w5 at *
  rotate_left
  all_goals
    clear hw1
    have hA5 := HA.out.on (Ext.trans _ _ _ HB5.out (Ext.drew w5))
    have hd5 := HDA.out.below (Ext.trans _ _ _ HB5.out (Ext.drew w5))
    have hlay := tlay_all w5.drew t p own T D T.pos vb (TS.body T r) hA5.tape hd5 hA5.nt (by omega) HS5.out.drew (fun k hk ho => by have h1 := HN5.out k hk; have h2 := hA5.lt0 k ho; have h3 := HX.out.1; omega) HBL.out.1 (by have := HBL.out.2; omega) (by omega)
    have HA5 := hid hA5
    have k2 : ∀ w', Ext w5.drew w' → w'.cell? ⟨w.heap.size, 0, none⟩ = some (.pointer (some ⟨t, 0, none⟩)) := fun w' hh => (HA5.out.on hh).c2
    have k3 : ∀ w', Ext w5.drew w' → w'.cell? ⟨t, 3, none⟩ = some (I T.pos) := fun w' hh => (HA5.out.on hh).tape.c3
    generalize TS.layR D T T.pos (TS.body T r) = X1 at *
    obtain ⟨e1, D1⟩ := X1
    have HLAY := hid hlay
    clear hA5 hd5 hlay
    clear HB5 HS5 HN5 hs4 HA HDA HV
    by_cases h1 : e1 = 0
    rotate_left
    · skip
      refine wp_region_order' Ext [6] [(0,0),(1,0),(2,0),(3,0),(4,0),(5,0),(6,2)] _ (by kernel_rfl) rfl Ext.refl Ext.trans (by kernel_rfl) (by simp only [pick, List.getElem?_toArray, List.getElem?_cons_zero, List.getElem?_cons_succ]; rfl) (fun i oi hi c a v w h => hq99 (by kernel_rfl) i oi hi c a v w h) ?_
      refine wpK_q (v := ?_) (a' := ?_) (by rfl) (fun w' hR => ?_) ?_ ?_
      rotate_left 2
      · go_simp; with_reducible rfl
      · simp only [Act.put, List.setIfInBounds_toArray, List.set_cons_zero, List.set_cons_succ]; rfl
      refine wpK_q (v := ?_) (a' := ?_) (by rfl) (fun w' hR => ?_) ?_ ?_
      rotate_left 2
      · go_simp; with_reducible rfl
      · simp only [Act.put, List.setIfInBounds_toArray, List.set_cons_zero, List.set_cons_succ]; rfl
      refine wpK_q (v := ?_) (a' := ?_) (by rfl) (fun w' hR => ?_) ?_ ?_
      rotate_left 2
      · go_simp; with_reducible rfl
      · simp only [Act.put, List.setIfInBounds_toArray, List.set_cons_zero, List.set_cons_succ]; rfl
      refine wpK_q (v := ?_) (a' := ?_) (by rfl) (fun w' hR => ?_) ?_ ?_
      rotate_left 2
      · go_simp; with_reducible rfl
      · simp only [Act.put, List.setIfInBounds_toArray, List.set_cons_zero, List.set_cons_succ]; rfl
      refine wpK_q (v := ?_) (a' := ?_) (by rfl) (fun w' hR => ?_) ?_ ?_
      rotate_left 2
      · go_simp; with_reducible rfl
      · simp only [Act.put, List.setIfInBounds_toArray, List.set_cons_zero, List.set_cons_succ]; rfl
      refine wpK_q (v := ?_) (a' := ?_) (by rfl) (fun w' hR => ?_) ?_ ?_
      rotate_left 2
      · go_simp; with_reducible rfl
      · simp only [Act.put, List.setIfInBounds_toArray, List.set_cons_zero, List.set_cons_succ]; rfl
      refine wpK_callp Try.func111 (by kernel_rfl) rfl rfl (by rfl) #[.pointer (some ⟨t, 0, none⟩), I T.pos, vb] (by simp only [List.map_toArray, List.map_cons, List.map_nil]; rfl) ?_
      refine HLAY.out.mono ?_
      rintro e w6 ⟨rfl, hd6⟩
      refine ⟨gaveUp e1, (endOr_no (by simpa using h1) _).symm, ?_⟩
      refine (HA5.out.step (fun k hk => .inl hk) hd6).gave HX1.out.2.1.bd ?_ rfl
      rw [HZ.out, if_pos h1]
    subst h1
    refine wp_region_order' Ext [6] [(0,0),(1,0),(2,0),(3,0),(4,0),(5,0),(6,2)] _ (by kernel_rfl) rfl Ext.refl Ext.trans (by kernel_rfl) (by simp only [pick, List.getElem?_toArray, List.getElem?_cons_zero, List.getElem?_cons_succ]; rfl) (fun i oi hi c a v w h => hq99 (by kernel_rfl) i oi hi c a v w h) ?_
    refine wpK_q (v := ?_) (a' := ?_) (by rfl) (fun w' hR => ?_) ?_ ?_
    rotate_left 2
    · go_simp; with_reducible rfl
    · simp only [Act.put, List.setIfInBounds_toArray, List.set_cons_zero, List.set_cons_succ]; rfl
    refine wpK_q (v := ?_) (a' := ?_) (by rfl) (fun w' hR => ?_) ?_ ?_
    rotate_left 2
    · go_simp; with_reducible rfl
    · simp only [Act.put, List.setIfInBounds_toArray, List.set_cons_zero, List.set_cons_succ]; rfl
    refine wpK_q (v := ?_) (a' := ?_) (by rfl) (fun w' hR => ?_) ?_ ?_
    rotate_left 2
    · go_simp; with_reducible rfl
    · simp only [Act.put, List.setIfInBounds_toArray, List.set_cons_zero, List.set_cons_succ]; rfl
    refine wpK_q (v := ?_) (a' := ?_) (by rfl) (fun w' hR => ?_) ?_ ?_
    rotate_left 2
    · go_simp; with_reducible rfl
    · simp only [Act.put, List.setIfInBounds_toArray, List.set_cons_zero, List.set_cons_succ]; rfl
    refine wpK_q (v := ?_) (a' := ?_) (by rfl) (fun w' hR => ?_) ?_ ?_
    rotate_left 2
    · go_simp; with_reducible rfl
    · simp only [Act.put, List.setIfInBounds_toArray, List.set_cons_zero, List.set_cons_succ]; rfl
    refine wpK_q (v := ?_) (a' := ?_) (by rfl) (fun w' hR => ?_) ?_ ?_
    rotate_left 2
    · go_simp; with_reducible rfl
    · simp only [Act.put, List.setIfInBounds_toArray, List.set_cons_zero, List.set_cons_succ]; rfl
    refine wpK_call Try.func111 (by kernel_rfl) rfl rfl (by rfl) #[.pointer (some ⟨t, 0, none⟩), I T.pos, vb] (by simp only [List.map_toArray, List.map_cons, List.map_nil]; rfl) ?_
    refine HLAY.out.mono ?_
    rintro e w6 ⟨rfl, hd6⟩
    refine ⟨_, (endOr_ok _).symm, fun h => (by cases h), ?_⟩
    refine wpK_done ?_
    have hA6 := HA5.out.step (fun k hk => .inl hk) hd6
    have hz := HZ.out
    simp only [ne_eq, not_true_eq_false, if_false] at hz
    obtain ⟨x1, -, x2⟩ := HX1.out
    simp only at x1 x2
    have y1 := DS.Flush_len D1
    have y2 := DS.Flush_waits D1
    have y3 := DS.Flush_code D1
    have y4 := DS.Flush_on (D := D1)
    have c2A := hA6.c2
    obtain ⟨own6, hd6', hs6⟩ := hA6.drum
    have hfl := tflush_any w6 t p D.safe.length own6 T D1 hA6.tape hd6'
    have HA6 := hid hA6
    have HS6 := hid hs6
    generalize D1.Flush = X2 at *
    obtain ⟨e2, D2⟩ := X2
    simp only at hz y1 y2 y3 y4 hfl
    have HZ2 := hid hz
    have Y1 := hid (y1.trans x1)
    have Y2 := hid (Nat.le_trans y2 x2)
    have Y3 := hid y3
    have Y4 := hid y4
    clear hd6 hA6 hz hs6 hd6' x1 x2 y1 y2 y3 y4 HLAY HZ HX1 HA5 k2 k3
    by_cases h2 : e2 = 0
    rotate_left
    · unfold endOr at hfl
      rw [if_neg h2] at hfl
      have HFL := hid hfl
      have H2 := hid h2
      clear hfl h2
      go_wp2_with (go_at_call 112; refine HFL.out.mono ?_; rintro e w7 ⟨rfl, hd7⟩)
      refine (HA6.out.step HS6.out hd7.more).gave Y3.out.bd ?_ rfl
      rw [HZ2.out, if_pos H2.out]
    subst h2
    unfold endOr at hfl
    rw [if_pos rfl] at hfl
    have HFL := hid hfl
    clear hfl
    go_wp2_with (go_at_call 112; refine HFL.out.mono ?_; rintro e w7 ⟨rfl, hd7⟩)
    have hA7 := HA6.out.step HS6.out hd7.more
    obtain ⟨own7, hd7', hs7⟩ := hA7.drum
    have k2 : ∀ w', Ext w7.drew w' → w'.cell? ⟨w.heap.size, 0, none⟩ = some (.pointer (some ⟨t, 0, none⟩)) := fun w' hh => (hA7.on (Ext.trans _ _ _ (Ext.drew w7) hh)).c2
    have k3 : ∀ w', Ext w7.drew w' → w'.cell? ⟨t, 3, none⟩ = some (I T.pos) := fun w' hh => (hA7.on (Ext.trans _ _ _ (Ext.drew w7) hh)).tape.c3
    have hby := bytes_on w7.drew t p own7 T D2 (by rw [Y1.out]; exact (hA7.on (Ext.drew w7)).tape) (hd7'.below (Ext.drew w7)) (Y4.out trivial) (T.pos / 256 * 256) 256 (by have : T.size = (T.hi - T.lo) * 256 := rfl; omega)
    have q1 : ((T.pos / 256 * 256 : Nat) : Int) = (T.pos : Int) / 256 * 256 := by omega
    rw [q1] at hby
    have HBY := hid hby
    have HA7 := hid hA7
    have HS7 := hid hs7
    have HD7 := hid hd7'
    have q2 : IntKind.i64.wrap ((T.pos : Int) / 256) = (T.pos : Int) / 256 := IntWalk.i64_in _ (by omega)
    have q3 : IntKind.i64.wrap ((T.pos : Int) / 256 * 256) = (T.pos : Int) / 256 * 256 := IntWalk.i64_in _ (by omega)
    clear hd7 hd7' hA7 hs7 hby HFL HA6 HS6 q1
    refine wp_region_order' Ext [] [(0,0),(1,0),(2,0),(3,0),(4,0),(5,0),(6,0),(7,1),(8,0)] _ (by kernel_rfl) rfl Ext.refl Ext.trans (by kernel_rfl) (by simp only [pick, List.getElem?_toArray, List.getElem?_cons_zero, List.getElem?_cons_succ]; rfl) (fun i oi hi c a v w h => hq99 (by kernel_rfl) i oi hi c a v w h) ?_
    refine wpK_q (v := ?_) (a' := ?_) (by rfl) (fun w' hR => ?_) ?_ ?_
    rotate_left 2
    · go_simp; with_reducible rfl
    · simp only [Act.put, List.setIfInBounds_toArray, List.set_cons_zero, List.set_cons_succ]; rfl
    refine wpK_q (v := ?_) (a' := ?_) (by rfl) (fun w' hR => ?_) ?_ ?_
    rotate_left 2
    · go_simp; with_reducible rfl
    · simp only [Act.put, List.setIfInBounds_toArray, List.set_cons_zero, List.set_cons_succ]; rfl
    refine wpK_q (v := ?_) (a' := ?_) (by rfl) (fun w' hR => ?_) ?_ ?_
    rotate_left 2
    · go_simp; with_reducible rfl
    · simp only [Act.put, List.setIfInBounds_toArray, List.set_cons_zero, List.set_cons_succ]; rfl
    refine wpK_q (v := ?_) (a' := ?_) (by rfl) (fun w' hR => ?_) ?_ ?_
    rotate_left 2
    · go_simp; with_reducible rfl
    · simp only [Act.put, List.setIfInBounds_toArray, List.set_cons_zero, List.set_cons_succ]; rfl
    refine wpK_q (v := ?_) (a' := ?_) (by rfl) (fun w' hR => ?_) ?_ ?_
    rotate_left 2
    · go_simp; with_reducible rfl
    · simp only [Act.put, List.setIfInBounds_toArray, List.set_cons_zero, List.set_cons_succ]; rfl
    refine wpK_q (v := ?_) (a' := ?_) (by rfl) (fun w' hR => ?_) ?_ ?_
    rotate_left 2
    · go_simp; with_reducible rfl
    · simp only [Act.put, List.setIfInBounds_toArray, List.set_cons_zero, List.set_cons_succ]; rfl
    refine wpK_q (v := ?_) (a' := ?_) (by rfl) (fun w' hR => ?_) ?_ ?_
    rotate_left 2
    · go_simp; with_reducible rfl
    · simp only [Act.put, List.setIfInBounds_toArray, List.set_cons_zero, List.set_cons_succ]; rfl
    refine wpK_call Try.func106 (by kernel_rfl) rfl rfl (by rfl) #[.pointer (some ⟨t, 0, none⟩), .int .i64 ((T.pos : Int) / 256 * 256), I 256] (by simp only [List.map_toArray, List.map_cons, List.map_nil]; rfl) ?_
    refine HBY.out.mono ?_
    rintro e w8 ⟨v8, rfl, ho8, hb8⟩
    refine ⟨_, rfl, fun _ => hb8, ?_⟩
    refine wpK_q (v := ?_) (a' := ?_) (by rfl) (fun w' hR => ?_) ?_ ?_
    rotate_left 2
    · go_simp; with_reducible rfl
    · simp only [Act.put, List.setIfInBounds_toArray, List.set_cons_zero, List.set_cons_succ]; rfl
    refine wpK_done ?_
    have hsz : T.size = (T.hi - T.lo) * 256 := rfl
    have hlen : (((TS.bytes D2 T).drop (T.pos / 256 * 256)).take 256) = DS.look D2.safe D2.waits (T.lo + T.pos / 256) := by
      have hok : D2.Ok := (HA7.out.drum.choose_spec).1.ok
      have := TS.stretch_piece hok (lo := T.lo) (n := T.hi - T.lo) (by rw [Y1.out]; omega) (a := T.pos / 256 * 256) (m := 256) (by have : T.size = (T.hi - T.lo) * 256 := rfl; omega) (by omega)
      unfold TS.bytes
      rw [this, Nat.mul_mod_left, List.drop_zero, Nat.mul_div_cancel _ (by decide)]
      exact List.take_of_length_le (Nat.le_of_eq (DS.look_len hok.page hok.wait (by rw [Y1.out]; omega)))
    have hll : (DS.look D2.safe D2.waits (T.lo + T.pos / 256)).length = 256 := by
      have hok : D2.Ok := (HA7.out.drum.choose_spec).1.ok
      exact DS.look_len hok.page hok.wait (by rw [Y1.out]; omega)
    rw [hlen, hll] at ho8
    obtain ⟨g8, cap8, rfl, g1, g2, g3, g4⟩ := own_slice ho8 (by decide)
    have hj : T.pos % 256 < 256 := Nat.mod_lt _ (by decide)
    have hju : ((T.pos : Int) % 256).toNat = T.pos % 256 := by omega
    have hj2 : (T.pos : Int) % 256 < 256 := by omega
    have hc8 : ∃ u, w8.cell? ⟨g8, T.pos % 256, none⟩ = some u := ⟨_, own_cell ho8 (i := T.pos % 256) (u := _) (List.getElem?_eq_getElem (by rw [List.length_map, hll]; exact hj))⟩
    obtain ⟨u8, hc8⟩ := hc8
    have hf8 := own_frozen ho8 (T.pos % 256)
    have hA8 := HA7.out.on (Ext.trans _ _ _ (Ext.drew w7) hb8)
    have k2 := hA8.c2
    have k3 := hA8.tape.c3
    clear hsz
    go_wp2
    have ho9 := own_set ho8 hj (.int .u8 1)
    have hs9 : Sees (w8.setCell ⟨g8, T.pos % 256, none⟩ (.int .u8 1)) (.slice (some ⟨g8, 0, none⟩) 256 cap8) (TS.marked D2 T) := own_sees' (own_len ho9 rfl (by unfold TS.marked; rw [List.map_set]; rfl)) (by unfold TS.marked; rw [List.length_set]; exact hll)
    have hb9 : Below w7.drew.heap.size w7.drew (w8.setCell ⟨g8, T.pos % 256, none⟩ (.int .u8 1)) := ⟨hb8.os, hb8.tape, hb8.output, by simpa using hb8.size, fun k hk => (heap_setCell_other w8 ⟨g8, T.pos % 256, none⟩ k _ (by simp only; omega)).trans (hb8.block k hk)⟩
    have HS9 := hid hs9
    have HB9 := hid hb9
    have HG8 := hid g3
    clear hb8 hb9 hs9 ho9 ho8 hlen hll hj hju hj2 hc8 hf8 hA8 k2 k3 g1 g2 g3 g4 HBY q2 q3
    generalize w8.setCell ⟨g8, T.pos % 256, none⟩ (.int .u8 1) = w9 at *
    have hA9 := HA7.out.on (Ext.trans _ _ _ (Ext.drew w7) (Ext.trans _ _ _ HB9.out (Ext.drew w9)))
    have hz7 : w7.drew.heap.size = w7.heap.size := rfl
    have hwr := write_any w9.drew p own7 D2 ((T.lo : Int) + (T.pos : Int) / 256) (.slice (some ⟨g8, 0, none⟩) 256 cap8) (TS.marked D2 T) (HD7.out.below (Ext.trans _ _ _ (Ext.drew w7) (Ext.trans _ _ _ HB9.out (Ext.drew w9)))) HS9.out.drew (by omega) (fun k hk ho => by have h1 := HD7.out.lt k ho; have h2 := HG8.out; have h3 : g8 = k := Option.some.inj hk; omega) (by have := Y2.out; omega)
    have hz := HZ2.out
    have qc : ((T.lo + T.pos / 256 : Nat) : Int) = (T.lo : Int) + (T.pos : Int) / 256 := by omega
    simp only [not_true_eq_false, if_false] at hz
    rw [qc] at hz
    have y1 := DS.write_len D2 ((T.lo : Int) + (T.pos : Int) / 256) (TS.marked D2 T)
    have y3 := DS.write_code D2 ((T.lo : Int) + (T.pos : Int) / 256) (TS.marked D2 T)
    generalize D2.write ((T.lo : Int) + (T.pos : Int) / 256) (TS.marked D2 T) = X3 at *
    obtain ⟨e3, D3⟩ := X3
    simp only at hz y1 y3 hwr
    have HZ3 := hid hz
    have HWR := hid hwr
    have Y5 := hid (y1.trans Y1.out)
    have Y6 := hid y3
    have HA9 := hid hA9
    have k2 : ∀ w', Ext w9.drew w' → w'.cell? ⟨w.heap.size, 0, none⟩ = some (.pointer (some ⟨t, 0, none⟩)) := fun w' hh => (HA9.out.on hh).c2
    have k0 : ∀ w', Ext w9.drew w' → w'.cell? ⟨t, 0, none⟩ = some (.pointer (some ⟨p, 0, none⟩)) := fun w' hh => (HA9.out.on hh).tape.c0
    have k1 : ∀ w', Ext w9.drew w' → w'.cell? ⟨t, 1, none⟩ = some (I T.lo) := fun w' hh => (HA9.out.on hh).tape.c1
    have k3 : ∀ w', Ext w9.drew w' → w'.cell? ⟨t, 3, none⟩ = some (I T.pos) := fun w' hh => (HA9.out.on hh).tape.c3
    have q2 : IntKind.i64.wrap ((T.pos : Int) / 256) = (T.pos : Int) / 256 := IntWalk.i64_in _ (by omega)
    have q3 : IntKind.i64.wrap ((T.lo : Int) + (T.pos : Int) / 256) = (T.lo : Int) + (T.pos : Int) / 256 := IntWalk.i64_in _ (by omega)
    clear hA9 hz7 hwr hz qc y1 y3 HZ2 HB9 HS9 HD7 HA7 Y3
    refine wp_region_order' Ext [15,16] [(0,0),(1,0),(2,0),(3,0),(4,0),(5,0),(6,0),(7,0),(8,0),(9,0),(10,0),(11,0),(12,0),(13,0),(14,0),(15,2),(16,2)] _ (by kernel_rfl) rfl Ext.refl Ext.trans (by kernel_rfl) (by simp only [pick, List.getElem?_toArray, List.getElem?_cons_zero, List.getElem?_cons_succ]; rfl) (fun i oi hi c a v w h => hq99 (by kernel_rfl) i oi hi c a v w h) ?_
    refine wpK_q (v := ?_) (a' := ?_) (by rfl) (fun w' hR => ?_) ?_ ?_
    rotate_left 2
    · go_simp; with_reducible rfl
    · simp only [Act.put, List.setIfInBounds_toArray, List.set_cons_zero, List.set_cons_succ]; rfl
    refine wpK_q (v := ?_) (a' := ?_) (by rfl) (fun w' hR => ?_) ?_ ?_
    rotate_left 2
    · go_simp; with_reducible rfl
    · simp only [Act.put, List.setIfInBounds_toArray, List.set_cons_zero, List.set_cons_succ]; rfl
    refine wpK_q (v := ?_) (a' := ?_) (by rfl) (fun w' hR => ?_) ?_ ?_
    rotate_left 2
    · go_simp; with_reducible rfl
    · simp only [Act.put, List.setIfInBounds_toArray, List.set_cons_zero, List.set_cons_succ]; rfl
    refine wpK_q (v := ?_) (a' := ?_) (by rfl) (fun w' hR => ?_) ?_ ?_
    rotate_left 2
    · go_simp; with_reducible rfl
    · simp only [Act.put, List.setIfInBounds_toArray, List.set_cons_zero, List.set_cons_succ]; rfl
    refine wpK_q (v := ?_) (a' := ?_) (by rfl) (fun w' hR => ?_) ?_ ?_
    rotate_left 2
    · go_simp; with_reducible rfl
    · simp only [Act.put, List.setIfInBounds_toArray, List.set_cons_zero, List.set_cons_succ]; rfl
    refine wpK_q (v := ?_) (a' := ?_) (by rfl) (fun w' hR => ?_) ?_ ?_
    rotate_left 2
    · go_simp; with_reducible rfl
    · simp only [Act.put, List.setIfInBounds_toArray, List.set_cons_zero, List.set_cons_succ]; rfl
    refine wpK_q (v := ?_) (a' := ?_) (by rfl) (fun w' hR => ?_) ?_ ?_
    rotate_left 2
    · go_simp; with_reducible rfl
    · simp only [Act.put, List.setIfInBounds_toArray, List.set_cons_zero, List.set_cons_succ]; rfl
    refine wpK_q (v := ?_) (a' := ?_) (by rfl) (fun w' hR => ?_) ?_ ?_
    rotate_left 2
    · go_simp; with_reducible rfl
    · simp only [Act.put, List.setIfInBounds_toArray, List.set_cons_zero, List.set_cons_succ]; rfl
    refine wpK_q (v := ?_) (a' := ?_) (by rfl) (fun w' hR => ?_) ?_ ?_
    rotate_left 2
    · go_simp; with_reducible rfl
    · simp only [Act.put, List.setIfInBounds_toArray, List.set_cons_zero, List.set_cons_succ]; rfl
    refine wpK_q (v := ?_) (a' := ?_) (by rfl) (fun w' hR => ?_) ?_ ?_
    rotate_left 2
    · go_simp; with_reducible rfl
    · simp only [Act.put, List.setIfInBounds_toArray, List.set_cons_zero, List.set_cons_succ]; rfl
    refine wpK_q (v := ?_) (a' := ?_) (by rfl) (fun w' hR => ?_) ?_ ?_
    rotate_left 2
    · go_simp; with_reducible rfl
    · simp only [Act.put, List.setIfInBounds_toArray, List.set_cons_zero, List.set_cons_succ]; rfl
    refine wpK_q (v := ?_) (a' := ?_) (by rfl) (fun w' hR => ?_) ?_ ?_
    rotate_left 2
    · go_simp; with_reducible rfl
    · simp only [Act.put, List.setIfInBounds_toArray, List.set_cons_zero, List.set_cons_succ]; rfl
    refine wpK_q (v := ?_) (a' := ?_) (by rfl) (fun w' hR => ?_) ?_ ?_
    rotate_left 2
    · go_simp; with_reducible rfl
    · simp only [Act.put, List.setIfInBounds_toArray, List.set_cons_zero, List.set_cons_succ]; rfl
    refine wpK_q (v := ?_) (a' := ?_) (by rfl) (fun w' hR => ?_) ?_ ?_
    rotate_left 2
    · go_simp; with_reducible rfl
    · simp only [Act.put, List.setIfInBounds_toArray, List.set_cons_zero, List.set_cons_succ]; rfl
    refine wpK_q (v := ?_) (a' := ?_) (by rfl) (fun w' hR => ?_) ?_ ?_
    rotate_left 2
    · go_simp; with_reducible rfl
    · simp only [Act.put, List.setIfInBounds_toArray, List.set_cons_zero, List.set_cons_succ]; rfl
    refine wpK_call Try.func50 (by kernel_rfl) rfl rfl (by rfl) #[.pointer (some ⟨p, 0, none⟩), .int .i64 ((T.lo : Int) + (T.pos : Int) / 256), .slice (some ⟨g8, 0, none⟩) 256 cap8] (by simp only [List.map_toArray, List.map_cons, List.map_nil]; rfl) ?_
    refine HWR.out.mono ?_
    rintro e w10 ⟨rfl, hd10⟩
    refine ⟨_, rfl, fun h => (by cases h), ?_⟩
    have hA10 := HA9.out.step HS7.out hd10
    refine wpK_s (by rfl) rfl (exec_store rfl (vx := .pointer (some ⟨w.heap.size + 1, 0, none⟩)) (vy := I e3) rfl rfl (run_store1 (u := I 0) (by kernel_rfl) rfl rfl hA10.c4 (frozen_row hA10.h4 0))) (fun h => by cases h) ?_
    refine wpK_done ?_
    have hA11 := hA10.put4 (I e3)
    generalize w10.setCell ⟨w.heap.size + 1, 0, none⟩ (I e3) = w11 at *
    have HA11 := hid hA11
    have k4 := hA11.c4
    have k5 := hA11.c2
    clear hA10 hA11 hd10 HWR HA9 HS7 k0 k1 k2 k3 q2 q3
    by_cases h3 : e3 = 0
    rotate_left
    · have H3 := hid h3
      have h3b : (e3 == 0) = false := by simpa using h3
      clear h3
      go_wp2_with (go_at_call 108; refine (unless_no _ _).mono ?_; rintro e w12 ⟨rfl, rfl⟩)
      refine HA11.out.gave Y6.out.bd ?_ rfl
      rw [HZ3.out, if_pos H3.out]
    subst h3
    have hz := HZ3.out
    simp only [not_true_eq_false, if_false] at hz
    have y2 := DS.Flush_code D3
    obtain ⟨own11, hd11, hs11⟩ := HA11.out.drum
    have hfl := tflush_any w11 t p D.safe.length own11 T D3 HA11.out.tape hd11
    have HS11 := hid hs11
    generalize D3.Flush = X4 at *
    obtain ⟨e4, D4⟩ := X4
    simp only at hz y2 hfl
    have HZ4 := hid hz
    have Y7 := hid y2
    clear hz y2 hd11 hs11 HZ3
    by_cases h4 : e4 = 0
    rotate_left
    · unfold endOr at hfl
      rw [if_neg h4] at hfl
      have HFL := hid hfl
      have H4 := hid h4
      clear hfl h4
      go_wp2_with (first | (go_at_call 108; refine (unless_ok _ _).mono ?_; rintro e w12 ⟨rfl, rfl⟩) | (go_at_call 112; refine HFL.out.mono ?_; rintro e w13 ⟨rfl, hd13⟩))
      refine (HA11.out.step HS11.out hd13.more).gave Y7.out.bd ?_ rfl
      rw [HZ4.out, if_pos H4.out]
    subst h4
    unfold endOr at hfl
    rw [if_pos rfl] at hfl
    have HFL := hid hfl
    clear hfl
    go_upto_region 12 with (first | (go_at_call 108; refine (unless_ok _ _).mono ?_; rintro e w12 ⟨rfl, rfl⟩) | (go_at_call 112; refine HFL.out.mono ?_; rintro e w13 ⟨rfl, hd13⟩))
    have hA13 := HA11.out.step HS11.out hd13.more
    have HA13 := hid hA13
    have c2 := hA13.c2
    have c4' := hA13.c4
    have ct3 := hA13.tape.c3
    have ct4 := hA13.tape.c4
    have ctf := hA13.tape.fr
    have cf4 := frozen_row hA13.h4 0
    have htl := hA13.tl
    have n1 : ¬ w.heap.size = t := by omega
    have n2 : ¬ w.heap.size + 1 = t := by omega
    have n3 : ¬ t = w.heap.size := by omega
    have n4 : ¬ t = w.heap.size + 1 := by omega
    have hw3 : IntKind.i64.wrap ((T.pos : Int) + (12 + (r.length : Int))) = (T.pos : Int) + (12 + (r.length : Int)) := IntWalk.i64_in _ (by omega)
    have hw4 : IntKind.i64.wrap ((T.count : Int) + 1) = (T.count : Int) + 1 := IntWalk.i64_in _ (by omega)
    have hcnt : T.count ≤ 1048576 := by omega
    clear hA13 hd13 k4 k5 HA11 HFL
    go_wp2
    have hA13 := HA13.out
    clear c2 c4' ct3 ct4 ctf cf4 hw3 hw4
    refine hA13.fin { T with pos := T.pos + 12 + r.length, count := T.count + 1 } ?_ ?_ ?_ rfl
    · have ht := hA13.tape
      have h1 := ht.ok
      refine ⟨⟨h1.lt, h1.le, by show T.pos + 12 + r.length ≤ T.size; omega, by show T.count + 1 ≤ T.pos + 12 + r.length; omega, h1.sick⟩, ht.n2, ?_⟩
      rw [heap_setCell_other _ ⟨w.heap.size + 1, 0, none⟩ t _ n4, heap_setCell_same _ t 4 _ _ _ (heap_setCell_same w13 t 3 _ _ _ ht.ht)]
      have e1 : (T.pos : Int) + (12 + (r.length : Int)) = ((T.pos + 12 + r.length : Nat) : Int) := by omega
      have e2 : (T.count : Int) + 1 = ((T.count + 1 : Nat) : Int) := by omega
      rw [e1, e2]
      rfl
    · have hm2 : Mod (fun k => k = t) w13 ((w13.setCell ⟨t, 3, none⟩ (.int .i64 ((T.pos : Int) + (12 + (r.length : Int))))).setCell ⟨t, 4, none⟩ (.int .i64 ((T.count : Int) + 1))) := (Mod.set (own := fun k => k = t) rfl).trans (Mod.set rfl)
      refine hm2.trans ⟨rfl, rfl, rfl, by simp, fun k hk ho => ?_⟩
      by_cases e : k = w.heap.size + 1
      · subst e
        have h4' := (hm2.block _ (Array.getElem?_eq_some_iff.1 hA13.h4).1 n2).trans hA13.h4
        exact (set_one h4' rfl _).trans h4'.symm
      · exact heap_setCell_other _ ⟨w.heap.size + 1, 0, none⟩ k _ e
    · rw [HZ4.out]
      rfl
end Go.Proofs.Ytoaeapnkefjpaaa

namespace Go.Proofs.Ytoaeapnkefjpaaa
open Go.RowKit
set_option linter.unusedVariables false
set_option linter.unusedSimpArgs false

theorem Done.back {w w1 : World} {t p n : Nat} {own0 : Nat → Prop} {X : Int × DS × TS} {e : Ending} {w' : World} (h : Done w1 t p n own0 X e w') (hb : Below w.heap.size w w1) : Done w t p n own0 X e w' := by
  obtain ⟨h1, h2, own', h3, h4, h5⟩ := h
  exact ⟨h1, h2, own', h3, fun k hk => (h4 k hk).imp id (fun h => Nat.le_trans hb.size h), (Mod.of_below _ hb).trans h5⟩
set_option maxRecDepth 100000 in
set_option maxHeartbeats 800000 in
theorem tappend_any (w : World) (t p : Nat) (own : Nat → Prop) (T : TS) (D : DS) (v : Value) (r : List UInt8) (h : TapeIn w t p D.safe.length T) (hd : DrumAt w p own D) (ht : ¬ own t) (hv : Sees w v r) (hN : D.waits.length ≤ 800000000) :
    Calls Try.prog 66 #[.pointer (some ⟨t, 0, none⟩), v] w (Done w t p D.safe.length own (TS.append D T r)) := by
  obtain ⟨b1, b2, b3, b4, b5, b6, b7⟩ := h.bd
  have same : ∀ (c : Int) (w1 : World), Below w.heap.size w w1 → Done w t p D.safe.length own (c, D, T) (.returned (I c)) w1 := fun c w1 hb => ⟨rfl, h.below hb, own, hd.below hb, fun k hk => .inl hk, Mod.of_below _ hb⟩
  obtain ⟨av, cv, rfl, hrl⟩ := hv.form0
  have c5 := h.c5
  have c3 := h.c3
  obtain ⟨Z, hZ⟩ : ∃ Z, Z = TS.append D T r := ⟨_, rfl⟩
  rw [← hZ]
  have HZ := hid hZ
  have SAME := hid same
  have H := hid h
  have HD := hid hd
  have HT := hid ht
  have HV := hid hv
  clear hZ same h hd ht hv b7
  by_cases h1 : 65536 < r.length
  · have h1' : decide ((r.length : Int) > 65536) = true := decide_eq_true (by omega)
    have h1'' : decide ((65536 : Int) < (r.length : Int)) = true := decide_eq_true (by omega)
    have hz : Z = (3, D, T) := by rw [HZ.out]; unfold TS.append; rw [if_pos h1]
    clear HZ
    go_enter Try.func66, Try.ntmps66
    go_wp2_with fail
    go_ret
    rw [hz]
    exact SAME.out 3 w (Below.refl _ _)
  · have h1' : decide ((65536 : Int) < (r.length : Int)) = false := decide_eq_false (by omega)
    by_cases h2 : T.sick = 0
    rotate_left
    · have h2b : (T.sick == 0) = false := by simpa using h2
      have hz : Z = (T.sick, D, T) := by rw [HZ.out]; unfold TS.append; rw [if_neg h1, if_pos h2]
      clear HZ h2
      go_enter Try.func66, Try.ntmps66
      go_wp2_with fail
      go_ret
      rw [hz]
      exact SAME.out T.sick w (Below.refl _ _)
    have h2b : (T.sick == 0) = true := by simpa using h2
    have hw1 : IntKind.i64.wrap ((T.pos : Int) + 12) = (T.pos : Int) + 12 := IntWalk.i64_in _ (by omega)
    have hw2 : IntKind.i64.wrap ((T.pos : Int) + 12 + (r.length : Int)) = (T.pos : Int) + 12 + (r.length : Int) := IntWalk.i64_in _ (by omega)
    have HBB := hid (fun m => below_drewN w m)
    by_cases h3 : T.size < T.pos + 12 + r.length
    · have h3' : decide ((T.size : Int) < (T.pos : Int) + 12 + (r.length : Int)) = true := decide_eq_true (by omega)
      have hz : Z = (22, D, T) := by rw [HZ.out]; unfold TS.append; rw [if_neg h1, if_neg (by simp [h2]), if_pos h3]
      rw [h2] at c5
      clear HZ h2
      go_enter Try.func66, Try.ntmps66
      go_wp2_with fail
      go_quiet ((go_at_call 98; exact Calls.quiet_of (size_any _ t p _ T (H.out.keep rfl))))
      go_wp2_with fail
      go_ret
      rw [hz]
      exact SAME.out 22 _ (HBB.out _)
    · have h3' : decide ((T.size : Int) < (T.pos : Int) + 12 + (r.length : Int)) = false := decide_eq_false (by omega)
      have hz : Z = TS.doIt D T r := by rw [HZ.out]; unfold TS.append; rw [if_neg h1, if_neg (by simp [h2]), if_neg h3]
      have HZ2 := hid hz
      rw [h2] at c5
      clear HZ h2 hz
      go_enter Try.func66, Try.ntmps66
      go_wp2_with fail
      go_quiet ((go_at_call 98; exact Calls.quiet_of (size_any _ t p _ T (H.out.keep rfl))))
      have hb := HBB.out nq
      have hdo := tdo_any (w.drewN nq) t p own T D _ r (H.out.below hb) (HD.out.below hb) HT.out (HV.out.below hb) (by omega) (by omega) hN
      have HDO := hid hdo
      have HB := hid hb
      clear hdo hb HBB
      go_wp2_with (go_at_call 99; refine HDO.out.mono ?_; rintro e w1 ⟨rfl, hh⟩; have HH := hid hh; clear hh)
      go_ret
      rw [HZ2.out]
      exact Done.back ⟨rfl, HH.out⟩ HB.out
theorem tcount_any (w : World) (t p n : Nat) (T : TS) (h : TapeIn w t p n T) : Calls Try.prog 74 #[.pointer (some ⟨t, 0, none⟩)] w fun e w' => e = .returned (I T.count) ∧ w = w' := by
  have c4 := h.c4
  clear h
  go_enter Try.func74, Try.ntmps74
  go_wp2
  go_ret
  exact ⟨rfl, rfl⟩
theorem tcount_nil (w : World) : Calls Try.prog 74 #[.pointer none] w fun e w' => e = .returned (I 0) ∧ w = w' := by
  go_enter Try.func74, Try.ntmps74
  go_wp2
  go_ret
  exact ⟨rfl, rfl⟩
theorem tappend_nil (w : World) (v : Value) : Calls Try.prog 66 #[.pointer none, v] w fun e w' => e = .returned (I 2) ∧ w = w' := by
  go_enter Try.func66, Try.ntmps66
  go_wp2
  go_ret
  exact ⟨rfl, rfl⟩
theorem page0_len : page0.length = 256 := List.length_replicate
/-- A page of noughts, just made. -/
theorem run_page0 (w : World) : ∀ ty : TypeId, ty = 23 → (Instr.makeSlice 23 (.int .i64 256) (.int .i64 256)).run Try.prog w = .ok (.slice (some ⟨w.heap.size, 0, none⟩) 256 256) (w.alloc (.cells (page0.map B).toArray 5)) := by
  intro ty hty
  obtain ⟨i5, hi, hz, hs, hb⟩ := info_parts info5'
  have hmk := run_makeSlice (P := Try.prog) w 23 5 i5 _ Try.underlying23 hi hz .i64 .i64 256 256 (by omega) (by omega) (by rw [hs]; decide) (by rw [hb]; decide) (by omega)
  rw [hs] at hmk
  have hcells : madeCells (Value.int .u8 0).cells ((256 : Int).toNat * 1) = (page0.map B).toArray := by kernel_rfl
  rw [hcells] at hmk
  exact hmk
theorem own_page0 (w : World) : (w.alloc (.cells (page0.map B).toArray 5)).ownsRow w.heap.size 5 1 (.slice (some ⟨w.heap.size, 0, none⟩) 256 256) 256 (page0.map B) := by
  refine ⟨by rw [List.length_map, page0_len], .inr ⟨w.heap.size, 256, _, rfl, Nat.le_refl _, heap_alloc_new w _, Nat.le_refl _, by unfold maxLen; omega, by rw [List.size_toArray, List.length_map, page0_len], ?_⟩⟩
  rw [List.take_of_length_le (by rw [List.length_map, page0_len]; omega)]
theorem Drummed'.back {own : Nat → Prop} {p : Nat} {w w1 w' : World} {D : DS} (h : Drummed' own p w1 D w') (hb : Below w.heap.size w w1) : Drummed' own p w D w' := by
  obtain ⟨own', h1, h2, h3⟩ := h
  exact ⟨own', h1, fun k hk => (h2 k hk).imp id (fun h => Nat.le_trans hb.size h), (Mod.of_below _ hb).trans h3⟩
theorem tclear_any (w : World) (p : Nat) (own : Nat → Prop) (D : DS) (lo : Int) (hd : DrumAt w p own D) (hlo : -9223372036854775808 ≤ lo ∧ lo ≤ 9223372036854775807) (hN : D.waits.length ≤ 800000000) :
    Calls Try.prog 68 #[.pointer (some ⟨p, 0, none⟩), I lo] w fun e w' => e = .returned (I (D.write lo page0).1) ∧ Drummed' own p w (D.write lo page0).2 w' := by
  have hmk := run_page0 w 23 rfl
  have hb : Below w.heap.size w (w.alloc (.cells (page0.map B).toArray 5)) := (Below.refl _ _).alloc (Nat.le_refl _) _
  have hwr := write_any (w.alloc (.cells (page0.map B).toArray 5)) p own D lo _ page0 (hd.below hb) (own_sees' (own_page0 w) page0_len) hlo (fun k hk ho => by have h1 := hd.lt k ho; have h3 : w.heap.size = k := Option.some.inj hk; omega) (by omega)
  have HWR := hid (hwr.mono fun e w' h => And.intro h.1 (Drummed'.back h.2 hb))
  generalize w.alloc (.cells (page0.map B).toArray 5) = w1 at *
  clear hb hwr hd
  go_enter Try.func68, Try.ntmps68
  go_wp2_with (go_at_call 50; refine HWR.out.mono ?_; rintro e w2 ⟨rfl, hh⟩; have HH := hid hh; clear hh)
  go_ret
  exact ⟨rfl, HH.out⟩
end Go.Proofs.Ytoaeapnkefjpaaa

namespace Go.Proofs.Ytoaeapnkefjpaaa
open Go.RowKit
set_option linter.unusedVariables false
set_option linter.unusedSimpArgs false

/-- A list of records, as it is seen. -/
def Shows (w : World) (v : Value) (L : List (List UInt8)) : Prop :=
  ∃ ao cap, v = .slice ao L.length cap ∧ L.length ≤ cap ∧ cap ≤ maxLen ∧ (0 < L.length → ∃ g off, ao = some ⟨g, off, none⟩ ∧ ∀ i r, L[i]? = some r → ∃ u, w.cell? ⟨g, off + i, none⟩ = some u ∧ Sees w u r)
theorem cell_lt {w : World} {a : Addr} {v : Value} (h : w.cell? a = some v) : a.block < w.heap.size := block_lt_of_cell h
theorem Shows.below {w w' : World} {v : Value} {L : List (List UInt8)} (h : Shows w v L) (hb : Below w.heap.size w w') : Shows w' v L := by
  obtain ⟨ao, cap, rfl, h1, h2, h3⟩ := h
  refine ⟨ao, cap, rfl, h1, h2, fun hp => ?_⟩
  obtain ⟨g, off, rfl, h4⟩ := h3 hp
  refine ⟨g, off, rfl, fun i r hr => ?_⟩
  obtain ⟨u, hu, hs⟩ := h4 i r hr
  exact ⟨u, (World.cell?_of_block (w := w) (a := ⟨g, off + i, none⟩) (hb.block g (cell_lt hu))).trans hu, hs.below hb⟩
theorem Shows.len {w : World} {v : Value} {L : List (List UInt8)} (h : Shows w v L) : ∃ ao cap, v = .slice ao L.length cap ∧ L.length ≤ maxLen := by
  obtain ⟨ao, cap, rfl, h1, h2, h3⟩ := h
  exact ⟨ao, cap, rfl, Nat.le_trans h1 h2⟩
theorem Shows.at {w : World} {ao : Option Addr} {n cap : Nat} {L : List (List UInt8)} (h : Shows w (.slice ao n cap) L) {i : Nat} {r : List UInt8} (hi : L[i]? = some r) : ∃ g off u, ao = some ⟨g, off, none⟩ ∧ w.cell? ⟨g, off + i, none⟩ = some u ∧ Sees w u r := by
  obtain ⟨ao', cap', hv, h1, h2, h3⟩ := h
  simp only [Value.slice.injEq] at hv
  obtain ⟨rfl, rfl, rfl⟩ := hv
  obtain ⟨g, off, rfl, h4⟩ := h3 (by have := (List.getElem?_eq_some_iff.1 hi).1; omega)
  obtain ⟨u, hu, hs⟩ := h4 i r hi
  exact ⟨g, off, u, rfl, hu, hs⟩
theorem Recs.shows {w : World} {base : Nat} {v : Value} {L : List (List UInt8)} (h : Recs w base v L) : Shows w v L := by
  obtain ⟨vs, pb, h⟩ := h
  by_cases h0 : 0 < L.length
  · obtain ⟨g, cap, rfl, h1, h2, h3, h4⟩ := own_slice h.row h0
    refine ⟨_, cap, rfl, h1, h2, fun _ => ⟨g, 0, rfl, fun i r hr => ?_⟩⟩
    have hi := (List.getElem?_eq_some_iff.1 hr).1
    obtain ⟨u, hu⟩ : ∃ u, vs[i]? = some u := ⟨_, List.getElem?_eq_getElem (by rw [h.len]; exact hi)⟩
    refine ⟨u, ?_, own_sees (h.each i _ r hu hr).1⟩
    rw [Nat.zero_add]
    exact own_cell h.row hu
  · have : L = [] := List.length_eq_zero_iff.1 (by omega)
    subst this
    rcases h.row.2 with ⟨rfl, -⟩ | ⟨g, cap, cur, rfl, hb, hg, hnc, hcm, r⟩
    · exact ⟨none, 0, rfl, Nat.le_refl _, by decide, fun h => by simp at h⟩
    · exact ⟨_, cap, rfl, hnc, hcm, fun h => by simp at h⟩
theorem str_eq (X Y : List UInt8) : ((str X).toList == (str Y).toList) = decide (X = Y) := by
  rw [str_toList, str_toList]
  by_cases h : X = Y
  · subst h; simp
  · rw [decide_eq_false h, beq_eq_false_iff_ne]; exact h
set_option maxRecDepth 100000 in
set_option maxHeartbeats 800000 in
theorem alike_any (w : World) (v1 v2 : Value) (L1 L2 : List (List UInt8)) (h1 : Shows w v1 L1) (h2 : Shows w v2 L2) : Calls Try.prog 67 #[v1, v2] w fun e w' => e = .returned (.bool (decide (L1 = L2))) ∧ ∃ m, w' = w.drewN m := by
  obtain ⟨a1, c1, rfl, l1⟩ := h1.len
  obtain ⟨a2, c2, rfl, l2⟩ := h2.len
  unfold maxLen at l1 l2
  have H1 := hid h1
  have H2 := hid h2
  obtain ⟨b, hb⟩ : ∃ b, b = decide (L1 = L2) := ⟨_, rfl⟩
  rw [← hb]
  have HB := hid hb
  clear h1 h2 hb
  by_cases hl : L1.length = L2.length
  rotate_left
  · have hl' : ((L1.length : Int) != (L2.length : Int)) = true := by simp; omega
    have hb : b = false := by rw [HB.out, decide_eq_false_iff_not]; intro e; exact hl (by rw [e])
    clear HB hl
    go_enter Try.func67, Try.ntmps67
    go_wp2
    go_ret
    exact ⟨by rw [hb]; rfl, 0, rfl⟩
  obtain ⟨n, hn⟩ : ∃ n, n = L1.length := ⟨_, rfl⟩
  have hn2 : n = L2.length := hn.trans hl
  rw [← hn, ← hn2]
  rw [← hn] at l1 H1
  rw [← hn2] at H2
  have HN := hid hn
  have HN2 := hid hn2
  clear hn hn2 hl l2
  go_enter Try.func67, Try.ntmps67
  go_wp2
  go_loopw [13] (fun i wr => ∃ (j m : Nat), j ≤ n ∧ i = I j ∧ Hid (L1.take j = L2.take j) ∧ Hid (wr = w.drewN m)) (fun i _ => n - (intOf i).toNat)
  case atStart => exact ⟨0, 0, by omega, rfl, hid rfl, hid rfl⟩
  case round =>
    obtain ⟨j, m, hj, rfl, HT, HW⟩ := hrel
    by_cases hlt : j < n
    · obtain ⟨r1, hr1⟩ : ∃ r1, L1[j]? = some r1 := ⟨_, List.getElem?_eq_getElem (by have := HN.out; omega)⟩
      obtain ⟨r2, hr2⟩ : ∃ r2, L2[j]? = some r2 := ⟨_, List.getElem?_eq_getElem (by have := HN2.out; omega)⟩
      obtain ⟨g1, o1, u1, rfl, hc1, hs1⟩ := H1.out.at hr1
      obtain ⟨g2, o2, u2, rfl, hc2, hs2⟩ := H2.out.at hr2
      have bw : Below w.heap.size w wr := by rw [HW.out]; exact below_drewN w m
      have k1 : ∀ w', Ext wr.drew w' → w'.cell? ⟨g1, o1 + j, none⟩ = some u1 := fun w' hh => (Ext.trans _ _ _ bw (Ext.trans _ _ _ (Ext.drew wr) hh)).cell hc1
      have k2 : ∀ w', Ext wr.drew w' → w'.cell? ⟨g2, o2 + j, none⟩ = some u2 := fun w' hh => (Ext.trans _ _ _ bw (Ext.trans _ _ _ (Ext.drew wr) hh)).cell hc2
      have k3 : ∀ w', Ext wr.drew w' → (convert 23 9 u1).run Try.prog w' = .ok (.string (str r1)) w' := fun w' hh => run_str Try.underlying23 Try.underlying5 Try.underlying9 (hs1.below (Ext.trans _ _ _ bw (Ext.trans _ _ _ (Ext.drew wr) hh)))
      have k4 : ∀ w', Ext wr.drew w' → (convert 23 9 u2).run Try.prog w' = .ok (.string (str r2)) w' := fun w' hh => run_str Try.underlying23 Try.underlying5 Try.underlying9 (hs2.below (Ext.trans _ _ _ bw (Ext.trans _ _ _ (Ext.drew wr) hh)))
      have HR1 := hid hr1
      have HR2 := hid hr2
      have hse := str_eq r1 r2
      clear hc1 hc2 hs1 hs2 bw hr1 hr2
      by_cases he : r1 = r2
      · have hb : decide (r1 = r2) = true := decide_eq_true he
        have HE := hid he
        clear he
        go_wp2
        refine wp_region_order Ext [] [(0,0),(1,0),(2,0),(3,0),(4,0),(5,0),(6,0),(7,0),(8,0),(9,0),(10,0)] _ (by kernel_rfl) rfl Ext.refl Ext.trans (by kernel_rfl) (by simp only [pick, List.getElem?_toArray, List.getElem?_cons_zero, List.getElem?_cons_succ]; rfl) (fun c a d v w h => by cases d <;> exact h) ?_
        refine wpK_q (v := ?_) (a' := ?_) (by rfl) (fun w' hR => ?_) ?_ ?_
        rotate_left 2
        · go_simp; with_reducible rfl
        · simp only [Act.put, List.setIfInBounds_toArray, List.set_cons_zero, List.set_cons_succ]; rfl
        refine wpK_q (v := ?_) (a' := ?_) (by rfl) (fun w' hR => ?_) ?_ ?_
        rotate_left 2
        · go_simp; with_reducible rfl
        · simp only [Act.put, List.setIfInBounds_toArray, List.set_cons_zero, List.set_cons_succ]; rfl
        refine wpK_q (v := ?_) (a' := ?_) (by rfl) (fun w' hR => ?_) ?_ ?_
        rotate_left 2
        · go_simp; with_reducible rfl
        · simp only [Act.put, List.setIfInBounds_toArray, List.set_cons_zero, List.set_cons_succ]; rfl
        refine wpK_q (v := ?_) (a' := ?_) (by rfl) (fun w' hR => ?_) ?_ ?_
        rotate_left 2
        · go_simp; with_reducible rfl
        · simp only [Act.put, List.setIfInBounds_toArray, List.set_cons_zero, List.set_cons_succ]; rfl
        refine wpK_q (v := ?_) (a' := ?_) (by rfl) (fun w' hR => ?_) ?_ ?_
        rotate_left 2
        · go_simp; with_reducible rfl
        · simp only [Act.put, List.setIfInBounds_toArray, List.set_cons_zero, List.set_cons_succ]; rfl
        refine wpK_q (v := ?_) (a' := ?_) (by rfl) (fun w' hR => ?_) ?_ ?_
        rotate_left 2
        · go_simp; with_reducible rfl
        · simp only [Act.put, List.setIfInBounds_toArray, List.set_cons_zero, List.set_cons_succ]; rfl
        refine wpK_q (v := ?_) (a' := ?_) (by rfl) (fun w' hR => ?_) ?_ ?_
        rotate_left 2
        · go_simp; with_reducible rfl
        · simp only [Act.put, List.setIfInBounds_toArray, List.set_cons_zero, List.set_cons_succ]; rfl
        refine wpK_q (v := ?_) (a' := ?_) (by rfl) (fun w' hR => ?_) ?_ ?_
        rotate_left 2
        · go_simp; with_reducible rfl
        · simp only [Act.put, List.setIfInBounds_toArray, List.set_cons_zero, List.set_cons_succ]; rfl
        refine wpK_q (v := ?_) (a' := ?_) (by rfl) (fun w' hR => ?_) ?_ ?_
        rotate_left 2
        · go_simp; with_reducible rfl
        · simp only [Act.put, List.setIfInBounds_toArray, List.set_cons_zero, List.set_cons_succ]; rfl
        refine wpK_q (v := ?_) (a' := ?_) (by rfl) (fun w' hR => ?_) ?_ ?_
        rotate_left 2
        · go_simp; with_reducible rfl
        · simp only [Act.put, List.setIfInBounds_toArray, List.set_cons_zero, List.set_cons_succ]; rfl
        refine wpK_q (v := ?_) (a' := ?_) (by rfl) (fun w' hR => ?_) ?_ ?_
        rotate_left 2
        · go_simp; with_reducible rfl
        · simp only [Act.put, List.setIfInBounds_toArray, List.set_cons_zero, List.set_cons_succ]; rfl
        refine wpK_done ?_
        clear k1 k2 k3 k4
        go_wp2
        go_roundw
        case rel =>
          refine ⟨j + 1, m + 1, by omega, by go_num, hid ?_, hid ?_⟩
          · rw [take_snoc HR1.out, take_snoc HR2.out, HT.out, HE.out]
          · rw [HW.out]; rfl
        case measure => simp [intOf]; omega
      · have hb : decide (r1 = r2) = false := decide_eq_false he
        have hbf : b = false := by
          rw [HB.out, decide_eq_false_iff_not]
          intro e
          have h1 := HR1.out
          rw [e, HR2.out] at h1
          exact he (Option.some.inj h1).symm
        have HBF := hid hbf
        clear he hbf HB
        go_wp2
        refine wp_region_order Ext [] [(0,0),(1,0),(2,0),(3,0),(4,0),(5,0),(6,0),(7,0),(8,0),(9,0),(10,0)] _ (by kernel_rfl) rfl Ext.refl Ext.trans (by kernel_rfl) (by simp only [pick, List.getElem?_toArray, List.getElem?_cons_zero, List.getElem?_cons_succ]; rfl) (fun c a d v w h => by cases d <;> exact h) ?_
        refine wpK_q (v := ?_) (a' := ?_) (by rfl) (fun w' hR => ?_) ?_ ?_
        rotate_left 2
        · go_simp; with_reducible rfl
        · simp only [Act.put, List.setIfInBounds_toArray, List.set_cons_zero, List.set_cons_succ]; rfl
        refine wpK_q (v := ?_) (a' := ?_) (by rfl) (fun w' hR => ?_) ?_ ?_
        rotate_left 2
        · go_simp; with_reducible rfl
        · simp only [Act.put, List.setIfInBounds_toArray, List.set_cons_zero, List.set_cons_succ]; rfl
        refine wpK_q (v := ?_) (a' := ?_) (by rfl) (fun w' hR => ?_) ?_ ?_
        rotate_left 2
        · go_simp; with_reducible rfl
        · simp only [Act.put, List.setIfInBounds_toArray, List.set_cons_zero, List.set_cons_succ]; rfl
        refine wpK_q (v := ?_) (a' := ?_) (by rfl) (fun w' hR => ?_) ?_ ?_
        rotate_left 2
        · go_simp; with_reducible rfl
        · simp only [Act.put, List.setIfInBounds_toArray, List.set_cons_zero, List.set_cons_succ]; rfl
        refine wpK_q (v := ?_) (a' := ?_) (by rfl) (fun w' hR => ?_) ?_ ?_
        rotate_left 2
        · go_simp; with_reducible rfl
        · simp only [Act.put, List.setIfInBounds_toArray, List.set_cons_zero, List.set_cons_succ]; rfl
        refine wpK_q (v := ?_) (a' := ?_) (by rfl) (fun w' hR => ?_) ?_ ?_
        rotate_left 2
        · go_simp; with_reducible rfl
        · simp only [Act.put, List.setIfInBounds_toArray, List.set_cons_zero, List.set_cons_succ]; rfl
        refine wpK_q (v := ?_) (a' := ?_) (by rfl) (fun w' hR => ?_) ?_ ?_
        rotate_left 2
        · go_simp; with_reducible rfl
        · simp only [Act.put, List.setIfInBounds_toArray, List.set_cons_zero, List.set_cons_succ]; rfl
        refine wpK_q (v := ?_) (a' := ?_) (by rfl) (fun w' hR => ?_) ?_ ?_
        rotate_left 2
        · go_simp; with_reducible rfl
        · simp only [Act.put, List.setIfInBounds_toArray, List.set_cons_zero, List.set_cons_succ]; rfl
        refine wpK_q (v := ?_) (a' := ?_) (by rfl) (fun w' hR => ?_) ?_ ?_
        rotate_left 2
        · go_simp; with_reducible rfl
        · simp only [Act.put, List.setIfInBounds_toArray, List.set_cons_zero, List.set_cons_succ]; rfl
        refine wpK_q (v := ?_) (a' := ?_) (by rfl) (fun w' hR => ?_) ?_ ?_
        rotate_left 2
        · go_simp; with_reducible rfl
        · simp only [Act.put, List.setIfInBounds_toArray, List.set_cons_zero, List.set_cons_succ]; rfl
        refine wpK_q (v := ?_) (a' := ?_) (by rfl) (fun w' hR => ?_) ?_ ?_
        rotate_left 2
        · go_simp; with_reducible rfl
        · simp only [Act.put, List.setIfInBounds_toArray, List.set_cons_zero, List.set_cons_succ]; rfl
        refine wpK_done ?_
        clear k1 k2 k3 k4
        go_wp2
        go_ret
        refine ⟨by rw [HBF.out]; rfl, m + 1, ?_⟩
        rw [HW.out]; rfl
    · obtain rfl : j = n := by omega
      have hbt : b = true := by
        rw [HB.out, decide_eq_true_eq]
        have := HT.out
        rwa [List.take_of_length_le (by have := HN.out; omega), List.take_of_length_le (by have := HN2.out; omega)] at this
      have HBT := hid hbt
      clear hbt HB
      go_wp2
      go_ret
      exact ⟨by rw [HBT.out]; rfl, m, HW.out⟩
/-- Open, with whatever bounds. -/
theorem open_any (w : World) (p : Nat) (own : Nat → Prop) (D : DS) (lo hi : Int) (hd : DrumAt w p own D) (hl : -9223372036854775808 ≤ lo ∧ lo ≤ 9223372036854775807) (hh : -9223372036854775808 ≤ hi ∧ hi ≤ 9223372036854775807) :
    Calls Try.prog 65 #[.pointer (some ⟨p, 0, none⟩), I lo, I hi] w (Opened w p D.safe.length lo.toNat hi.toNat (TS.opn D lo hi)) := by
  unfold TS.opn
  by_cases hb : lo < 0 ∨ (D.safe.length : Int) < hi ∨ hi ≤ lo
  · rw [if_pos hb]
    exact (open_bad w p own D lo hi hd hl hh hb).mono fun e w' h => .inl ⟨by simp, h.1, h.2⟩
  · rw [if_neg hb]
    have e1 : ((lo.toNat : Nat) : Int) = lo := by omega
    have e2 : ((hi.toNat : Nat) : Int) = hi := by omega
    cases ho : D.off with
    | true =>
      rw [if_pos rfl]
      have := open_down w p own D lo.toNat hi.toNat hd (by omega) (by omega) ho
      rw [e1, e2] at this
      exact this.mono fun e w' h => .inl ⟨by simp, h.1, h.2⟩
    | false =>
      rw [if_neg (by simp)]
      have := open_on w p own D lo.toNat hi.toNat hd (by omega) (by omega) ho
      rw [e1, e2] at this
      exact this
end Go.Proofs.Ytoaeapnkefjpaaa

namespace Go.Proofs.Ytoaeapnkefjpaaa
open Go.RowKit
set_option linter.unusedVariables false
set_option linter.unusedSimpArgs false

set_option maxRecDepth 100000 in
set_option maxHeartbeats 800000 in
theorem rframe_any (w : World) (k : UInt8) (c : Int) (hc : -9223372036854775808 ≤ c ∧ c ≤ 9223372036854775807) (v : Value) (r : List UInt8) (hv : Sees w v r) (hr : r.length ≤ 65536) : Calls Try.prog 95 #[B k, I c, v] w (Fresh w (k :: (TS.size3 r.length ++ Sum.be8 (Sum.add (Sum.of c (TS.size3 r.length)) r)) ++ r)) := by
  obtain ⟨ao, cap, rfl, -⟩ := hv.form0
  obtain ⟨Y, hY⟩ : ∃ Y, Y = k :: (TS.size3 r.length ++ Sum.be8 (Sum.add (Sum.of c (TS.size3 r.length)) r)) ++ r := ⟨_, rfl⟩
  rw [← hY]
  have HY := hid hY
  have HV := hid hv
  clear hv hY
  go_enter Try.func95, Try.ntmps95
  go_wp2_with fail
  have hcells : (#[Value.int .u8 ((r.length : Int) / 65536), Value.int .u8 ((r.length : Int) / 256 % 256), Value.int .u8 ((r.length : Int) % 256)] : Array Value) = ((TS.size3 r.length).map B).toArray := by
    have e1 : ((UInt8.ofNat (r.length / 65536 % 256)).toNat : Int) = (r.length : Int) / 65536 := by rw [UInt8.toNat_ofNat']; omega
    have e2 : ((UInt8.ofNat (r.length / 256 % 256)).toNat : Int) = (r.length : Int) / 256 % 256 := by rw [UInt8.toNat_ofNat']; omega
    have e3 : ((UInt8.ofNat (r.length % 256)).toNat : Int) = (r.length : Int) % 256 := by rw [UInt8.toNat_ofNat']; omega
    unfold TS.size3 B
    rw [List.map_cons, List.map_cons, List.map_cons, List.map_nil, e1, e2, e3]
  rw [hcells]
  have hS := Sees.lit w (TS.size3 r.length) (0, 0) (by show 3 ≤ maxLen; unfold maxLen; omega)
  have hb : Below w.heap.size w (w.alloc (.cells ((TS.size3 r.length).map B).toArray 5)) := (Below.refl _ _).alloc (Nat.le_refl _) _
  have HVa := hid (HV.out.below hb)
  have HS : Hid (Sees (w.alloc (.cells ((TS.size3 r.length).map B).toArray 5)) (.slice (some ⟨w.heap.size, 0, none⟩) 3 3) (TS.size3 r.length)) := hid hS
  have HB := hid hb
  generalize w.alloc (.cells ((TS.size3 r.length).map B).toArray 5) = wa at *
  clear hcells hS hb
  have r1 : 0 ≤ Sum.of c (TS.size3 r.length) ∧ Sum.of c (TS.size3 r.length) < 18446744073709551616 := by
    have := Sum.add_range (Sum.start c) (TS.size3 r.length)
    unfold Sum.of; omega
  have r2 : 0 ≤ Sum.add (Sum.of c (TS.size3 r.length)) r ∧ Sum.add (Sum.of c (TS.size3 r.length)) r < 18446744073709551616 := by
    have := Sum.add_range (Sum.of c (TS.size3 r.length)) r
    omega
  refine (rof_any c hc.1 hc.2 _ (TS.size3 r.length) _ HS.out).mono ?_
  rintro e w1 ⟨rfl, rfl⟩
  go_wp2_with (first | (go_at_call 27; refine (radd_any _ r1.1 r1.2 _ r _ HVa.out).mono ?_; rintro e w2 ⟨rfl, rfl⟩))
  have hbB : Below wa.heap.size wa (wa.alloc (.cells #[B k] 5)) := (Below.refl wa.heap.size wa).alloc (Nat.le_refl _) _
  have HVB := hid (HVa.out.below hbB)
  have HSB := hid (HS.out.below hbB)
  have HO0 := hid (own_born wa 5 (B k))
  have HBB := hid hbB
  clear hbB
  generalize wa.alloc (.cells #[B k] 5) = wB at *
  obtain ⟨F, hF⟩ : ∃ F, F = TS.size3 r.length ++ Sum.be8 (Sum.add (Sum.of c (TS.size3 r.length)) r) := ⟨_, rfl⟩
  have hFl : F.length = 11 := by rw [hF, List.length_append, Sum.be8_length]; rfl
  refine (rput_any _ (TS.size3 r.length) _ r2.1 r2.2 wB HSB.out (by show 3 ≤ 1099511627776; omega)).mono ?_
  rw [← hF]
  rintro e w1 ⟨v1, rfl, ho1, hb1⟩
  rw [hFl] at ho1
  obtain ⟨av1, cv1, rfl⟩ := own_form ho1
  have HS1 := hid (own_sees' ho1 hFl)
  have HO1 := hid (own_below HO0.out hb1)
  have HB1 := hid (Ext.trans _ _ _ HBB.out hb1)
  have HF := hid hF
  have HFL := hid hFl
  clear ho1 hb1 HVB HSB HO0 HBB hF hFl r1 r2
  have hs1 : wa.heap.size ≤ w1.heap.size := HB1.out.size
  go_wp2_with (at_builtin; refine wpList_app rfl (.tmp 29) (.tmp 32) 23 rfl wa.heap.size 5 (.int .u8 0) 1 1 Try.underlying23 info5 rfl (by decide) 1 [B k] 11 (F.map B) HO1.out ?src ?h63 ?hb hs1 ?_)
  case src => have := HS1.out.src; rw [HFL.out] at this; exact this
  case h63 => decide
  case hb => omega
  intro v2 w2 hown hgrow hat
  obtain ⟨av2, cv2, rfl⟩ := own_form hown
  have HO2 := hid hown
  have HB2 := hid (HB1.out.grown hgrow hs1 (fun k hk => by have := (own_lt HO1.out k hk).1; omega))
  have HV2 := hid (HVa.out.below HB2.out)
  clear hown hgrow hat HO1 HB1 HS1
  have hs2 : wa.heap.size ≤ w2.heap.size := HB2.out.size
  go_wp2_with (at_builtin; refine wpList_app rfl (.tmp 33) (.tmp 34) 23 rfl wa.heap.size 5 (.int .u8 0) 1 1 Try.underlying23 info5 rfl (by decide) 12 (B k :: F.map B) r.length (r.map B) HO2.out ?src ?h63 ?hb hs2 ?_)
  case src => exact HV2.out.src
  case h63 => unfold maxLen; omega
  case hb => omega
  intro v3 w3 hown hgrow hat
  have HO3 := hid hown
  have HB3 := hid (HB2.out.grown hgrow hs2 (fun k hk => by have := (own_lt HO2.out k hk).1; omega))
  clear hown hgrow hat HO2 HB2 HV2
  go_wp2_with fail
  go_ret
  refine ⟨v3, rfl, own_anew (own_len HO3.out ?_ ?_) (fun k hk => Nat.le_trans HB.out.size (own_lt HO3.out k hk).1), HB.out.trans (HB3.out.mono HB.out.size)⟩
  · rw [HY.out, ← HF.out, List.cons_append, List.length_cons, List.length_append, HFL.out]; omega
  · rw [HY.out, ← HF.out]; simp
theorem rframe_of (w : World) (k : UInt8) (c : Nat) (hc : c ≤ 1000000000) (v : Value) (r : List UInt8) (hv : Sees w v r) (hr : r.length ≤ 65536) : Calls Try.prog 95 #[B k, I c, v] w (Fresh w (k :: TS.framed c r ++ r)) := rframe_any w k c (by omega) v r hv hr
end Go.Proofs.Ytoaeapnkefjpaaa

namespace Go.Proofs.Ytoaeapnkefjpaaa
open Go.RowKit
set_option linter.unusedVariables false
set_option linter.unusedSimpArgs false

/-- The first j bytes laid. -/
def partG (f : Nat → UInt8) (j : Nat) : List UInt8 := (List.range 256).map fun i => if i < j then f i else 0
theorem partG_len (f : Nat → UInt8) (j : Nat) : (partG f j).length = 256 := by simp [partG]
theorem partG_set (f : Nat → UInt8) (j : Nat) (hj : j < 256) : (partG f j).set j (f j) = partG f (j + 1) := by
  apply List.ext_getElem?
  intro i
  unfold partG
  by_cases hi : i < 256
  · by_cases e : j = i
    · subst e
      simp [hi]
    · simp only [List.getElem?_set, e, if_false, List.getElem?_map, List.getElem?_range, hi, Option.map_some]
      congr 1
      by_cases h2 : i < j
      · rw [if_pos h2, if_pos (by omega)]
      · rw [if_neg h2, if_neg (by omega)]
  · simp [hi]
/-- A write's byte. -/
def byteAt (c : UInt8) (j : Nat) : UInt8 := c + UInt8.ofNat (j % 7)
def pageOf (c : UInt8) (short : Bool) : List UInt8 := if short then (partG (byteAt c) 256).take 255 else partG (byteAt c) 256
theorem byteAt_val (c : UInt8) (j : Nat) : ((byteAt c j).toNat : Int) = (((c.toNat : Int) + ((j % 7 : Nat) : Int)) % 256) := by
  unfold byteAt
  rw [UInt8.toNat_add, UInt8.toNat_ofNat']
  have := c.toNat_lt
  omega
theorem own_rebase {w : World} {b b' : Nat} {e : TypeId} {size n : Nat} {v : Value} {xs : List Value} (h : w.ownsRow b e size v n xs) (hb : ∀ k, v.ownBlock = some k → b' ≤ k) : w.ownsRow b' e size v n xs := by
  refine ⟨h.1, ?_⟩
  rcases h.2 with h0 | ⟨g, cap, cur, rfl, _, r⟩
  · exact .inl h0
  · exact .inr ⟨g, cap, cur, rfl, hb g rfl, r⟩
/-- A row's beginning. -/
theorem own_prefix {w : World} {base : Nat} {e : TypeId} {n g cap m : Nat} {xs : List Value} (h : w.ownsRow base e 1 (.slice (some ⟨g, 0, none⟩) n cap) n xs) (hm : m ≤ n) : w.ownsRow base e 1 (.slice (some ⟨g, 0, none⟩) m cap) m (xs.take m) := by
  obtain ⟨h1, h2⟩ := h
  refine ⟨by rw [List.length_take]; omega, ?_⟩
  rcases h2 with ⟨h0, _⟩ | ⟨g', cap', cur, hv, hb, hg, hnc, hcm, hcs, ht⟩
  · cases h0
  · simp only [Value.slice.injEq, Option.some.injEq, Addr.mk.injEq] at hv
    obtain ⟨⟨rfl, _⟩, _, rfl⟩ := hv
    refine .inr ⟨g, cap, cur, rfl, hb, hg, by omega, hcm, hcs, ?_⟩
    rw [← ht, List.take_take]
    congr 1
    omega
set_option maxRecDepth 100000 in
set_option maxHeartbeats 800000 in
theorem page_any (w : World) (k a n : Int) (c : UInt8) (s : Bool) : Calls Try.prog 62 #[.agg #[I k, I a, I n, B c, .bool s]] w (Fresh w (pageOf c s)) := by
  obtain ⟨i5, hi, hz, hs, hb⟩ := info_parts info5'
  have hmk := fun w => run_makeSlice (P := Try.prog) w 23 5 i5 _ Try.underlying23 hi hz .i64 .i64 256 256 (by omega) (by omega) (by rw [hs]; decide) (by rw [hb]; decide) (by omega)
  rw [hs] at hmk
  have hcells : madeCells (Value.int .u8 0).cells ((256 : Int).toNat * 1) = ((partG (byteAt c) 0).map B).toArray := by kernel_rfl
  rw [hcells] at hmk
  have h0 : ∀ w : World, (w.alloc (.cells ((partG (byteAt c) 0).map B).toArray 5)).ownsRow w.heap.size 5 1 (.slice (some ⟨w.heap.size, 0, none⟩) 256 256) 256 ((partG (byteAt c) 0).map B) := fun w => by
    refine ⟨by rw [List.length_map, partG_len], .inr ⟨w.heap.size, 256, _, rfl, Nat.le_refl _, heap_alloc_new w _, Nat.le_refl _, by unfold maxLen; omega, by rw [List.size_toArray, List.length_map, partG_len], ?_⟩⟩
    rw [List.take_of_length_le (by rw [List.length_map, partG_len]; omega)]
  have H0 := hid h0
  clear hi hz hs hb hcells h0
  go_enter Try.func62, Try.ntmps62
  obtain ⟨z0, hz0⟩ : ∃ z, z = partG (byteAt c) 0 := ⟨_, rfl⟩
  rw [← hz0] at hmk H0
  have HZ0 := hid hz0
  clear hz0
  go_wp2
  obtain ⟨wa, hwa⟩ : ∃ wa, wa = w.alloc (.cells #[I k, I a, I n, B c, .bool s] 83) := ⟨_, rfl⟩
  have hz : wa.heap.size = w.heap.size + 1 := by rw [hwa]; simp
  have hba : Below w.heap.size w wa := by rw [hwa]; exact (Below.refl _ _).alloc (Nat.le_refl _) _
  have hca : wa.heap[w.heap.size]? = some (.cells #[I k, I a, I n, B c, .bool s] 83 (0, 0)) := by rw [hwa]; exact heap_alloc_new _ _
  rw [← hwa]
  have H0' := hid (H0.out wa)
  rw [hz] at H0'
  have HBA := hid hba
  have HCA := hid hca
  have HZ := hid hz
  clear hwa hz hba hca hmk H0
  go_loopw [8] (fun i wr => ∃ (j : Nat), j ≤ 256 ∧ i = I j ∧ Hid (wr.ownsRow (w.heap.size + 1) 5 1 (.slice (some ⟨w.heap.size + 1, 0, none⟩) 256 256) 256 ((partG (byteAt c) j).map B)) ∧ Hid (Below (w.heap.size + 1) wa wr)) (fun i _ => 256 - (intOf i).toNat)
  case atStart => exact ⟨0, by omega, rfl, by rw [← HZ0.out]; exact H0', hid ((Below.refl _ _).alloc (by rw [HZ.out]; exact Nat.le_refl _) _)⟩
  case round =>
    obtain ⟨j, hj, rfl, hO, hB⟩ := hrel
    have hblk : wr.heap[w.heap.size]? = some (.cells #[I k, I a, I n, B c, .bool s] 83 (0, 0)) := (hB.out.block _ (by omega)).trans HCA.out
    have c3 : wr.cell? ⟨w.heap.size, 3, none⟩ = some (B c) := by rw [cell_of_row wr _ _ _ _ _ hblk]; rfl
    have c4 : wr.cell? ⟨w.heap.size, 4, none⟩ = some (.bool s) := by rw [cell_of_row wr _ _ _ _ _ hblk]; rfl
    clear hblk
    by_cases hlt : j < 256
    · have hlen := partG_len (byteAt c) j
      have hcell := own_cell hO.out (i := j) (u := B (partG (byteAt c) j)[j]) (by rw [List.getElem?_map, List.getElem?_eq_getElem (by omega)]; rfl)
      have hfr := own_frozen hO.out j
      have hO' := own_set hO.out hlt (B (byteAt c j))
      rw [← List.map_set, partG_set _ j hlt] at hO'
      have HO := hid hO'
      have hv := byteAt_val c j
      have HV := hid hv
      have hcb := byte_bd c
      generalize (partG (byteAt c) j)[j] = u0 at *
      clear hO' hlen hv
      go_wp2
      have e : Value.int .u8 (((c.toNat : Int) + (j : Int) % 7) % 256) = B (byteAt c j) := by
        show _ = Value.int .u8 _
        rw [HV.out]
        congr 2
      rw [e]
      exact ⟨⟨j + 1, by omega, by go_num, HO, hid (hB.out.setCell (p := ⟨w.heap.size + 1, j, none⟩) (Nat.le_refl _) _)⟩, by simp [intOf]; omega⟩
    · obtain rfl : j = 256 := by omega
      have hBB : Below w.heap.size w wr := HBA.out.trans (hB.out.mono (by omega))
      have HBB := hid hBB
      clear hBB
      cases s
      all_goals
        go_wp2
        go_ret
        refine ⟨_, rfl, ?_, HBB.out⟩
        have h1 := hO.out
        refine own_rebase (b := w.heap.size + 1) ?_ (fun k hk => ?_)
        · first
          | exact own_len h1 (partG_len _ _).symm rfl
          | exact own_len (own_prefix h1 (m := 255) (by omega)) (by show 255 = ((partG (byteAt c) 256).take 255).length; rw [List.length_take, partG_len]; rfl) (by show _ = ((partG (byteAt c) 256).take 255).map B; rw [List.map_take])
        · have := (own_lt h1 k (by exact hk)).1; omega
end Go.Proofs.Ytoaeapnkefjpaaa

namespace Go.Proofs.Ytoaeapnkefjpaaa
open Go.RowKit
set_option linter.unusedVariables false
set_option linter.unusedSimpArgs false

/-- The program's drum at pd is D, the document's at pm is M; all their blocks are newer than w0, and none is of both. -/
structure Both (w0 : World) (od : Nat → Prop) (pd : Nat) (om : Nat → Prop) (pm : Nat) (D M : DS) (w : World) : Prop where
  d : DrumAt w pd od D
  m : RefAt w pm om M
  fd : ∀ k, od k → w0.heap.size ≤ k
  fm : ∀ k, om k → w0.heap.size ≤ k
  dis : ∀ k, od k → ¬ om k
  below : Below w0.heap.size w0 w
/-- A block that is neither's. -/
def Held (od om : Nat → Prop) (w : World) (b : Nat) (o : Obj) : Prop := w.heap[b]? = some o ∧ ¬ od b ∧ ¬ om b
theorem Held.lt {od om : Nat → Prop} {w : World} {b : Nat} {o : Obj} (h : Held od om w b o) : b < w.heap.size := (Array.getElem?_eq_some_iff.1 h.1).1
theorem Held.cell {od om : Nat → Prop} {w : World} {b : Nat} {cs : Array Value} {t : TypeId} {fr : Nat × Nat} (h : Held od om w b (.cells cs t fr)) (i : Nat) (v : Value) (hv : cs[i]? = some v) : w.cell? ⟨b, i, none⟩ = some v := by rw [cell_of_row _ _ _ _ _ _ h.1]; exact hv
theorem Held.on {od om : Nat → Prop} {w w' : World} {b : Nat} {o : Obj} (h : Held od om w b o) (hb : Below w.heap.size w w') : Held od om w' b o := ⟨(hb.block b h.lt).trans h.1, h.2⟩
section
variable {w0 : World} {od : Nat → Prop} {pd : Nat} {om : Nat → Prop} {pm : Nat} {D M D' M' : DS} {w w' : World}
theorem Both.on (h : Both w0 od pd om pm D M w) (hb : Below w.heap.size w w') : Both w0 od pd om pm D M w' :=
  ⟨h.d.below hb, h.m.below hb, h.fd, h.fm, h.dis, h.below.trans (hb.mono h.below.size)⟩
theorem Both.dstep (h : Both w0 od pd om pm D M w) (hd : Drummed' od pd w D' w') : ∃ od', Both w0 od' pd om pm D' M w' ∧ ∀ b o, Held od om w b o → Held od' om w' b o := by
  obtain ⟨od', h1, h2, h3⟩ := hd
  refine ⟨od', ⟨h1, h.m.mod h3 (fun k hk hk2 => h.dis k hk2 hk), fun k hk => ?_, h.fm, fun k hk hk2 => ?_, h.below.trans (h3.below h.below.size (fun i hi ho => by have := h.fd i ho; omega))⟩, fun b o hb => ?_⟩
  · rcases h2 k hk with hk | hk
    · exact h.fd k hk
    · have := h.below.size; omega
  · rcases h2 k hk with hk | hk
    · exact h.dis k hk hk2
    · have := h.m.lt k hk2; omega
  · refine ⟨(h3.block b hb.lt hb.2.1).trans hb.1, fun hk => ?_, hb.2.2⟩
    rcases h2 b hk with hk | hk
    · exact hb.2.1 hk
    · have := hb.lt; omega
theorem Both.mstep (h : Both w0 od pd om pm D M w) (hd : Reffed' om pm w M' w') : ∃ om', Both w0 od pd om' pm D M' w' ∧ ∀ b o, Held od om w b o → Held od om' w' b o := by
  obtain ⟨om', h1, h2, h3⟩ := hd
  refine ⟨om', ⟨h.d.mod h3 (fun k hk hk2 => h.dis k hk hk2), h1, h.fd, fun k hk => ?_, fun k hk hk2 => ?_, h.below.trans (h3.below h.below.size (fun i hi ho => by have := h.fm i ho; omega))⟩, fun b o hb => ?_⟩
  · rcases h2 k hk with hk | hk
    · exact h.fm k hk
    · have := h.below.size; omega
  · rcases h2 k hk2 with hk2 | hk2
    · exact h.dis k hk hk2
    · have := h.d.lt k hk; omega
  · refine ⟨(h3.block b hb.lt hb.2.2).trans hb.1, hb.2.1, fun hk => ?_⟩
    rcases h2 b hk with hk | hk
    · exact hb.2.2 hk
    · have := hb.lt; omega
theorem Both.new (h : Both w0 od pd om pm D M w) (b : Nat) (hb : w.heap.size ≤ b) : ¬ od b ∧ ¬ om b :=
  ⟨fun hk => by have := h.d.lt b hk; omega, fun hk => by have := h.m.lt b hk; omega⟩
/-- The document's power comes back. -/
theorem RefAt.on (h : RefAt w pm om M) : Reffed' om pm w M.On (w.setCell ⟨pm, 3, none⟩ (.bool true)) := by
  obtain ⟨sv, wv, xv, ss, xs, pb, h⟩ := h
  exact ⟨om, ⟨sv, wv, xv, ss, xs, pb, h.setp 3 (.bool true) M.On h.ok.On rfl rfl rfl⟩, fun _ hk => .inl hk, Mod.set h.op⟩
theorem RefAt.cells (h : RefAt w pm om M) : ∃ as0 cs, w.cell? ⟨pm, 0, none⟩ = some (.slice as0 M.safe.length cs) ∧ w.cell? ⟨pm, 3, none⟩ = some (.bool (!M.off)) ∧ w.cell? ⟨pm, 4, none⟩ = some (I M.ops) ∧ ∀ i, w.frozen? ⟨pm, i, none⟩ = false := by
  obtain ⟨sv, wv, xv, ss, xs, pb, h⟩ := h
  obtain ⟨as0, cs, rfl⟩ := own_form h.hs
  exact ⟨as0, cs, h.c0, h.c3, h.c4, h.fr⟩
end
/-- Both drums are made. -/
theorem both_new {w w1 w2 : World} {p p2 : Nat} {own own2 : Nat → Prop} {D : DS} (h : St w own p D w1) (h1 : RefAt w2 p2 own2 D) (h2 : ∀ k, own2 k → w1.heap.size ≤ k) (h3 : Below w1.heap.size w1 w2) : Both w own p own2 p2 D D w2 :=
  ⟨h.at'.below h3, h1, h.fresh, fun k hk => Nat.le_trans h.below.size (h2 k hk), fun k hk hk2 => by have := h.at'.lt k hk; have := h2 k hk2; omega, h.below.trans (h3.mono h.below.size)⟩
/-- A drum's rows do not grow by much. -/
theorem DS.Off_waits (D : DS) (k : Int) : (D.Off k).waits.length ≤ D.waits.length := by unfold DS.Off; split <;> simp
theorem DS.op_waits (D : DS) : D.op.waits.length ≤ D.waits.length := by
  unfold DS.op
  split
  · split
    · exact DS.Off_waits _ _
    · exact Nat.le_refl _
  · exact Nat.le_refl _
theorem DS.write_waits (D : DS) (a : Int) (l : List UInt8) : (D.write a l).2.waits.length ≤ D.waits.length + 1 := by
  unfold DS.write
  split
  · simp
  · split
    · simp
    · simp only []
      have := DS.op_waits { D with waits := D.waits ++ [(a.toNat, l)] }
      simp only [List.length_append, List.length_cons, List.length_nil] at this
      split <;> simpa using this
theorem DS.Flush_waitsR (D : DS) : D.Flush.2.waits.length ≤ D.waits.length := by
  unfold DS.Flush
  split
  · exact Nat.le_refl _
  · simp only []
    have := DS.op_waits D
    split
    · exact this
    · simp
theorem Both.drewN {w0 : World} {od : Nat → Prop} {pd : Nat} {om : Nat → Prop} {pm : Nat} {D M : DS} {w : World} (h : Both w0 od pd om pm D M w) (n : Nat) : Both w0 od pd om pm D M (w.drewN n) := h.on ⟨rfl, rfl, rfl, Nat.le_refl _, fun _ _ => rfl⟩
/-- Block b stays. -/
def KeepAt (b : Nat) (w w' : World) : Prop := w'.heap[b]? = w.heap[b]? ∧ w.heap.size ≤ w'.heap.size
theorem KeepAt.refl {b : Nat} (w : World) : KeepAt b w w := ⟨rfl, Nat.le_refl _⟩
theorem KeepAt.trans {b : Nat} (w w' w'' : World) (h : KeepAt b w w') (k : KeepAt b w' w'') : KeepAt b w w'' := ⟨k.1.trans h.1, Nat.le_trans h.2 k.2⟩
end Go.Proofs.Ytoaeapnkefjpaaa

namespace Go.Proofs.Ytoaeapnkefjpaaa
open Go.RowKit
set_option linter.unusedVariables false
set_option linter.unusedSimpArgs false

/-- The document's tape at block t, over its drum at p, of n pages. -/
structure RTapeIn (w : World) (t p n : Nat) (T : TS) : Prop where
  ok : T.Ok n
  n2 : n ≤ 4096
  ht : w.heap[t]? = some (.cells #[.pointer (some ⟨p, 0, none⟩), I T.lo, I T.hi, I T.pos, I T.count, I T.sick] 64 (0, 0))
section
variable {w w' : World} {t p n : Nat} {T : TS}
theorem RTapeIn.lt (h : RTapeIn w t p n T) : t < w.heap.size := (Array.getElem?_eq_some_iff.1 h.ht).1
theorem RTapeIn.keep (h : RTapeIn w t p n T) (hb : w'.heap[t]? = w.heap[t]?) : RTapeIn w' t p n T := ⟨h.ok, h.n2, hb.trans h.ht⟩
theorem RTapeIn.below (h : RTapeIn w t p n T) (hb : Below w.heap.size w w') : RTapeIn w' t p n T := h.keep (hb.block t h.lt)
theorem RTapeIn.mod {own : Nat → Prop} (h : RTapeIn w t p n T) (hm : Mod own w w') (ho : ¬ own t) : RTapeIn w' t p n T := h.keep (hm.block t h.lt ho)
theorem RTapeIn.c0 (h : RTapeIn w t p n T) : w.cell? ⟨t, 0, none⟩ = some (.pointer (some ⟨p, 0, none⟩)) := by rw [cell_of_row w t _ _ _ _ h.ht]; rfl
theorem RTapeIn.c1 (h : RTapeIn w t p n T) : w.cell? ⟨t, 1, none⟩ = some (I T.lo) := by rw [cell_of_row w t _ _ _ _ h.ht]; rfl
theorem RTapeIn.c2 (h : RTapeIn w t p n T) : w.cell? ⟨t, 2, none⟩ = some (I T.hi) := by rw [cell_of_row w t _ _ _ _ h.ht]; rfl
theorem RTapeIn.c3 (h : RTapeIn w t p n T) : w.cell? ⟨t, 3, none⟩ = some (I T.pos) := by rw [cell_of_row w t _ _ _ _ h.ht]; rfl
theorem RTapeIn.c4 (h : RTapeIn w t p n T) : w.cell? ⟨t, 4, none⟩ = some (I T.count) := by rw [cell_of_row w t _ _ _ _ h.ht]; rfl
theorem RTapeIn.c5 (h : RTapeIn w t p n T) : w.cell? ⟨t, 5, none⟩ = some (I T.sick) := by rw [cell_of_row w t _ _ _ _ h.ht]; rfl
theorem RTapeIn.fr (h : RTapeIn w t p n T) : ∀ i, w.frozen? ⟨t, i, none⟩ = false := frozen_row h.ht
theorem RTapeIn.bd (h : RTapeIn w t p n T) : T.lo < T.hi ∧ T.hi ≤ n ∧ n ≤ 4096 ∧ T.pos ≤ T.size ∧ T.size ≤ 1048576 ∧ T.count ≤ T.pos ∧ (T.size : Int) = 256 * ((T.hi : Int) - (T.lo : Int)) := by
  have h1 := h.ok.lt
  have h2 := h.ok.le
  have h3 := h.n2
  have h4 : T.size = (T.hi - T.lo) * 256 := rfl
  refine ⟨h1, h2, h3, h.ok.pos, ?_, h.ok.count, ?_⟩ <;> omega
end
theorem rlook_any (w : World) (p : Nat) (own : Nat → Prop) (D : DS) (a : Nat) (h : RefAt w p own D) (ha : a < D.safe.length) :
    Calls Try.prog 84 #[.pointer (some ⟨p, 0, none⟩), I a] w fun e w' => w = w' ∧ ∃ v, e = .returned v ∧ Sees w v (DS.look D.safe D.waits a) ∧ ∀ k, v.ownBlock = some k → own k := by
  obtain ⟨sv, wv, xv, ss, xs, pb, h⟩ := h
  exact (look_in w p sv wv xv ss xs pb own D a h ha).mono fun e w' ⟨h1, v, h2, h3, h4⟩ => ⟨h1, v, h2, h3, fun k hk => h.pown k (h4 k hk)⟩
theorem TS.stretch_snoc (D : DS) (lo j : Nat) : TS.stretch D lo (j + 1) = TS.stretch D lo j ++ DS.look D.safe D.waits (lo + j) := by
  unfold TS.stretch
  rw [List.range_succ, List.flatMap_append]
  simp
theorem TS.stretch_zero (D : DS) (lo : Nat) : TS.stretch D lo 0 = [] := rfl
set_option maxRecDepth 100000 in
set_option maxHeartbeats 800000 in
theorem rall_any (w : World) (t p : Nat) (own : Nat → Prop) (T : TS) (D : DS) (h : RTapeIn w t p D.safe.length T) (hd : RefAt w p own D) : Calls Try.prog 100 #[.pointer (some ⟨t, 0, none⟩)] w (Fresh w (TS.stretch D T.lo (T.hi - T.lo))) := by
  obtain ⟨b1, b2, b3, b4, b5, b6, b7⟩ := h.bd
  have hok := hd.ok
  have H := hid h
  have HD := hid hd
  obtain ⟨n, hn⟩ : ∃ n, n = T.hi - T.lo := ⟨_, rfl⟩
  rw [← hn]
  have hn1 : T.lo + n ≤ T.hi ∧ T.hi ≤ T.lo + n := by omega
  have HL := hid (fun j (hj : j ≤ n) => TS.stretch_len hok (lo := T.lo) (n := j) (by omega))
  clear h hd hok b7 b4 b5 b6 hn
  go_enter Try.func100, Try.ntmps100
  have c0 := H.out.c0
  have c1 := H.out.c1
  have c2 := H.out.c2
  go_wp2
  go_loopw [3, 4] (fun o i wr => ∃ j : Nat, j ≤ n ∧ i = I ((T.lo + j : Nat) : Int) ∧ Hid (wr.ownsRow w.heap.size 5 1 o (j * 256) ((TS.stretch D T.lo j).map B)) ∧ Hid (Below w.heap.size w wr)) (fun _ i _ => T.hi - (intOf i).toNat)
  case atStart => exact ⟨0, by omega, rfl, hid (by rw [TS.stretch_zero]; exact World.ownsRow_nil _ _ _ _), hid (Below.refl _ _)⟩
  case round =>
    clear c0 c1 c2
    obtain ⟨j, hj, rfl, HO, HB⟩ := hrel
    have c0 := (H.out.below HB.out).c0
    have c1 := (H.out.below HB.out).c1
    have c2 := (H.out.below HB.out).c2
    obtain ⟨k, hk⟩ : ∃ k, k = T.lo + j := ⟨_, rfl⟩
    rw [← hk]
    have hk1 : T.lo + j ≤ k ∧ k ≤ T.lo + j := by omega
    obtain ⟨ao, co, rfl⟩ := own_form HO.out
    by_cases hlt : j < n
    · have f1 : decide ((k : Int) < (T.hi : Int)) = true := decide_eq_true (by omega)
      have hlk := rlook_any wr p own D k (HD.out.below HB.out) (by omega)
      have HLK := hid hlk
      have hll : (DS.look D.safe D.waits k).length = 256 := DS.look_len HD.out.ok.page HD.out.ok.wait (by omega)
      have hsn := TS.stretch_snoc D T.lo j
      rw [← hk] at hsn
      have HSN := hid hsn
      have HKE := hid hk
      generalize DS.look D.safe D.waits k = q at *
      have HLL := hid hll
      clear hlk hll hsn hk
      go_wp2_with (first | (go_at_call 84; refine HLK.out.mono ?_; rintro e w' ⟨rfl, v, rfl, hs, hb⟩; have HS := hid hs; clear hs hb) | (at_builtin; go_must (refine wpList_app rfl (.tmp 17) (.tmp 23) 23 rfl w.heap.size 5 (.int .u8 0) 1 1 Try.underlying23 info5 rfl (by decide) (j * 256) ((TS.stretch D T.lo j).map B) 256 (q.map B) HO.out ?src ?h63 ?hb HB.out.size ?_)))
      case src => have := HS.out.src; rw [HLL.out] at this; exact this
      case h63 => unfold maxLen; omega
      case hb => omega
      intro v' w8 hown hgrow hat
      replace hown : w8.ownsRow w.heap.size 5 1 v' ((j + 1) * 256) ((TS.stretch D T.lo (j + 1)).map B) := own_len hown (by omega) (by rw [HSN.out, List.map_append])
      have HO8 := hid hown
      have HB8 := hid (HB.out.grown hgrow HB.out.size (fun i hi => (own_lt HO.out i hi).1))
      obtain ⟨av', cv', rfl⟩ := own_form hown
      clear hown hgrow hat HS HLK HSN
      go_wp2
      go_roundw
      case rel => exact ⟨j + 1, by omega, by rw [show T.lo + (j + 1) = k + 1 by omega]; go_num, HO8, HB8⟩
      case measure => simp [intOf]; omega
    · have f1 : decide ((k : Int) < (T.hi : Int)) = false := decide_eq_false (by omega)
      have hjn : j = n := by omega
      clear hk
      have HJN := hid hjn
      clear hjn
      go_wp2
      go_ret
      have e := HJN.out
      subst e
      exact ⟨_, rfl, own_len HO.out (HL.out j (Nat.le_refl _)).symm rfl, HB.out⟩
end Go.Proofs.Ytoaeapnkefjpaaa

namespace Go.Proofs.Ytoaeapnkefjpaaa
open Go.RowKit
set_option linter.unusedVariables false
set_option linter.unusedSimpArgs false

/-- Whole pages written one behind the other, then a flush. -/
def TS.rwr (D : DS) (a : Nat) (ps : List (List UInt8)) : Int × DS := if (TS.wr D a ps).1 ≠ 0 then TS.wr D a ps else (TS.wr D a ps).2.Flush
theorem sl_own (a : Option Addr) (cap lo hi q : Nat) (h : (sl a cap lo hi).ownBlock = some q) : ∃ x, a = some x ∧ x.block = q := by
  cases a with
  | none => unfold sl at h; split at h <;> simp [Value.ownBlock] at h
  | some x =>
    refine ⟨x, rfl, ?_⟩
    unfold sl at h
    split at h
    · simpa [Value.ownBlock] using h
    · simp only [Option.map_some, Value.ownBlock, Option.some.injEq] at h
      have e : (x.add lo).block = x.block := by unfold Addr.add; split <;> rfl
      rw [e] at h
      exact h
theorem Reffed'.trans {own : Nat → Prop} {p : Nat} {w w1 w2 : World} {D2 : DS} {own1 : Nat → Prop} (h1 : ∀ k, own1 k → own k ∨ w.heap.size ≤ k) (h2 : Mod own w w1) (h : Reffed' own1 p w1 D2 w2) : Reffed' own p w D2 w2 := by
  obtain ⟨own2, k1, k2, k3⟩ := h
  refine ⟨own2, k1, fun k hk => ?_, h2.then k3 (fun i hi ho => (h1 i ho).elim id (fun h => by omega))⟩
  rcases k2 k hk with h' | h'
  · exact h1 k h'
  · exact .inr (Nat.le_trans h2.size h')
theorem Reffed'.refl {own : Nat → Prop} {p : Nat} {w : World} {D : DS} (h : RefAt w p own D) : Reffed' own p w D w := ⟨own, h, fun _ hk => .inl hk, Mod.refl _ _⟩
theorem Reffed'.below {own : Nat → Prop} {p : Nat} {w w1 w2 : World} {D : DS} (h : Reffed' own p w1 D w2) (hb : Below w.heap.size w w1) : Reffed' own p w D w2 := Reffed'.trans (fun _ hk => .inl hk) (Mod.of_below _ hb) h
/-- Between two pages. -/
structure RW (w : World) (p : Nat) (own : Nat → Prop) (D : DS) (a : Nat) (ps : List (List UInt8)) (i : Nat) (wr : World) : Prop where
  ex : ∃ Di own', TS.wr D a (ps.take i) = (0, Di) ∧ RefAt wr p own' Di ∧ (∀ k, own' k → own k ∨ w.heap.size ≤ k) ∧ Mod own w wr
set_option maxRecDepth 100000 in
set_option maxHeartbeats 1600000 in
theorem rtwrite_any (w : World) (t p : Nat) (own : Nat → Prop) (T : TS) (D : DS) (v : Value) (b : List UInt8) (k fr : Nat) (h : RTapeIn w t p D.safe.length T) (hd : RefAt w p own D) (ht : ¬ own t) (hv : Sees w v b) (hb : b.length = k * 256) (hfr : fr ≤ 4096) (hk : k ≤ 4096) (hvo : ∀ q, v.ownBlock = some q → ¬ own q) (hN : D.waits.length + 5000 ≤ 1000000000) :
    Calls Try.prog 101 #[.pointer (some ⟨t, 0, none⟩), v, I fr] w fun e w' => e = .returned (I (TS.rwr D (T.lo + fr) (TS.pagesOf b k)).1) ∧ Reffed' own p w (TS.rwr D (T.lo + fr) (TS.pagesOf b k)).2 w' := by
  obtain ⟨b1, b2, b3, b4, b5, b6, b7⟩ := h.bd
  obtain ⟨av, cv, rfl, hbl⟩ := hv.form0
  have hcap : b.length ≤ cv ∧ cv ≤ maxLen := by
    obtain ⟨ao, c, e1, e2, e3, -⟩ := hv
    simp only [Value.slice.injEq] at e1
    obtain ⟨-, -, rfl⟩ := e1
    exact ⟨e2, e3⟩
  unfold maxLen at hcap
  obtain ⟨n, hn⟩ : ∃ n, n = b.length := ⟨_, rfl⟩
  rw [← hn] at hv hvo hcap hbl ⊢
  have hnk : n ≤ k * 256 ∧ k * 256 ≤ n := by omega
  have H := hid h
  have HD := hid hd
  have HT := hid ht
  have HV := hid hv
  have HVO := hid hvo
  have HN := hid hn
  have HBK := hid hb
  have hvlt : ∀ q, (0 < n) → (Value.slice av n cv).ownBlock = some q → q < w.heap.size := fun q hq ho => by
    obtain ⟨ao, c, e1, e2, e3, e4⟩ := HV.out
    simp only [Value.slice.injEq] at e1
    obtain ⟨rfl, _, rfl⟩ := e1
    obtain ⟨g, off, rfl, hc⟩ := e4 (by rw [← HN.out]; exact hq)
    have e : g = q := Option.some.inj ho
    subst e
    exact cell_lt (hc 0 _ (List.getElem?_eq_getElem (by rw [← HN.out]; exact hq)))
  have HVL := hid hvlt
  clear h hd ht hv hvo hn hb b4 b5 b6 b7 hvlt
  go_enter Try.func101, Try.ntmps101
  go_wp2
  go_loopw [7] (fun i wr => ∃ j : Nat, j ≤ k ∧ i = I j ∧ Hid (RW w p own D (T.lo + fr) (TS.pagesOf b k) j wr)) (fun i _ => k - (intOf i).toNat)
  case atStart => exact ⟨0, by omega, rfl, hid ⟨D, own, by simp [TS.wr], HD.out, fun _ hk => .inl hk, Mod.refl _ _⟩⟩
  case round =>
    obtain ⟨i, hi, rfl, HW⟩ := hrel
    obtain ⟨Di, own', x1, x2, x3, x4⟩ := HW.out.ex
    have hto : ¬ own' t := fun ho => (x3 t ho).elim HT.out (fun h' => by have := H.out.lt; omega)
    have HTA := hid (H.out.mod x4 HT.out)
    have hwt : Di.waits.length ≤ D.waits.length + i := by
      have := TS.wr_waits ((TS.pagesOf b k).take i) D (T.lo + fr)
      rw [x1, List.length_take] at this
      simp only at this
      omega
    have hsl : Di.safe.length = D.safe.length := by
      have := TS.wr_len ((TS.pagesOf b k).take i) D (T.lo + fr)
      rw [x1] at this
      exact this
    by_cases hlt : i < k
    · have f1 : decide ((256 : Int) * (i : Int) < (n : Int)) = true := decide_eq_true (by omega)
      have HX1 := hid x1
      have HX2 := hid (x2.below (Ext.drew wr))
      have HX3 := hid x3
      have HX4 := hid (x4.trans (Mod.drew wr))
      have hvis : Sees wr.drew (.slice av n cv) b := HV.out.keep (fun q hq => HX4.out.block q (HVL.out q (by omega) hq) (HVO.out q hq))
      have hno : ∀ q, (Value.slice av n cv).ownBlock = some q → ¬ own' q := fun q hq ho => (x3 q ho).elim (HVO.out q hq) (fun h' => by have := HVL.out q (by omega) hq; omega)
      obtain ⟨a1, c1, hs⟩ : ∃ a1 c1, sl av cv (256 * i) (256 * i + 256) = .slice a1 256 c1 := ⟨_, _, by unfold sl; rw [show 256 * i + 256 - 256 * i = 256 by omega]⟩
      have hS1 := hvis.sl (lo := 256 * i) (hi := 256 * i + 256) (by omega) (by omega)
      rw [hs] at hS1
      have hno1 : ∀ q, (Value.slice a1 256 c1).ownBlock = some q → ¬ own' q := fun q hq => by
        rw [← hs] at hq
        obtain ⟨x, rfl, rfl⟩ := sl_own av cv _ _ q hq
        exact hno _ rfl
      have e5 : ∀ w', (Instr.sliceAt 23 (.slice av n cv) (some (.int .i64 (256 * (i : Int)))) (some (.int .i64 (256 * (i : Int) + 256))) none).run Try.prog w' = .ok (.slice a1 256 c1) w' := fun w' => by
        have := run_sl av n cv (256 * i) (256 * i + 256) (by omega) (by omega) w'
        rw [hs, show ((256 * i : Nat) : Int) = 256 * (i : Int) by omega, show ((256 * i + 256 : Nat) : Int) = 256 * (i : Int) + 256 by omega] at this
        exact this
      obtain ⟨pg, hpg⟩ : ∃ pg, pg = (b.take (256 * i + 256)).drop (256 * i) := ⟨_, rfl⟩
      rw [← hpg] at hS1
      have hpl : pg.length = 256 := by rw [hpg, List.length_drop, List.length_take, ← HN.out]; omega
      have hpe : (TS.pagesOf b k)[i]? = some pg := by
        rw [(page_of b k i HBK.out hlt).1, hpg, List.drop_take, show 256 * i + 256 - 256 * i = 256 by omega, Nat.mul_comm i 256]
      have hwr := rwrite_any wr.drew p own' Di ((T.lo : Int) + (fr : Int) + (i : Int)) (.slice a1 256 c1) pg HX2.out hS1 (by omega) hno1 (by omega)
      have hcast : ((T.lo : Int) + (fr : Int) + (i : Int)) = ((T.lo + fr + i : Nat) : Int) := by omega
      obtain ⟨X, hX⟩ : ∃ X, X = Di.write ((T.lo : Int) + (fr : Int) + (i : Int)) pg := ⟨_, rfl⟩
      rw [← hX] at hwr
      obtain ⟨c, D2⟩ := X
      simp only at hwr
      have HX := hid hX
      have HCT := hid hcast
      have HWR := hid hwr
      have HPE := hid hpe
      have k0 : ∀ w', Ext wr.drew w' → w'.cell? ⟨t, 0, none⟩ = some (.pointer (some ⟨p, 0, none⟩)) := fun w' hh => (Ext.trans _ _ _ (Ext.drew wr) hh).cell HTA.out.c0
      have k1 : ∀ w', Ext wr.drew w' → w'.cell? ⟨t, 1, none⟩ = some (I T.lo) := fun w' hh => (Ext.trans _ _ _ (Ext.drew wr) hh).cell HTA.out.c1
      have hw1 : IntKind.i64.wrap ((T.lo : Int) + (fr : Int)) = (T.lo : Int) + (fr : Int) := IntWalk.i64_in _ (by omega)
      have hw2 : IntKind.i64.wrap ((T.lo : Int) + (fr : Int) + (i : Int)) = (T.lo : Int) + (fr : Int) + (i : Int) := IntWalk.i64_in _ (by omega)
      have hw3 : IntKind.i64.wrap ((256 : Int) * (i : Int)) = 256 * (i : Int) := IntWalk.i64_in _ (by omega)
      have hw4 : IntKind.i64.wrap ((256 : Int) * (i : Int) + 256) = 256 * (i : Int) + 256 := IntWalk.i64_in _ (by omega)
      have hlen : (TS.wr D (T.lo + fr) ((TS.pagesOf b k).take (i + 1))) = (c, D2) := by
        rw [take_snoc HPE.out, TS.wr_snoc D _ _ _ HX1.out, List.length_take, HX.out, HCT.out]
        congr 2
        have : (TS.pagesOf b k).length = k := by unfold TS.pagesOf; simp
        rw [this]
        omega
      have HLE := hid hlen
      clear x1 x2 x3 x4 hvis hno hs hS1 hno1 hpg hpe hwr hX hcast hlen hpl hwt hsl
      go_wp2
      refine wp_region_order Ext [19] [(0,0),(1,0),(2,0),(3,0),(4,0),(5,0),(6,0),(7,0),(8,0),(9,0),(10,0),(11,0),(12,0),(13,0),(14,0),(15,0),(16,0),(17,0),(18,0),(19,2),(20,0)] _ (by kernel_rfl) rfl Ext.refl Ext.trans (by kernel_rfl) (by simp only [pick, List.getElem?_toArray, List.getElem?_cons_zero, List.getElem?_cons_succ]; rfl) (fun c a d v w h => by cases d <;> exact h) ?_
      refine wpK_q (v := ?_) (a' := ?_) (by rfl) (fun w' hR => ?_) ?_ ?_
      rotate_left 2
      · go_simp; with_reducible rfl
      · simp only [Act.put, List.setIfInBounds_toArray, List.set_cons_zero, List.set_cons_succ]; rfl
      refine wpK_q (v := ?_) (a' := ?_) (by rfl) (fun w' hR => ?_) ?_ ?_
      rotate_left 2
      · go_simp; with_reducible rfl
      · simp only [Act.put, List.setIfInBounds_toArray, List.set_cons_zero, List.set_cons_succ]; rfl
      refine wpK_q (v := ?_) (a' := ?_) (by rfl) (fun w' hR => ?_) ?_ ?_
      rotate_left 2
      · go_simp; with_reducible rfl
      · simp only [Act.put, List.setIfInBounds_toArray, List.set_cons_zero, List.set_cons_succ]; rfl
      refine wpK_q (v := ?_) (a' := ?_) (by rfl) (fun w' hR => ?_) ?_ ?_
      rotate_left 2
      · go_simp; with_reducible rfl
      · simp only [Act.put, List.setIfInBounds_toArray, List.set_cons_zero, List.set_cons_succ]; rfl
      refine wpK_q (v := ?_) (a' := ?_) (by rfl) (fun w' hR => ?_) ?_ ?_
      rotate_left 2
      · go_simp; with_reducible rfl
      · simp only [Act.put, List.setIfInBounds_toArray, List.set_cons_zero, List.set_cons_succ]; rfl
      refine wpK_q (v := ?_) (a' := ?_) (by rfl) (fun w' hR => ?_) ?_ ?_
      rotate_left 2
      · go_simp; with_reducible rfl
      · simp only [Act.put, List.setIfInBounds_toArray, List.set_cons_zero, List.set_cons_succ]; rfl
      refine wpK_q (v := ?_) (a' := ?_) (by rfl) (fun w' hR => ?_) ?_ ?_
      rotate_left 2
      · go_simp; with_reducible rfl
      · simp only [Act.put, List.setIfInBounds_toArray, List.set_cons_zero, List.set_cons_succ]; rfl
      refine wpK_q (v := ?_) (a' := ?_) (by rfl) (fun w' hR => ?_) ?_ ?_
      rotate_left 2
      · go_simp; with_reducible rfl
      · simp only [Act.put, List.setIfInBounds_toArray, List.set_cons_zero, List.set_cons_succ]; rfl
      refine wpK_q (v := ?_) (a' := ?_) (by rfl) (fun w' hR => ?_) ?_ ?_
      rotate_left 2
      · go_simp; with_reducible rfl
      · simp only [Act.put, List.setIfInBounds_toArray, List.set_cons_zero, List.set_cons_succ]; rfl
      refine wpK_q (v := ?_) (a' := ?_) (by rfl) (fun w' hR => ?_) ?_ ?_
      rotate_left 2
      · go_simp; with_reducible rfl
      · simp only [Act.put, List.setIfInBounds_toArray, List.set_cons_zero, List.set_cons_succ]; rfl
      refine wpK_q (v := ?_) (a' := ?_) (by rfl) (fun w' hR => ?_) ?_ ?_
      rotate_left 2
      · go_simp; with_reducible rfl
      · simp only [Act.put, List.setIfInBounds_toArray, List.set_cons_zero, List.set_cons_succ]; rfl
      refine wpK_q (v := ?_) (a' := ?_) (by rfl) (fun w' hR => ?_) ?_ ?_
      rotate_left 2
      · go_simp; with_reducible rfl
      · simp only [Act.put, List.setIfInBounds_toArray, List.set_cons_zero, List.set_cons_succ]; rfl
      refine wpK_q (v := ?_) (a' := ?_) (by rfl) (fun w' hR => ?_) ?_ ?_
      rotate_left 2
      · go_simp; with_reducible rfl
      · simp only [Act.put, List.setIfInBounds_toArray, List.set_cons_zero, List.set_cons_succ]; rfl
      refine wpK_q (v := ?_) (a' := ?_) (by rfl) (fun w' hR => ?_) ?_ ?_
      rotate_left 2
      · go_simp; with_reducible rfl
      · simp only [Act.put, List.setIfInBounds_toArray, List.set_cons_zero, List.set_cons_succ]; rfl
      refine wpK_q (v := ?_) (a' := ?_) (by rfl) (fun w' hR => ?_) ?_ ?_
      rotate_left 2
      · go_simp; with_reducible rfl
      · simp only [Act.put, List.setIfInBounds_toArray, List.set_cons_zero, List.set_cons_succ]; rfl
      refine wpK_q (v := ?_) (a' := ?_) (by rfl) (fun w' hR => ?_) ?_ ?_
      rotate_left 2
      · go_simp; with_reducible rfl
      · simp only [Act.put, List.setIfInBounds_toArray, List.set_cons_zero, List.set_cons_succ]; rfl
      refine wpK_q (v := ?_) (a' := ?_) (by rfl) (fun w' hR => ?_) ?_ ?_
      rotate_left 2
      · go_simp; with_reducible rfl
      · simp only [Act.put, List.setIfInBounds_toArray, List.set_cons_zero, List.set_cons_succ]; rfl
      refine wpK_q (v := ?_) (a' := ?_) (by rfl) (fun w' hR => ?_) ?_ ?_
      rotate_left 2
      · go_simp; with_reducible rfl
      · simp only [Act.put, List.setIfInBounds_toArray, List.set_cons_zero, List.set_cons_succ]; rfl
      refine wpK_q (v := ?_) (a' := ?_) (by rfl) (fun w' hR => ?_) ?_ ?_
      rotate_left 2
      · go_simp; with_reducible rfl
      · simp only [Act.put, List.setIfInBounds_toArray, List.set_cons_zero, List.set_cons_succ]; rfl
      refine wpK_call Try.func51 (by kernel_rfl) rfl rfl (by rfl) #[.pointer (some ⟨p, 0, none⟩), .int .i64 ((T.lo : Int) + (fr : Int) + (i : Int)), .slice a1 256 c1] (by simp only [List.map_toArray, List.map_cons, List.map_nil]; rfl) ?_
      refine HWR.out.mono ?_
      rintro e w5 ⟨rfl, hre⟩
      refine ⟨_, rfl, fun hh => (by cases hh), ?_⟩
      refine wpK_q (v := ?_) (a' := ?_) (by rfl) (fun w' hR => ?_) ?_ ?_
      rotate_left 2
      · go_simp; with_reducible rfl
      · simp only [Act.put, List.setIfInBounds_toArray, List.set_cons_zero, List.set_cons_succ]; rfl
      refine wpK_done ?_
      have HRE := hid (Reffed'.trans HX3.out HX4.out hre)
      clear k0 k1 hw1 hw2 hw3 hw4 hre e5
      by_cases hc : c = 0
      · subst hc
        obtain ⟨own2, y1, y2, y3⟩ := HRE.out
        have HNX : Hid (RW w p own D (T.lo + fr) (TS.pagesOf b k) (i + 1) w5) := hid ⟨D2, own2, HLE.out, y1, y2, y3⟩
        clear y1 y2 y3 HRE HWR
        go_wp2
        go_roundw
        case rel => exact ⟨i + 1, by omega, by go_num, HNX⟩
        case measure => simp [intOf]; omega
      · have hcb : (c == 0) = false := by simpa using hc
        have HC := hid hc
        clear hc HWR
        go_wp2
        go_ret
        have hst := TS.wr_stop D (T.lo + fr) ((TS.pagesOf b k).take (i + 1)) ((TS.pagesOf b k).drop (i + 1)) (by rw [HLE.out]; exact HC.out)
        rw [List.take_append_drop] at hst
        have e : TS.rwr D (T.lo + fr) (TS.pagesOf b k) = (c, D2) := by
          unfold TS.rwr
          rw [hst, HLE.out, if_pos HC.out]
        rw [e]
        exact ⟨rfl, HRE.out⟩
    · have f1 : decide ((256 : Int) * (i : Int) < (n : Int)) = false := decide_eq_false (by omega)
      have c0 := HTA.out.c0
      have HX1 := hid x1
      have HX2 := hid x2
      have HX3 := hid x3
      have HX4 := hid x4
      have HIK := hid (show i = k by omega)
      clear x1 x2 x3 x4 hwt hsl
      go_wp2_with (go_at_call 53; refine (rflush_any _ p own' Di HX2.out).mono ?_; rintro e w5 ⟨rfl, hre⟩; have HRE := hid (Reffed'.trans HX3.out HX4.out hre); clear hre)
      go_ret
      have e : TS.rwr D (T.lo + fr) (TS.pagesOf b k) = Di.Flush := by
        have h1 := HX1.out
        rw [HIK.out, List.take_of_length_le (by unfold TS.pagesOf; simp)] at h1
        unfold TS.rwr
        rw [h1, if_neg (by simp)]
      rw [e]
      exact ⟨rfl, HRE.out⟩
end Go.Proofs.Ytoaeapnkefjpaaa

namespace Go.Proofs.Ytoaeapnkefjpaaa
open Go.RowKit
set_option linter.unusedVariables false
set_option linter.unusedSimpArgs false

theorem drop_cons {α : Type} {S : List α} {a : Nat} {x : α} (h : S[a]? = some x) : S.drop a = x :: S.drop (a + 1) := by
  obtain ⟨hlt, rfl⟩ := List.getElem?_eq_some_iff.1 h
  exact List.drop_eq_getElem_cons hlt
theorem TS.lenAt_three {S : List UInt8} {a : Nat} {x y z : UInt8} (h1 : S[a + 1]? = some x) (h2 : S[a + 2]? = some y) (h3 : S[a + 3]? = some z) : (x.toNat : Int) * 65536 + (y.toNat : Int) * 256 + (z.toNat : Int) = (TS.lenAt S a : Int) := by
  unfold TS.lenAt
  rw [drop_cons h1, drop_cons h2, drop_cons h3]
  simp only [List.take_succ_cons, List.take_zero, Sum.num, Sum.nst, List.foldl_cons, List.foldl_nil]
  omega
theorem TS.full_rec {S : List UInt8} {a n0 : Nat} (h : S[a]? = some 1) : (S.take (a + 12 + n0)).drop a = (1 :: (S.drop (a + 1)).take 11) ++ (S.drop (a + 12)).take n0 := by
  rw [List.drop_take, show a + 12 + n0 - a = (11 + n0) + 1 by omega, drop_cons h, List.take_succ_cons, List.take_add, List.drop_drop, List.cons_append]
/-- Between two rounds of the document's opening. -/
structure RO (w0 w : World) (u p n lo hi g cap bs : Nat) (S : List UInt8) (X : Int × List (List UInt8) × Nat × Nat) (v : Value) (T : TS) : Prop where
  tl : T.lo = lo
  th : T.hi = hi
  ts : T.sick = 0
  tape : RTapeIn w u p n T
  row : Sees w (.slice (some ⟨g, 0, none⟩) S.length cap) S
  lt : u < bs ∧ g < bs ∧ bs ≤ w.heap.size
  ne : u ≠ g
  ex : ∃ k acc vs pb, RecsIn w bs v vs pb acc ∧ X = TS.opened S k T.pos T.count acc ∧ S.length + 1 ≤ k + T.pos ∧ acc.length = T.count
  below : Below w0.heap.size w0 w
  fresh : w0.heap.size ≤ u
theorem RO.on {w0 w w' : World} {u p n lo hi g cap bs : Nat} {S : List UInt8} {X : Int × List (List UInt8) × Nat × Nat} {v : Value} {T : TS} (h : RO w0 w u p n lo hi g cap bs S X v T) (hb : Below w.heap.size w w') : RO w0 w' u p n lo hi g cap bs S X v T := by
  obtain ⟨k, acc, vs, pb, h1, h2⟩ := h.ex
  exact ⟨h.tl, h.th, h.ts, h.tape.below hb, h.row.below hb, ⟨h.lt.1, h.lt.2.1, Nat.le_trans h.lt.2.2 hb.size⟩, h.ne, ⟨k, acc, vs, pb, h1.keep (fun k _ hk => hb.block k hk) hb.size, h2⟩, h.below.trans (hb.mono h.below.size), h.fresh⟩
theorem RO.pos {w0 w : World} {u p n lo hi g cap bs : Nat} {S : List UInt8} {X : Int × List (List UInt8) × Nat × Nat} {v : Value} {T : TS} (h : RO w0 w u p n lo hi g cap bs S X v T) : posOf u w = T.pos := by unfold posOf; rw [h.tape.c3]; rfl
/-- What stands at the place decides. -/
theorem RO.no {w0 w : World} {u p n lo hi g cap bs : Nat} {S : List UInt8} {X : Int × List (List UInt8) × Nat × Nat} {v : Value} {T : TS} (h : RO w0 w u p n lo hi g cap bs S X v T) (hp : T.pos ≤ S.length) (hf : TS.found S T.pos T.count = .no) : ∃ acc, X = (0, acc, T.pos, T.count) ∧ Shows w v acc := by
  obtain ⟨k, acc, vs, pb, h1, h2, h3, h4⟩ := h.ex
  obtain ⟨k, rfl⟩ : ∃ j, k = j + 1 := ⟨k - 1, by omega⟩
  rw [TS.opened, hf] at h2
  exact ⟨acc, h2, Recs.shows ⟨vs, pb, h1⟩⟩
theorem RO.bad {w0 w : World} {u p n lo hi g cap bs : Nat} {S : List UInt8} {X : Int × List (List UInt8) × Nat × Nat} {v : Value} {T : TS} (h : RO w0 w u p n lo hi g cap bs S X v T) (hp : T.pos ≤ S.length) {e : Int} (hf : TS.found S T.pos T.count = .bad e) : X = (e, [], 0, 0) := by
  obtain ⟨k, acc, vs, pb, h1, h2, h3, h4⟩ := h.ex
  obtain ⟨k, rfl⟩ : ∃ j, k = j + 1 := ⟨k - 1, by omega⟩
  rw [TS.opened, hf] at h2
  exact h2
/-- A record is taken. -/
theorem RO.push {w0 w w1 : World} {u p n lo hi g cap bs : Nat} {S : List UInt8} {X : Int × List (List UInt8) × Nat × Nat} {v v' x : Value} {T : TS} {r : List UInt8} {o : Obj} (h : RO w0 w u p n lo hi g cap bs S X v T)
    {k : Nat} {acc : List (List UInt8)} {vs : List Value} {pb : Nat → Prop} (h1 : RecsIn w bs v vs pb acc) (h2 : X = TS.opened S k T.pos T.count acc) (h3 : S.length + 1 ≤ k + T.pos) (h4 : acc.length = T.count) (hS : T.size = S.length) (hf : TS.found S T.pos T.count = .yes r)
    (hx : w.ownsRow bs 5 1 x r.length (r.map B)) (hxn : ∀ q, x.ownBlock = some q → ¬ pb q ∧ v.ownBlock ≠ some q) (hown : w1.ownsRow bs 23 1 v' (acc.length + 1) (vs ++ [x])) (hgrow : (w.alloc o).grownBy w1 v.ownBlock) (hat : v'.ownBlock = v.ownBlock ∨ v'.ownBlock = some (w.heap.size + 1))
    {y3 y4 : Int} (e3 : y3 = ((T.pos + 12 + r.length : Nat) : Int)) (e4 : y4 = ((T.count + 1 : Nat) : Int)) :
    RO w0 ((w1.setCell ⟨u, 3, none⟩ (I y3)).setCell ⟨u, 4, none⟩ (I y4)) u p n lo hi g cap bs S X v' { T with pos := T.pos + 12 + r.length, count := T.count + 1 } := by
  subst e3 e4
  obtain ⟨l1, l2, l3⟩ := h.lt
  have hz : (w.alloc o).heap.size = w.heap.size + 1 := by simp
  have hk1 : ∀ q, q < w.heap.size → v.ownBlock ≠ some q → w1.heap[q]? = w.heap[q]? := fun q hq hv => (hgrow.block q (by omega) (fun e => hv e.symm)).trans (Below.heap_alloc w o q hq)
  have hvb : ∀ q, v.ownBlock = some q → bs ≤ q := fun q hq => (own_lt h1.row q hq).1
  have hu1 : w1.heap[u]? = w.heap[u]? := hk1 u (by omega) (fun e => by have := hvb u e; omega)
  have hsz := hgrow.size
  obtain ⟨f1, f2, f3, f4⟩ := TS.found_yes hf
  have hpush := h1.push hx hxn hown (fun q hq hq2 hv => hk1 q hq2 hv) (by omega) (fun q hq => by
    rcases hat with e | e
    · exact .inl (by rw [← e]; exact hq)
    · rw [e] at hq; have := Option.some.inj hq; exact .inr (by omega))
  have e1 : ∀ q, q ≠ u → ((w1.setCell ⟨u, 3, none⟩ (I ((T.pos + 12 + r.length : Nat) : Int))).setCell ⟨u, 4, none⟩ (I ((T.count + 1 : Nat) : Int))).heap[q]? = w1.heap[q]? := fun q hq => (heap_setCell_other _ ⟨u, 4, none⟩ q _ hq).trans (heap_setCell_other _ ⟨u, 3, none⟩ q _ hq)
  have hcells : ((w1.setCell ⟨u, 3, none⟩ (I ((T.pos + 12 + r.length : Nat) : Int))).setCell ⟨u, 4, none⟩ (I ((T.count + 1 : Nat) : Int))).heap[u]? = some (.cells #[.pointer (some ⟨p, 0, none⟩), I T.lo, I T.hi, I ((T.pos + 12 + r.length : Nat) : Int), I ((T.count + 1 : Nat) : Int), I T.sick] 64 (0, 0)) := by
    rw [heap_setCell_same _ u 4 _ _ _ (heap_setCell_same w1 u 3 _ _ _ (hu1.trans h.tape.ht))]
    rfl
  have hb1 : Below w0.heap.size w0 w1 := h.below.trans ⟨hgrow.os, hgrow.tape, hgrow.output, by omega, fun q hq => hk1 q (by have := h.below.size; omega) (fun e => by have := hvb q e; have := h.fresh; omega)⟩
  have hok := h.tape.ok
  refine ⟨h.tl, h.th, h.ts, ⟨⟨hok.lt, hok.le, by show T.pos + 12 + r.length ≤ T.size; omega, by show T.count + 1 ≤ T.pos + 12 + r.length; have := hok.count; omega, hok.sick⟩, h.tape.n2, hcells⟩, ?_, ⟨l1, l2, by simp; omega⟩, h.ne, ?_, ?_, h.fresh⟩
  · refine h.row.keep (fun q hq => ?_)
    have e : g = q := Option.some.inj hq
    subst e
    exact (e1 g (Ne.symm h.ne)).trans (hk1 g (by omega) (fun e => by have := hvb g e; omega))
  · refine ⟨k - 1, acc ++ [r], _, _, hpush.keep (fun q hq hq2 => e1 q (by omega)) (by simp), ?_, by show S.length + 1 ≤ k - 1 + (T.pos + 12 + r.length); omega, by rw [List.length_append, h4]; rfl⟩
    obtain ⟨j, rfl⟩ : ∃ j, k = j + 1 := ⟨k - 1, by have := hok.pos; omega⟩
    rw [TS.opened, hf] at h2
    exact h2
  · exact (hb1.setCell (p := ⟨u, 3, none⟩) h.fresh _).setCell (p := ⟨u, 4, none⟩) h.fresh _
theorem RO.cell {w0 w : World} {u p n lo hi g cap bs : Nat} {S : List UInt8} {X : Int × List (List UInt8) × Nat × Nat} {v : Value} {T : TS} (h : RO w0 w u p n lo hi g cap bs S X v T) {i : Nat} {c : UInt8} (hi : S[i]? = some c) : w.cell? ⟨g, i, none⟩ = some (B c) := by
  obtain ⟨ao, cp, e1, -, -, e4⟩ := h.row
  simp only [Value.slice.injEq] at e1
  obtain ⟨rfl, -, rfl⟩ := e1
  obtain ⟨g', off, e5, hc⟩ := e4 (by have := (List.getElem?_eq_some_iff.1 hi).1; omega)
  simp only [Option.some.injEq, Addr.mk.injEq, and_true] at e5
  obtain ⟨rfl, rfl⟩ := e5
  have := hc i c hi
  rwa [Nat.zero_add] at this
/-- What the document's Open comes to. -/
def ROpened (w0 : World) (p n lo hi : Nat) (x : Int × List (List UInt8) × Nat × Nat) (e : Ending) (w' : World) : Prop :=
  ((x.1 ≠ 0 ∧ e = .returned (.tuple #[.pointer none, .slice none 0 0, I x.1])) ∨
  (x.1 = 0 ∧ ∃ t v, e = .returned (.tuple #[.pointer (some ⟨t, 0, none⟩), v, I 0]) ∧ w0.heap.size ≤ t ∧ RTapeIn w' t p n ⟨lo, hi, x.2.2.1, x.2.2.2, 0⟩ ∧ Shows w' v x.2.1)) ∧ Below w0.heap.size w0 w'
theorem RO.fin {w0 w : World} {u p n lo hi g cap bs : Nat} {S : List UInt8} {X : Int × List (List UInt8) × Nat × Nat} {v : Value} {T : TS} (h : RO w0 w u p n lo hi g cap bs S X v T) (hp : T.pos ≤ S.length) (hf : TS.found S T.pos T.count = .no) : ROpened w0 p n lo hi X (.returned (.tuple #[.pointer (some ⟨u, 0, none⟩), v, I 0])) w := by
  obtain ⟨acc, rfl, hs⟩ := h.no hp hf
  refine ⟨.inr ⟨rfl, u, v, rfl, h.fresh, ?_, hs⟩, h.below⟩
  have ht := h.tape
  have e : T = ⟨lo, hi, T.pos, T.count, 0⟩ := by
    have h1 := h.tl
    have h2 := h.th
    have h3 := h.ts
    cases T
    simp only at h1 h2 h3
    subst h1 h2 h3
    rfl
  rw [e] at ht
  exact ht
theorem RO.gave {w0 w w' : World} {u p n lo hi g cap bs : Nat} {S : List UInt8} {X : Int × List (List UInt8) × Nat × Nat} {v : Value} {T : TS} (h : RO w0 w u p n lo hi g cap bs S X v T) (hp : T.pos ≤ S.length) {e : Int} (hf : TS.found S T.pos T.count = .bad e) (hb : Below w0.heap.size w0 w') : ROpened w0 p n lo hi X (.returned (.tuple #[.pointer none, .slice none 0 0, I e])) w' := by
  have := h.bad hp hf
  subst this
  exact ⟨.inl ⟨found_bad hf, rfl⟩, hb⟩
set_option maxRecDepth 100000 in
set_option maxHeartbeats 800000 in
theorem ropen_bad (w : World) (p : Nat) (own : Nat → Prop) (D : DS) (lo hi : Int) (hd : RefAt w p own D) (hl : -9223372036854775808 ≤ lo ∧ lo ≤ 9223372036854775807) (hh : -9223372036854775808 ≤ hi ∧ hi ≤ 9223372036854775807) (hb : lo < 0 ∨ (D.safe.length : Int) < hi ∨ hi ≤ lo) :
    Calls Try.prog 71 #[.pointer (some ⟨p, 0, none⟩), I lo, I hi] w fun e w' => e = .returned (.tuple #[.pointer none, .slice none 0 0, I 1]) ∧ w = w' := by
  obtain ⟨as0, cs, c0, c3, c4, fr⟩ := hd.cells
  have hn := hd.ok.n2
  clear hd fr
  have e1 : decide (lo < 0) = true ∨ (decide (lo < 0) = false ∧ decide ((D.safe.length : Int) < hi) = true) ∨ (decide (lo < 0) = false ∧ decide ((D.safe.length : Int) < hi) = false ∧ decide (hi ≤ lo) = true) := by
    simp only [decide_eq_true_eq, decide_eq_false_iff_not]; omega
  clear hb
  rcases e1 with e1 | ⟨e1, e2⟩ | ⟨e1, e2, e3⟩
  all_goals
    go_enter Try.func71, Try.ntmps71
    go_wp2
    go_ret3
    exact ⟨rfl, rfl⟩
set_option maxRecDepth 100000 in
set_option maxHeartbeats 800000 in
theorem ropen_down (w : World) (p : Nat) (own : Nat → Prop) (D : DS) (lo hi : Nat) (hd : RefAt w p own D) (h2 : hi ≤ D.safe.length) (h3 : lo < hi) (ho : D.off = true) :
    Calls Try.prog 71 #[.pointer (some ⟨p, 0, none⟩), I lo, I hi] w fun e w' => e = .returned (.tuple #[.pointer none, .slice none 0 0, I 20]) ∧ w = w' := by
  obtain ⟨as0, cs, c0, c3, c4, fr⟩ := hd.cells
  have hn := hd.ok.n2
  have e1 : decide ((lo : Int) < 0) = false := decide_eq_false (by omega)
  have e2 : decide ((D.safe.length : Int) < (hi : Int)) = false := decide_eq_false (by omega)
  have e3 : decide ((hi : Int) ≤ (lo : Int)) = false := decide_eq_false (by omega)
  rw [ho] at c3
  clear hd fr
  go_enter Try.func71, Try.ntmps71
  go_wp2
  go_ret3
  exact ⟨rfl, rfl⟩
set_option maxRecDepth 100000 in
set_option maxHeartbeats 3200000 in
theorem ropen_on (w : World) (p : Nat) (own : Nat → Prop) (D : DS) (lo hi : Nat) (hd : RefAt w p own D) (h2 : hi ≤ D.safe.length) (h3 : lo < hi) (ho : D.off = false) :
    Calls Try.prog 71 #[.pointer (some ⟨p, 0, none⟩), I lo, I hi] w (ROpened w p D.safe.length lo hi (TS.opened (TS.stretch D lo (hi - lo)) ((hi - lo) * 256 + 1) 0 0 [])) := by
  obtain ⟨as0, cs, c0, c3, c4, fr⟩ := hd.cells
  have hn := hd.ok.n2
  have e1 : decide ((lo : Int) < 0) = false := decide_eq_false (by omega)
  have e2 : decide ((D.safe.length : Int) < (hi : Int)) = false := decide_eq_false (by omega)
  have e3 : decide ((hi : Int) ≤ (lo : Int)) = false := decide_eq_false (by omega)
  rw [ho] at c3
  obtain ⟨S, hS⟩ : ∃ S, S = TS.stretch D lo (hi - lo) := ⟨_, rfl⟩
  have hSl : S.length = (hi - lo) * 256 := by rw [hS]; exact TS.stretch_len hd.ok (by omega)
  rw [← hS]
  obtain ⟨X, hX⟩ : ∃ X, X = TS.opened S ((hi - lo) * 256 + 1) 0 0 [] := ⟨_, rfl⟩
  rw [← hX]
  obtain ⟨T0, hT0⟩ : ∃ T0 : TS, T0 = ⟨lo, hi, 0, 0, 0⟩ := ⟨_, rfl⟩
  have htape : RTapeIn (w.alloc (.cells #[.pointer (some ⟨p, 0, none⟩), I lo, I hi, I 0, I 0, I 0] 64)) w.heap.size p D.safe.length T0 := by
    rw [hT0]
    exact ⟨⟨h3, h2, Nat.zero_le _, Nat.le_refl _, by show (-9223372036854775808 : Int) ≤ 0 ∧ (0 : Int) ≤ 9223372036854775807; omega⟩, hn, heap_alloc_new _ _⟩
  have hb0 : Below w.heap.size w (w.alloc (.cells #[.pointer (some ⟨p, 0, none⟩), I lo, I hi, I 0, I 0, I 0] 64)) := (Below.refl _ _).alloc (Nat.le_refl _) _
  have hall := rall_any _ w.heap.size p own T0 D htape (hd.below hb0)
  have hst : TS.stretch D T0.lo (T0.hi - T0.lo) = S := by rw [hT0, hS]
  rw [hst] at hall
  have HT := hid (And.intro htape (And.intro hb0 (And.intro hT0 hX)))
  have HALL := hid hall
  have HSL := hid hSl
  have hsb : S.length ≤ 1048576 := by omega
  have hs0 : 0 < S.length := by omega
  clear hd fr hS hSl hX hT0 htape hb0 hall hst c4
  go_enter Try.func71, Try.ntmps71
  go_wp2_with (go_at_call 100; go_must (refine HALL.out.mono ?_); rintro e w1 ⟨v, rfl, ho1, hb1⟩; obtain ⟨g, cap, rfl, q1, q2, q3, q4⟩ := own_slice ho1 hs0; have HO1 := hid ho1; have HB1 := hid hb1; clear ho1 hb1)
  clear HALL e1 e2 e3 c0 c3
  have hstart : RO w w1 w.heap.size p D.safe.length lo hi g cap w1.heap.size S X (.slice none 0 0) T0 := by
    obtain ⟨t1, t2, t3, t4⟩ := HT.out
    have z : (w.alloc (.cells #[.pointer (some ⟨p, 0, none⟩), I lo, I hi, I 0, I 0, I 0] 64)).heap.size = w.heap.size + 1 := by simp
    have hz1 := HB1.out.size
    refine ⟨by rw [t3], by rw [t3], by rw [t3], t1.below HB1.out, own_sees' HO1.out rfl, ⟨by omega, q4, Nat.le_refl _⟩, by omega, ⟨_, [], [], fun _ => False, RecsIn.nil _ _, by rw [t4, t3], by rw [t3]; show S.length + 1 ≤ (hi - lo) * 256 + 1 + 0; have := HSL.out; omega, by rw [t3]; rfl⟩, t2.trans (HB1.out.mono (by omega)), Nat.le_refl _⟩
  have HST := hid hstart
  have hcp : S.length ≤ cap ∧ cap ≤ 9223372036854775807 := ⟨q1, by unfold maxLen at q2; omega⟩
  clear hstart HT HO1 HB1 q1 q2 q3 q4
  generalize hu : w.heap.size = u at HST ⊢
  have HU := hid hu
  clear hu
  generalize hbs : w1.heap.size = bs at HST
  clear hbs
  go_loopw [12] (fun o wr => ∃ T, Hid (RO w wr u p D.safe.length lo hi g cap bs S X o T)) (fun _ wr => S.length - posOf u wr)
  case atStart => exact ⟨T0, HST⟩
  case round =>
    clear HST
    obtain ⟨T, HR⟩ := hrel
    have hsz : T.size = S.length := by unfold TS.size; rw [HR.out.tl, HR.out.th, HSL.out]
    have hpos : T.pos ≤ S.length := by rw [← hsz]; exact HR.out.tape.ok.pos
    have hcnt : T.count ≤ S.length := Nat.le_trans HR.out.tape.ok.count hpos
    have HSZ := hid hsz
    have c3 := HR.out.tape.c3
    clear hsz
    by_cases hA : S.length < T.pos + 12
    · have f1 : decide ((T.pos : Int) + 12 ≤ (S.length : Int)) = false := decide_eq_false (by omega)
      have HF : Hid (TS.found S T.pos T.count = .no) := hid (by unfold TS.found; rw [if_pos hA])
      clear hA
      go_wp2
      go_ret3
      exact HR.out.fin hpos HF.out
    have f1 : decide ((T.pos : Int) + 12 ≤ (S.length : Int)) = true := decide_eq_true (by omega)
    obtain ⟨b0, hb0⟩ : ∃ b0, S[T.pos]? = some b0 := ⟨_, List.getElem?_eq_getElem (by omega)⟩
    have g0 := HR.out.cell hb0
    have hgd : S.getD T.pos 0 = b0 := by rw [List.getD_eq_getElem?_getD, hb0]; rfl
    have HGD := hid hgd
    have HB0 := hid hb0
    clear hgd hb0
    by_cases hB : b0 = 0
    · have f2 : ((b0.toNat : Int) == 0) = true := by rw [hB]; rfl
      have HF : Hid (TS.found S T.pos T.count = .no) := hid (by unfold TS.found; rw [if_neg hA, if_pos (by rw [HGD.out, hB])])
      clear hB
      have hlt : T.pos < S.length := by omega
      clear hA
      go_wp2
      go_ret3
      exact HR.out.fin hpos HF.out
    have f2 : ((b0.toNat : Int) == 0) = false := by
      rw [beq_eq_false_iff_ne]
      intro e
      apply hB
      have : b0.toNat = 0 := by omega
      exact UInt8.toNat_inj.1 this
    obtain ⟨b1, hb1⟩ : ∃ b1, S[T.pos + 1]? = some b1 := ⟨_, List.getElem?_eq_getElem (by omega)⟩
    obtain ⟨b2, hb2⟩ : ∃ b2, S[T.pos + 2]? = some b2 := ⟨_, List.getElem?_eq_getElem (by omega)⟩
    obtain ⟨b3, hb3⟩ : ∃ b3, S[T.pos + 3]? = some b3 := ⟨_, List.getElem?_eq_getElem (by omega)⟩
    have hn0 := TS.lenAt_three hb1 hb2 hb3
    obtain ⟨n0, hn0e⟩ : ∃ n0, n0 = TS.lenAt S T.pos := ⟨_, rfl⟩
    rw [← hn0e] at hn0
    have hn0b : n0 < 16777216 := by rw [hn0e]; exact TS.lenAt_lt _ _
    have HN0 := hid hn0e
    have l1 := b1.toNat_lt
    have l2 := b2.toNat_lt
    have l3 := b3.toNat_lt
    have k0 : ∀ w', Ext wr.drew w' → w'.cell? ⟨u, 3, none⟩ = some (I T.pos) := fun w' hh => (Ext.trans _ _ _ (Ext.drew wr) hh).cell c3
    have k1 : ∀ w', Ext wr.drew w' → w'.cell? ⟨g, T.pos + 1, none⟩ = some (B b1) := fun w' hh => (Ext.trans _ _ _ (Ext.drew wr) hh).cell (HR.out.cell hb1)
    have k2 : ∀ w', Ext wr.drew w' → w'.cell? ⟨g, T.pos + 2, none⟩ = some (B b2) := fun w' hh => (Ext.trans _ _ _ (Ext.drew wr) hh).cell (HR.out.cell hb2)
    have k3 : ∀ w', Ext wr.drew w' → w'.cell? ⟨g, T.pos + 3, none⟩ = some (B b3) := fun w' hh => (Ext.trans _ _ _ (Ext.drew wr) hh).cell (HR.out.cell hb3)
    have HBN := hid hB
    have x1 : IntKind.i64.wrap ((T.pos : Int) + 1) = (T.pos : Int) + 1 := IntWalk.i64_in _ (by omega)
    have x2 : IntKind.i64.wrap ((T.pos : Int) + 2) = (T.pos : Int) + 2 := IntWalk.i64_in _ (by omega)
    have x3 : IntKind.i64.wrap ((T.pos : Int) + 3) = (T.pos : Int) + 3 := IntWalk.i64_in _ (by omega)
    have y1 : (0 : Int) ≤ (T.pos : Int) + 1 ∧ (T.pos : Int) + 1 < (S.length : Int) := by omega
    have y2 : (0 : Int) ≤ (T.pos : Int) + 2 ∧ (T.pos : Int) + 2 < (S.length : Int) := by omega
    have y3 : (0 : Int) ≤ (T.pos : Int) + 3 ∧ (T.pos : Int) + 3 < (S.length : Int) := by omega
    have t1 : ((T.pos : Int) + 1).toNat = T.pos + 1 := by omega
    have t2 : ((T.pos : Int) + 2).toNat = T.pos + 2 := by omega
    have t3 : ((T.pos : Int) + 3).toNat = T.pos + 3 := by omega
    have z1 : IntKind.i64.wrap (b1.toNat : Int) = (b1.toNat : Int) := IntWalk.i64_in _ (by omega)
    have z2 : IntKind.i64.wrap (b2.toNat : Int) = (b2.toNat : Int) := IntWalk.i64_in _ (by omega)
    have z3 : IntKind.i64.wrap (b3.toNat : Int) = (b3.toNat : Int) := IntWalk.i64_in _ (by omega)
    have z4 : IntKind.i64.wrap ((b1.toNat : Int) * 65536) = (b1.toNat : Int) * 65536 := IntWalk.i64_in _ (by omega)
    have z5 : IntKind.i64.wrap ((b2.toNat : Int) * 256) = (b2.toNat : Int) * 256 := IntWalk.i64_in _ (by omega)
    have z6 : IntKind.i64.wrap ((b1.toNat : Int) * 65536 + (b2.toNat : Int) * 256) = (b1.toNat : Int) * 65536 + (b2.toNat : Int) * 256 := IntWalk.i64_in _ (by omega)
    have z7 : IntKind.i64.wrap ((b1.toNat : Int) * 65536 + (b2.toNat : Int) * 256 + (b3.toNat : Int)) = (n0 : Int) := by rw [hn0]; exact IntWalk.i64_in _ (by omega)
    clear hb1 hb2 hb3 hn0e hB hn0
    go_wp2
    refine wp_region_order Ext [] [(0,0),(1,0),(2,0),(3,0),(4,0),(5,0),(6,0),(7,0),(8,0),(9,0),(10,0),(11,0),(12,0),(13,0),(14,0),(15,0),(16,0),(17,0),(18,0),(19,0),(20,0),(21,0),(22,0),(23,0),(24,0),(25,0),(26,0),(27,0),(28,0),(29,0),(30,0),(31,0)] _ (by kernel_rfl) rfl Ext.refl Ext.trans (by kernel_rfl) (by simp only [pick, List.getElem?_toArray, List.getElem?_cons_zero, List.getElem?_cons_succ]; rfl) (fun c a d v w h => by cases d <;> exact h) ?_
    refine wpK_q (v := ?_) (a' := ?_) (by rfl) (fun w' hR => ?_) ?_ ?_
    rotate_left 2
    · go_simp; with_reducible rfl
    · simp only [Act.put, List.setIfInBounds_toArray, List.set_cons_zero, List.set_cons_succ]; rfl
    refine wpK_q (v := ?_) (a' := ?_) (by rfl) (fun w' hR => ?_) ?_ ?_
    rotate_left 2
    · go_simp; with_reducible rfl
    · simp only [Act.put, List.setIfInBounds_toArray, List.set_cons_zero, List.set_cons_succ]; rfl
    refine wpK_q (v := ?_) (a' := ?_) (by rfl) (fun w' hR => ?_) ?_ ?_
    rotate_left 2
    · go_simp; with_reducible rfl
    · simp only [Act.put, List.setIfInBounds_toArray, List.set_cons_zero, List.set_cons_succ]; rfl
    refine wpK_q (v := ?_) (a' := ?_) (by rfl) (fun w' hR => ?_) ?_ ?_
    rotate_left 2
    · go_simp; with_reducible rfl
    · simp only [Act.put, List.setIfInBounds_toArray, List.set_cons_zero, List.set_cons_succ]; rfl
    refine wpK_q (v := ?_) (a' := ?_) (by rfl) (fun w' hR => ?_) ?_ ?_
    rotate_left 2
    · go_simp; with_reducible rfl
    · simp only [Act.put, List.setIfInBounds_toArray, List.set_cons_zero, List.set_cons_succ]; rfl
    refine wpK_q (v := ?_) (a' := ?_) (by rfl) (fun w' hR => ?_) ?_ ?_
    rotate_left 2
    · go_simp; with_reducible rfl
    · simp only [Act.put, List.setIfInBounds_toArray, List.set_cons_zero, List.set_cons_succ]; rfl
    refine wpK_q (v := ?_) (a' := ?_) (by rfl) (fun w' hR => ?_) ?_ ?_
    rotate_left 2
    · go_simp; with_reducible rfl
    · simp only [Act.put, List.setIfInBounds_toArray, List.set_cons_zero, List.set_cons_succ]; rfl
    refine wpK_q (v := ?_) (a' := ?_) (by rfl) (fun w' hR => ?_) ?_ ?_
    rotate_left 2
    · go_simp; with_reducible rfl
    · simp only [Act.put, List.setIfInBounds_toArray, List.set_cons_zero, List.set_cons_succ]; rfl
    refine wpK_q (v := ?_) (a' := ?_) (by rfl) (fun w' hR => ?_) ?_ ?_
    rotate_left 2
    · go_simp; with_reducible rfl
    · simp only [Act.put, List.setIfInBounds_toArray, List.set_cons_zero, List.set_cons_succ]; rfl
    refine wpK_q (v := ?_) (a' := ?_) (by rfl) (fun w' hR => ?_) ?_ ?_
    rotate_left 2
    · go_simp; with_reducible rfl
    · simp only [Act.put, List.setIfInBounds_toArray, List.set_cons_zero, List.set_cons_succ]; rfl
    refine wpK_q (v := ?_) (a' := ?_) (by rfl) (fun w' hR => ?_) ?_ ?_
    rotate_left 2
    · go_simp; with_reducible rfl
    · simp only [Act.put, List.setIfInBounds_toArray, List.set_cons_zero, List.set_cons_succ]; rfl
    refine wpK_q (v := ?_) (a' := ?_) (by rfl) (fun w' hR => ?_) ?_ ?_
    rotate_left 2
    · go_simp; with_reducible rfl
    · simp only [Act.put, List.setIfInBounds_toArray, List.set_cons_zero, List.set_cons_succ]; rfl
    refine wpK_q (v := ?_) (a' := ?_) (by rfl) (fun w' hR => ?_) ?_ ?_
    rotate_left 2
    · go_simp; with_reducible rfl
    · simp only [Act.put, List.setIfInBounds_toArray, List.set_cons_zero, List.set_cons_succ]; rfl
    refine wpK_q (v := ?_) (a' := ?_) (by rfl) (fun w' hR => ?_) ?_ ?_
    rotate_left 2
    · go_simp; with_reducible rfl
    · simp only [Act.put, List.setIfInBounds_toArray, List.set_cons_zero, List.set_cons_succ]; rfl
    refine wpK_q (v := ?_) (a' := ?_) (by rfl) (fun w' hR => ?_) ?_ ?_
    rotate_left 2
    · go_simp; with_reducible rfl
    · simp only [Act.put, List.setIfInBounds_toArray, List.set_cons_zero, List.set_cons_succ]; rfl
    refine wpK_q (v := ?_) (a' := ?_) (by rfl) (fun w' hR => ?_) ?_ ?_
    rotate_left 2
    · go_simp; with_reducible rfl
    · simp only [Act.put, List.setIfInBounds_toArray, List.set_cons_zero, List.set_cons_succ]; rfl
    refine wpK_q (v := ?_) (a' := ?_) (by rfl) (fun w' hR => ?_) ?_ ?_
    rotate_left 2
    · go_simp; with_reducible rfl
    · simp only [Act.put, List.setIfInBounds_toArray, List.set_cons_zero, List.set_cons_succ]; rfl
    refine wpK_q (v := ?_) (a' := ?_) (by rfl) (fun w' hR => ?_) ?_ ?_
    rotate_left 2
    · go_simp; with_reducible rfl
    · simp only [Act.put, List.setIfInBounds_toArray, List.set_cons_zero, List.set_cons_succ]; rfl
    refine wpK_q (v := ?_) (a' := ?_) (by rfl) (fun w' hR => ?_) ?_ ?_
    rotate_left 2
    · go_simp; with_reducible rfl
    · simp only [Act.put, List.setIfInBounds_toArray, List.set_cons_zero, List.set_cons_succ]; rfl
    refine wpK_q (v := ?_) (a' := ?_) (by rfl) (fun w' hR => ?_) ?_ ?_
    rotate_left 2
    · go_simp; with_reducible rfl
    · simp only [Act.put, List.setIfInBounds_toArray, List.set_cons_zero, List.set_cons_succ]; rfl
    refine wpK_q (v := ?_) (a' := ?_) (by rfl) (fun w' hR => ?_) ?_ ?_
    rotate_left 2
    · go_simp; with_reducible rfl
    · simp only [Act.put, List.setIfInBounds_toArray, List.set_cons_zero, List.set_cons_succ]; rfl
    refine wpK_q (v := ?_) (a' := ?_) (by rfl) (fun w' hR => ?_) ?_ ?_
    rotate_left 2
    · go_simp; with_reducible rfl
    · simp only [Act.put, List.setIfInBounds_toArray, List.set_cons_zero, List.set_cons_succ]; rfl
    refine wpK_q (v := ?_) (a' := ?_) (by rfl) (fun w' hR => ?_) ?_ ?_
    rotate_left 2
    · go_simp; with_reducible rfl
    · simp only [Act.put, List.setIfInBounds_toArray, List.set_cons_zero, List.set_cons_succ]; rfl
    refine wpK_q (v := ?_) (a' := ?_) (by rfl) (fun w' hR => ?_) ?_ ?_
    rotate_left 2
    · go_simp; with_reducible rfl
    · simp only [Act.put, List.setIfInBounds_toArray, List.set_cons_zero, List.set_cons_succ]; rfl
    refine wpK_q (v := ?_) (a' := ?_) (by rfl) (fun w' hR => ?_) ?_ ?_
    rotate_left 2
    · go_simp; with_reducible rfl
    · simp only [Act.put, List.setIfInBounds_toArray, List.set_cons_zero, List.set_cons_succ]; rfl
    refine wpK_q (v := ?_) (a' := ?_) (by rfl) (fun w' hR => ?_) ?_ ?_
    rotate_left 2
    · go_simp; with_reducible rfl
    · simp only [Act.put, List.setIfInBounds_toArray, List.set_cons_zero, List.set_cons_succ]; rfl
    refine wpK_q (v := ?_) (a' := ?_) (by rfl) (fun w' hR => ?_) ?_ ?_
    rotate_left 2
    · go_simp; with_reducible rfl
    · simp only [Act.put, List.setIfInBounds_toArray, List.set_cons_zero, List.set_cons_succ]; rfl
    refine wpK_q (v := ?_) (a' := ?_) (by rfl) (fun w' hR => ?_) ?_ ?_
    rotate_left 2
    · go_simp; with_reducible rfl
    · simp only [Act.put, List.setIfInBounds_toArray, List.set_cons_zero, List.set_cons_succ]; rfl
    refine wpK_q (v := ?_) (a' := ?_) (by rfl) (fun w' hR => ?_) ?_ ?_
    rotate_left 2
    · go_simp; with_reducible rfl
    · simp only [Act.put, List.setIfInBounds_toArray, List.set_cons_zero, List.set_cons_succ]; rfl
    refine wpK_q (v := ?_) (a' := ?_) (by rfl) (fun w' hR => ?_) ?_ ?_
    rotate_left 2
    · go_simp; with_reducible rfl
    · simp only [Act.put, List.setIfInBounds_toArray, List.set_cons_zero, List.set_cons_succ]; rfl
    refine wpK_q (v := ?_) (a' := ?_) (by rfl) (fun w' hR => ?_) ?_ ?_
    rotate_left 2
    · go_simp; with_reducible rfl
    · simp only [Act.put, List.setIfInBounds_toArray, List.set_cons_zero, List.set_cons_succ]; rfl
    refine wpK_q (v := ?_) (a' := ?_) (by rfl) (fun w' hR => ?_) ?_ ?_
    rotate_left 2
    · go_simp; with_reducible rfl
    · simp only [Act.put, List.setIfInBounds_toArray, List.set_cons_zero, List.set_cons_succ]; rfl
    refine wpK_done ?_
    clear k0 k1 k2 k3 l1 l2 l3 f1 f2 x1 x2 x3 y1 y2 y3 t1 t2 t3 z1 z2 z3 z4 z5 z6 z7
    have HRd := hid (HR.out.on (Ext.drew wr))
    have g0' : wr.drew.cell? ⟨g, T.pos, none⟩ = some (B b0) := g0
    have c3' : wr.drew.cell? ⟨u, 3, none⟩ = some (I T.pos) := c3
    have HP0 := hid HR.out.pos
    have HBW0 : Hid (bs ≤ wr.drew.heap.size) := hid HR.out.lt.2.2
    have HWD : Hid (Below wr.heap.size wr wr.drew ∧ wr.drew.heap.size = wr.heap.size) := hid ⟨Ext.drew wr, rfl⟩
    clear g0 c3
    generalize wr.drew = wd at *
    by_cases hbad : ¬ (b0 = 1 ∧ n0 ≤ 65536 ∧ T.pos + 12 + n0 ≤ S.length)
    · have HF : Hid (TS.found S T.pos T.count = .bad 11) := hid (by
        unfold TS.found
        rw [if_neg hA, if_neg (by rw [HGD.out]; exact HBN.out), HGD.out, ← HN0.out, if_neg hbad])
      have hw1 : IntKind.i64.wrap ((T.pos : Int) + 12 + (n0 : Int)) = (T.pos : Int) + 12 + (n0 : Int) := IntWalk.i64_in _ (by omega)
      have e1 : ((b0.toNat : Int) == 1) = false ∨ (((b0.toNat : Int) == 1) = true ∧ decide ((65536 : Int) < (n0 : Int)) = true) ∨ (((b0.toNat : Int) == 1) = true ∧ decide ((65536 : Int) < (n0 : Int)) = false ∧ decide ((S.length : Int) < (T.pos : Int) + 12 + (n0 : Int)) = true) := by
        by_cases h1 : b0 = 1
        · have e : ((b0.toNat : Int) == 1) = true := by rw [h1]; rfl
          by_cases h2 : n0 ≤ 65536
          · have h3 : ¬ (T.pos + 12 + n0 ≤ S.length) := fun h => hbad ⟨h1, h2, h⟩
            exact .inr (.inr ⟨e, decide_eq_false (by omega), decide_eq_true (by omega)⟩)
          · exact .inr (.inl ⟨e, decide_eq_true (by omega)⟩)
        · refine .inl ?_
          rw [beq_eq_false_iff_ne]
          intro e
          apply h1
          have : b0.toNat = 1 := by omega
          exact UInt8.toNat_inj.1 this
      clear hbad
      simp only [beq_eq_false_iff_ne, ne_eq, beq_iff_eq, decide_eq_true_eq, decide_eq_false_iff_not] at e1
      rcases e1 with e1 | ⟨e1, e2⟩ | ⟨e1, e2, e3⟩
      all_goals
        go_wp2
        go_ret3
        exact HRd.out.gave hpos HF.out HRd.out.below
    obtain ⟨hb1, hn1, hn2⟩ := Classical.not_not.1 hbad
    clear hbad
    have e1 : (b0.toNat : Int) = 1 := by rw [hb1]; rfl
    have HB1 := hid hb1
    clear hb1
    have e2 : ¬ ((65536 : Int) < (n0 : Int)) := by omega
    have e3 : ¬ ((S.length : Int) < (T.pos : Int) + 12 + (n0 : Int)) := by omega
    have w12 : IntKind.i64.wrap ((T.pos : Int) + 12) = (T.pos : Int) + 12 := IntWalk.i64_in _ (by omega)
    have w12n : IntKind.i64.wrap ((T.pos : Int) + 12 + (n0 : Int)) = (T.pos : Int) + 12 + (n0 : Int) := IntWalk.i64_in _ (by omega)
    go_upto_region 13 with (fail)
    obtain ⟨r, hr⟩ : ∃ r, r = (S.drop (T.pos + 12)).take n0 := ⟨_, rfl⟩
    have hrl : r.length = n0 := by rw [hr, List.length_take, List.length_drop]; omega
    obtain ⟨a1, q1, hs1⟩ : ∃ a1 q1, sl (some ⟨g, 0, none⟩) cap (T.pos + 12) (T.pos + 12 + n0) = .slice a1 n0 q1 := ⟨_, _, by unfold sl; rw [show T.pos + 12 + n0 - (T.pos + 12) = n0 by omega]⟩
    have hS1 := HRd.out.row.sl (lo := T.pos + 12) (hi := T.pos + 12 + n0) (by omega) (by omega)
    rw [hs1, List.drop_take, show T.pos + 12 + n0 - (T.pos + 12) = n0 by omega, ← hr] at hS1
    have e5 : ∀ w', (Instr.sliceAt 23 (.slice (some ⟨g, 0, none⟩) S.length cap) (some (.int .i64 ((T.pos : Int) + 12))) (some (.int .i64 ((T.pos : Int) + 12 + (n0 : Int)))) none).run Try.prog w' = .ok (.slice a1 n0 q1) w' := fun w' => by
      have := run_sl (some ⟨g, 0, none⟩) S.length cap (T.pos + 12) (T.pos + 12 + n0) (by omega) (by omega) w'
      rw [hs1, show ((T.pos + 12 : Nat) : Int) = (T.pos : Int) + 12 by omega, show ((T.pos + 12 + n0 : Nat) : Int) = (T.pos : Int) + 12 + (n0 : Int) by omega] at this
      exact this
    have k0 : ∀ w', Ext wd.drew w' → w'.cell? ⟨u, 3, none⟩ = some (I T.pos) := fun w' hh => (Ext.trans _ _ _ (Ext.drew wd) hh).cell c3'
    have HS1 := hid hS1
    have HRR := hid (And.intro hr hrl)
    clear hS1 hr hs1 hrl g0' c3'
    refine wp_region_order Ext [15] [(1,0),(2,0),(3,0),(4,0),(5,0),(6,0),(7,0),(8,0),(9,0),(10,0),(11,0),(12,0),(13,0),(14,0),(0,1),(15,2),(16,0)] _ (by kernel_rfl) rfl Ext.refl Ext.trans (by kernel_rfl) (by simp only [pick, List.getElem?_toArray, List.getElem?_cons_zero, List.getElem?_cons_succ]; rfl) (fun c a d v w h => by cases d <;> exact h) ?_
    refine wpK_q (v := ?_) (a' := ?_) (by rfl) (fun w' hR => ?_) ?_ ?_
    rotate_left 2
    · go_simp; with_reducible rfl
    · simp only [Act.put, List.setIfInBounds_toArray, List.set_cons_zero, List.set_cons_succ]; rfl
    refine wpK_q (v := ?_) (a' := ?_) (by rfl) (fun w' hR => ?_) ?_ ?_
    rotate_left 2
    · go_simp; with_reducible rfl
    · simp only [Act.put, List.setIfInBounds_toArray, List.set_cons_zero, List.set_cons_succ]; rfl
    refine wpK_q (v := ?_) (a' := ?_) (by rfl) (fun w' hR => ?_) ?_ ?_
    rotate_left 2
    · go_simp; with_reducible rfl
    · simp only [Act.put, List.setIfInBounds_toArray, List.set_cons_zero, List.set_cons_succ]; rfl
    refine wpK_q (v := ?_) (a' := ?_) (by rfl) (fun w' hR => ?_) ?_ ?_
    rotate_left 2
    · go_simp; with_reducible rfl
    · simp only [Act.put, List.setIfInBounds_toArray, List.set_cons_zero, List.set_cons_succ]; rfl
    refine wpK_q (v := ?_) (a' := ?_) (by rfl) (fun w' hR => ?_) ?_ ?_
    rotate_left 2
    · go_simp; with_reducible rfl
    · simp only [Act.put, List.setIfInBounds_toArray, List.set_cons_zero, List.set_cons_succ]; rfl
    refine wpK_q (v := ?_) (a' := ?_) (by rfl) (fun w' hR => ?_) ?_ ?_
    rotate_left 2
    · go_simp; with_reducible rfl
    · simp only [Act.put, List.setIfInBounds_toArray, List.set_cons_zero, List.set_cons_succ]; rfl
    refine wpK_q (v := ?_) (a' := ?_) (by rfl) (fun w' hR => ?_) ?_ ?_
    rotate_left 2
    · go_simp; with_reducible rfl
    · simp only [Act.put, List.setIfInBounds_toArray, List.set_cons_zero, List.set_cons_succ]; rfl
    refine wpK_q (v := ?_) (a' := ?_) (by rfl) (fun w' hR => ?_) ?_ ?_
    rotate_left 2
    · go_simp; with_reducible rfl
    · simp only [Act.put, List.setIfInBounds_toArray, List.set_cons_zero, List.set_cons_succ]; rfl
    refine wpK_q (v := ?_) (a' := ?_) (by rfl) (fun w' hR => ?_) ?_ ?_
    rotate_left 2
    · go_simp; with_reducible rfl
    · simp only [Act.put, List.setIfInBounds_toArray, List.set_cons_zero, List.set_cons_succ]; rfl
    refine wpK_q (v := ?_) (a' := ?_) (by rfl) (fun w' hR => ?_) ?_ ?_
    rotate_left 2
    · go_simp; with_reducible rfl
    · simp only [Act.put, List.setIfInBounds_toArray, List.set_cons_zero, List.set_cons_succ]; rfl
    refine wpK_q (v := ?_) (a' := ?_) (by rfl) (fun w' hR => ?_) ?_ ?_
    rotate_left 2
    · go_simp; with_reducible rfl
    · simp only [Act.put, List.setIfInBounds_toArray, List.set_cons_zero, List.set_cons_succ]; rfl
    refine wpK_q (v := ?_) (a' := ?_) (by rfl) (fun w' hR => ?_) ?_ ?_
    rotate_left 2
    · go_simp; with_reducible rfl
    · simp only [Act.put, List.setIfInBounds_toArray, List.set_cons_zero, List.set_cons_succ]; rfl
    refine wpK_q (v := ?_) (a' := ?_) (by rfl) (fun w' hR => ?_) ?_ ?_
    rotate_left 2
    · go_simp; with_reducible rfl
    · simp only [Act.put, List.setIfInBounds_toArray, List.set_cons_zero, List.set_cons_succ]; rfl
    refine wpK_q (v := ?_) (a' := ?_) (by rfl) (fun w' hR => ?_) ?_ ?_
    rotate_left 2
    · go_simp; with_reducible rfl
    · simp only [Act.put, List.setIfInBounds_toArray, List.set_cons_zero, List.set_cons_succ]; rfl
    refine wpK_v (v := .slice (some ⟨wd.heap.size, 0, none⟩) 0 0) (w' := wd.drew.alloc (.cells #[] 5)) (by rfl) (by go_simp) (fun _ => (Below.refl _ _).alloc (Nat.le_refl _) _) (by simp only [Act.put, List.setIfInBounds_toArray, List.set_cons_zero, List.set_cons_succ]; rfl) ?_
    have hown0 : (wd.drew.alloc (.cells #[] 5)).ownsRow wd.heap.size 5 1 (.slice (some ⟨wd.heap.size, 0, none⟩) 0 0) 0 [] := World.ownsRow_made wd.drew #[] 0 (Nat.le_refl _) (Nat.zero_le _) rfl
    have hsrc : Src (wd.drew.alloc (.cells #[] 5)) 1 (.slice a1 n0 q1) n0 (r.map B) := by
      have := (HS1.out.below (Ext.trans _ _ _ (Ext.drew wd) ((Below.refl _ _).alloc (Nat.le_refl _) (.cells #[] 5)))).src
      rw [HRR.out.2] at this
      exact this
    obtain ⟨v5, w3, hr3, ho3, hg3, hb3⟩ := run_app (P := Try.prog) _ wd.heap.size 23 23 5 _ 1 1 Try.underlying23 info5 rfl (by decide) _ 0 [] hown0 (.slice a1 n0 q1) n0 (r.map B) hsrc (by unfold maxLen; omega) (by omega) (by simp)
    refine wpK_v (by rfl) (exec_append rfl _ (by simp only [List.map_toArray, List.map_cons, List.map_nil]; rfl) hr3) (fun h => by cases h) (by simp only [Act.put, List.setIfInBounds_toArray, List.set_cons_zero, List.set_cons_succ]; rfl) ?_
    refine wpK_q (v := ?_) (a' := ?_) (by rfl) (fun w' hR => ?_) ?_ ?_
    rotate_left 2
    · go_simp; with_reducible rfl
    · simp only [Act.put, List.setIfInBounds_toArray, List.set_cons_zero, List.set_cons_succ]; rfl
    refine wpK_done ?_
    have hb30 : Below wd.heap.size wd w3 := (Ext.trans _ _ _ (Ext.drew wd) ((Below.refl _ _).alloc (Nat.le_refl _) _)).below.grown hg3 (by simp) (fun k hk => by cases hk; exact Nat.le_refl _)
    have ho30 := own_len ho3 (show 0 + n0 = n0 by omega) (show [] ++ r.map B = r.map B from rfl)
    obtain ⟨a5, q5, rfl⟩ := own_form ho30
    have HO3 := hid ho30
    have HB3 := hid hb30
    have HBW := HBW0
    have HR3 := hid (HRd.out.on hb30)
    have e6 := run_sl (some ⟨g, 0, none⟩) S.length cap T.pos (T.pos + 12 + n0) (by omega) (by omega)
    obtain ⟨m0, hm0⟩ : ∃ m0, m0 = 12 + n0 := ⟨_, rfl⟩
    obtain ⟨a2, q2, hs2⟩ : ∃ a2 q2, sl (some ⟨g, 0, none⟩) cap T.pos (T.pos + 12 + n0) = .slice a2 m0 q2 := ⟨_, _, by unfold sl; rw [show T.pos + 12 + n0 - T.pos = m0 by omega]⟩
    rw [hs2, show ((T.pos + 12 + n0 : Nat) : Int) = (T.pos : Int) + 12 + (n0 : Int) by omega] at e6
    have hS2 := HR3.out.row.sl (lo := T.pos) (hi := T.pos + 12 + n0) (by omega) (by omega)
    rw [hs2, TS.full_rec (by rw [HB0.out, HB1.out]), ← HRR.out.1] at hS2
    obtain ⟨X2, hX2⟩ : ∃ X2, X2 = 1 :: (S.drop (T.pos + 1)).take 11 ++ r := ⟨_, rfl⟩
    rw [← hX2] at hS2
    obtain ⟨X1, hX1⟩ : ∃ X1, X1 = 1 :: TS.framed T.count r ++ r := ⟨_, rfl⟩
    have hfr : Calls Try.prog 95 #[.int .u8 1, I T.count, .slice a5 n0 q5] w3.drew (Fresh w3.drew X1) := by
      rw [hX1]
      exact rframe_of w3.drew 1 T.count (by omega) (.slice a5 n0 q5) r ((own_sees' HO3.out HRR.out.2).drew) (by rw [HRR.out.2]; exact hn1)
    have HXX := hid (And.intro hX1 hX2)
    have k3 : ∀ w', Ext w3.drew w' → w'.cell? ⟨u, 3, none⟩ = some (I T.pos) := fun w' hh => (Ext.trans _ _ _ (Ext.drew w3) hh).cell HR3.out.tape.c3
    have k4 : ∀ w', Ext w3.drew w' → w'.cell? ⟨u, 4, none⟩ = some (I T.count) := fun w' hh => (Ext.trans _ _ _ (Ext.drew w3) hh).cell HR3.out.tape.c4
    have k5 : ∀ w', Ext w3.drew w' → (convert 23 9 (.slice a2 m0 q2)).run Try.prog w' = .ok (.string (str X2)) w' := fun w' hh => run_str Try.underlying23 Try.underlying5 Try.underlying9 (hS2.below (Ext.trans _ _ _ (Ext.drew w3) hh))
    have HFR := hid hfr
    clear k0 e5 hb3 hg3 ho3 hr3 hown0 hsrc hb30 ho30 hs2 hS2 HS1 HRd hX1 hX2 hfr hm0 e1 e2 e3
    go_upto_region 14 with (fail)
    refine wp_region_order Ext [] [(0,0),(1,0),(2,0),(3,0),(4,0),(7,0),(8,0),(9,0),(10,0),(11,0),(12,0),(13,0),(14,0),(15,0),(16,0),(17,0),(18,0),(19,0),(20,0),(5,1),(6,0),(21,0)] _ (by kernel_rfl) rfl Ext.refl Ext.trans (by kernel_rfl) (by simp only [pick, List.getElem?_toArray, List.getElem?_cons_zero, List.getElem?_cons_succ]; rfl) (fun c a d v w h => by cases d <;> exact h) ?_
    refine wpK_q (v := ?_) (a' := ?_) (by rfl) (fun w' hR => ?_) ?_ ?_
    rotate_left 2
    · go_simp; with_reducible rfl
    · simp only [Act.put, List.setIfInBounds_toArray, List.set_cons_zero, List.set_cons_succ]; rfl
    refine wpK_q (v := ?_) (a' := ?_) (by rfl) (fun w' hR => ?_) ?_ ?_
    rotate_left 2
    · go_simp; with_reducible rfl
    · simp only [Act.put, List.setIfInBounds_toArray, List.set_cons_zero, List.set_cons_succ]; rfl
    refine wpK_q (v := ?_) (a' := ?_) (by rfl) (fun w' hR => ?_) ?_ ?_
    rotate_left 2
    · go_simp; with_reducible rfl
    · simp only [Act.put, List.setIfInBounds_toArray, List.set_cons_zero, List.set_cons_succ]; rfl
    refine wpK_q (v := ?_) (a' := ?_) (by rfl) (fun w' hR => ?_) ?_ ?_
    rotate_left 2
    · go_simp; with_reducible rfl
    · simp only [Act.put, List.setIfInBounds_toArray, List.set_cons_zero, List.set_cons_succ]; rfl
    refine wpK_q (v := ?_) (a' := ?_) (by rfl) (fun w' hR => ?_) ?_ ?_
    rotate_left 2
    · go_simp; with_reducible rfl
    · simp only [Act.put, List.setIfInBounds_toArray, List.set_cons_zero, List.set_cons_succ]; rfl
    refine wpK_q (v := ?_) (a' := ?_) (by rfl) (fun w' hR => ?_) ?_ ?_
    rotate_left 2
    · go_simp; with_reducible rfl
    · simp only [Act.put, List.setIfInBounds_toArray, List.set_cons_zero, List.set_cons_succ]; rfl
    refine wpK_q (v := ?_) (a' := ?_) (by rfl) (fun w' hR => ?_) ?_ ?_
    rotate_left 2
    · go_simp; with_reducible rfl
    · simp only [Act.put, List.setIfInBounds_toArray, List.set_cons_zero, List.set_cons_succ]; rfl
    refine wpK_q (v := ?_) (a' := ?_) (by rfl) (fun w' hR => ?_) ?_ ?_
    rotate_left 2
    · go_simp; with_reducible rfl
    · simp only [Act.put, List.setIfInBounds_toArray, List.set_cons_zero, List.set_cons_succ]; rfl
    refine wpK_q (v := ?_) (a' := ?_) (by rfl) (fun w' hR => ?_) ?_ ?_
    rotate_left 2
    · go_simp; with_reducible rfl
    · simp only [Act.put, List.setIfInBounds_toArray, List.set_cons_zero, List.set_cons_succ]; rfl
    refine wpK_q (v := ?_) (a' := ?_) (by rfl) (fun w' hR => ?_) ?_ ?_
    rotate_left 2
    · go_simp; with_reducible rfl
    · simp only [Act.put, List.setIfInBounds_toArray, List.set_cons_zero, List.set_cons_succ]; rfl
    refine wpK_q (v := ?_) (a' := ?_) (by rfl) (fun w' hR => ?_) ?_ ?_
    rotate_left 2
    · go_simp; with_reducible rfl
    · simp only [Act.put, List.setIfInBounds_toArray, List.set_cons_zero, List.set_cons_succ]; rfl
    refine wpK_q (v := ?_) (a' := ?_) (by rfl) (fun w' hR => ?_) ?_ ?_
    rotate_left 2
    · go_simp; with_reducible rfl
    · simp only [Act.put, List.setIfInBounds_toArray, List.set_cons_zero, List.set_cons_succ]; rfl
    refine wpK_q (v := ?_) (a' := ?_) (by rfl) (fun w' hR => ?_) ?_ ?_
    rotate_left 2
    · go_simp; with_reducible rfl
    · simp only [Act.put, List.setIfInBounds_toArray, List.set_cons_zero, List.set_cons_succ]; rfl
    refine wpK_q (v := ?_) (a' := ?_) (by rfl) (fun w' hR => ?_) ?_ ?_
    rotate_left 2
    · go_simp; with_reducible rfl
    · simp only [Act.put, List.setIfInBounds_toArray, List.set_cons_zero, List.set_cons_succ]; rfl
    refine wpK_q (v := ?_) (a' := ?_) (by rfl) (fun w' hR => ?_) ?_ ?_
    rotate_left 2
    · go_simp; with_reducible rfl
    · simp only [Act.put, List.setIfInBounds_toArray, List.set_cons_zero, List.set_cons_succ]; rfl
    refine wpK_q (v := ?_) (a' := ?_) (by rfl) (fun w' hR => ?_) ?_ ?_
    rotate_left 2
    · go_simp; with_reducible rfl
    · simp only [Act.put, List.setIfInBounds_toArray, List.set_cons_zero, List.set_cons_succ]; rfl
    refine wpK_q (v := ?_) (a' := ?_) (by rfl) (fun w' hR => ?_) ?_ ?_
    rotate_left 2
    · go_simp; with_reducible rfl
    · simp only [Act.put, List.setIfInBounds_toArray, List.set_cons_zero, List.set_cons_succ]; rfl
    refine wpK_q (v := ?_) (a' := ?_) (by rfl) (fun w' hR => ?_) ?_ ?_
    rotate_left 2
    · go_simp; with_reducible rfl
    · simp only [Act.put, List.setIfInBounds_toArray, List.set_cons_zero, List.set_cons_succ]; rfl
    refine wpK_q (v := ?_) (a' := ?_) (by rfl) (fun w' hR => ?_) ?_ ?_
    rotate_left 2
    · go_simp; with_reducible rfl
    · simp only [Act.put, List.setIfInBounds_toArray, List.set_cons_zero, List.set_cons_succ]; rfl
    refine wpK_call Try.func95 (by kernel_rfl) rfl rfl (by rfl) #[.int .u8 1, .int .i64 (T.count : Int), .slice a5 n0 q5] (by simp only [List.map_toArray, List.map_cons, List.map_nil]; rfl) ?_
    refine HFR.out.mono ?_
    rintro e w6 ⟨v6, rfl, ho6, hb6⟩
    refine ⟨_, rfl, fun _ => hb6, ?_⟩
    have k6 : ∀ w', Ext w6 w' → (convert 23 9 v6).run Try.prog w' = .ok (.string (str X1)) w' := fun w' hh => run_str Try.underlying23 Try.underlying5 Try.underlying9 ((own_sees ho6).below hh)
    refine wpK_q (v := ?_) (a' := ?_) (by rfl) (fun w' hR => ?_) ?_ ?_
    rotate_left 2
    · go_simp; with_reducible rfl
    · simp only [Act.put, List.setIfInBounds_toArray, List.set_cons_zero, List.set_cons_succ]; rfl
    refine wpK_q (v := ?_) (a' := ?_) (by rfl) (fun w' hR => ?_) ?_ ?_
    rotate_left 2
    · go_simp; with_reducible rfl
    · simp only [Act.put, List.setIfInBounds_toArray, List.set_cons_zero, List.set_cons_succ]; rfl
    refine wpK_done ?_
    have HB6 := hid (Ext.trans _ _ _ (Ext.drew w3) hb6)
    have hRow6 := own_below HO3.out HB6.out
    have HRow6 := hid hRow6
    have HR6 := hid (HR3.out.on HB6.out)
    clear k3 k4 k5 k6 e6 ho6 hb6 hRow6 HFR
    by_cases hEq : X1 = X2
    rotate_left
    · have hb : ¬ ((str X1).toList = (str X2).toList) := by rw [str_toList, str_toList]; exact hEq
      have hb2 : ((str X1).toList == (str X2).toList) = false := by rw [beq_eq_false_iff_ne]; exact hb
      have HF : Hid (TS.found S T.pos T.count = .bad 12) := hid (by
        unfold TS.found
        rw [if_neg hA, if_neg (by rw [HGD.out]; exact HBN.out), HGD.out, ← HN0.out, if_pos ⟨HB1.out, hn1, hn2⟩, ← HRR.out.1, if_neg (fun e => hEq (by rw [HXX.out.1, HXX.out.2, e]))])
      clear hEq hb
      rw [hb2]
      clear hb2
      go_wp2
      go_ret3
      exact HR6.out.gave hpos HF.out HR6.out.below
    have hb2 : ((str X1).toList == (str X2).toList) = true := by rw [str_toList, str_toList, hEq]; exact beq_self_eq_true X2
    rw [hb2]
    clear hb2
    have HF : Hid (TS.found S T.pos T.count = .yes r) := hid (by
      have e := hEq
      rw [HXX.out.1, HXX.out.2] at e
      have e2 := List.append_cancel_right e
      unfold TS.found
      rw [if_neg hA, if_neg (by rw [HGD.out]; exact HBN.out), HGD.out, ← HN0.out, if_pos ⟨HB1.out, hn1, hn2⟩, ← HRR.out.1, if_pos (by simpa using e2)])
    clear hEq
    obtain ⟨kf, acc, vs, pb, h1, h2', h3', h4'⟩ := HR.out.ex
    have hbel : Below wr.heap.size wr w6 := HWD.out.1.trans ((HB3.out.trans (HB6.out.mono HB3.out.size)).mono (by rw [HWD.out.2]; exact Nat.le_refl _))
    have hpb := h1.pb1
    have hvb := own_lt h1.row
    replace h1 := h1.keep (fun k _ hk => hbel.block k hk) hbel.size
    obtain ⟨a12, q12, rfl⟩ := own_form h1.row
    have hal : acc.length ≤ 1048576 := by omega
    have HEX := hid (And.intro h1 (And.intro h2' (And.intro h3' h4')))
    have hbs : bs ≤ w6.heap.size := HR6.out.lt.2.2
    have HXN : Hid (∀ q, (Value.slice a5 n0 q5).ownBlock = some q → ¬ pb q ∧ (Value.slice a12 acc.length q12).ownBlock ≠ some q) := hid (fun q hq => by
      have h9 := (own_lt HRow6.out q hq).1
      rw [HWD.out.2] at h9
      exact ⟨fun h => by have := (hpb q h).2; omega, fun h => by have := (hvb q h).2; omega⟩)
    clear h1 h2' h3' h4' hpb hvb hbel
    go_wp2_with (at_builtin; go_must (refine wpList_app rfl (.tmp 158) (.tmp 160) 45 rfl bs 23 (.slice none 0 0) 1 24 Try.underlying45 info23t rfl (by decide) acc.length vs 1 [.slice a5 n0 q5] (HEX.out.1.row.alloc _) (Src.new w6 1 23 [_] rfl (fun x hx => by obtain rfl := List.mem_singleton.1 hx; rfl)) ?h63 ?hb ?hbase ?_))
    case h63 => unfold maxLen; omega
    case hb => omega
    case hbase => simp; omega
    intro v' w8 hown hgrow hat
    have hxn : ∀ q, (Value.slice a5 n0 q5).ownBlock = some q → ¬ pb q ∧ (Value.slice a12 acc.length q12).ownBlock ≠ some q := HXN.out
    have ht8 : w8.heap[u]? = w6.heap[u]? := by
      have hl := HR6.out.lt
      refine (hgrow.block u (by simp; omega) (fun e => ?_)).trans (Below.heap_alloc w6 _ u (by omega))
      have := (own_lt HEX.out.1.row u e.symm).1
      omega
    have htp8 := HR6.out.tape.keep ht8
    have c3 := htp8.c3
    have c4 := htp8.c4
    have f3 := htp8.fr 3
    have f4 := htp8.fr 4
    have hw4 : IntKind.i64.wrap ((T.count : Int) + 1) = (T.count : Int) + 1 := IntWalk.i64_in _ (by omega)
    have hrow := own_anew HRow6.out (b' := bs) (fun q hq => Nat.le_trans HBW.out (own_lt HRow6.out q hq).1)
    have hrl := HRR.out.2
    have HNX := hid (HR6.out.push (y3 := (T.pos : Int) + 12 + (n0 : Int)) (y4 := (T.count : Int) + 1) HEX.out.1 HEX.out.2.1 HEX.out.2.2.1 HEX.out.2.2.2 HSZ.out HF.out (by rw [hrl]; exact hrow) hxn hown hgrow hat (by rw [hrl]; omega) (by omega))
    obtain ⟨a8, q8, rfl⟩ := own_form hown
    have hps := HNX.out.pos
    have HPS : Hid (posOf u ((w8.setCell ⟨u, 3, none⟩ (I ((T.pos : Int) + 12 + (n0 : Int)))).setCell ⟨u, 4, none⟩ (I ((T.count : Int) + 1))) = T.pos + 12 + n0) := hid (by rw [hps, hrl])
    clear hxn ht8 htp8 hrow hrl hown hgrow hat hps
    go_wp2
    go_roundw
    case rel => exact ⟨_, HNX⟩
    case measure =>
      have e1 := HPS.out
      have e2 := HP0.out
      show S.length - posOf u ((w8.setCell ⟨u, 3, none⟩ (I ((T.pos : Int) + 12 + (n0 : Int)))).setCell ⟨u, 4, none⟩ (I ((T.count : Int) + 1))) < S.length - posOf u wr
      rw [e1, e2]
      omega
theorem ropen_any (w : World) (p : Nat) (own : Nat → Prop) (D : DS) (lo hi : Int) (hd : RefAt w p own D) (hl : -9223372036854775808 ≤ lo ∧ lo ≤ 9223372036854775807) (hh : -9223372036854775808 ≤ hi ∧ hi ≤ 9223372036854775807) :
    Calls Try.prog 71 #[.pointer (some ⟨p, 0, none⟩), I lo, I hi] w (ROpened w p D.safe.length lo.toNat hi.toNat (TS.opn D lo hi)) := by
  unfold TS.opn
  by_cases hb : lo < 0 ∨ (D.safe.length : Int) < hi ∨ hi ≤ lo
  · rw [if_pos hb]
    exact (ropen_bad w p own D lo hi hd hl hh hb).mono fun e w' h => ⟨.inl ⟨by simp, h.1⟩, h.2 ▸ Below.refl _ _⟩
  · rw [if_neg hb]
    have e1 : ((lo.toNat : Nat) : Int) = lo := by omega
    have e2 : ((hi.toNat : Nat) : Int) = hi := by omega
    cases ho : D.off with
    | true =>
      rw [if_pos rfl]
      have := ropen_down w p own D lo.toNat hi.toNat hd (by omega) (by omega) ho
      rw [e1, e2] at this
      exact this.mono fun e w' h => ⟨.inl ⟨by simp, h.1⟩, h.2 ▸ Below.refl _ _⟩
    | false =>
      rw [if_neg (by simp)]
      have := ropen_on w p own D lo.toNat hi.toNat hd (by omega) (by omega) ho
      rw [e1, e2] at this
      exact this
end Go.Proofs.Ytoaeapnkefjpaaa

namespace Go.Proofs.Ytoaeapnkefjpaaa
open Go.RowKit
set_option linter.unusedVariables false
set_option linter.unusedSimpArgs false

theorem TS.doIt_len (D : DS) (T : TS) (r : List UInt8) : (TS.doIt D T r).2.1.safe.length = D.safe.length := by
  rw [TS.doIt_eq]
  have h1 := TS.layR_len D T T.pos (TS.body T r)
  generalize TS.layR D T T.pos (TS.body T r) = X1 at *
  obtain ⟨e1, D1⟩ := X1
  simp only at h1 ⊢
  have h2 := DS.Flush_len D1
  generalize D1.Flush = X2 at *
  obtain ⟨e2, D2⟩ := X2
  have h3 := DS.write_len D2 (T.lo + T.pos / 256 : Nat) (TS.marked D2 T)
  simp only at h2 ⊢
  generalize D2.write (T.lo + T.pos / 256 : Nat) (TS.marked D2 T) = X3 at *
  obtain ⟨e3, D3⟩ := X3
  have h4 := DS.Flush_len D3
  simp only at h3 ⊢
  generalize D3.Flush = X4 at *
  obtain ⟨e4, D4⟩ := X4
  simp only at h4 ⊢
  split
  · exact h1
  · split
    · exact h2.trans h1
    · split
      · exact h3.trans (h2.trans h1)
      · split
        · exact h4.trans (h3.trans (h2.trans h1))
        · exact h4.trans (h3.trans (h2.trans h1))
theorem TS.append_len (D : DS) (T : TS) (r : List UInt8) : (TS.append D T r).2.1.safe.length = D.safe.length := by
  unfold TS.append
  split
  · rfl
  · split
    · rfl
    · split
      · rfl
      · exact TS.doIt_len D T r
theorem TS.doIt_waits (D : DS) (T : TS) (r : List UInt8) (hr : r.length ≤ 65536) : (TS.doIt D T r).2.1.waits.length ≤ D.waits.length + 400 := by
  rw [TS.doIt_eq]
  have h1 := TS.layR_waits D T T.pos (TS.body T r) (by have := TS.body_len T r; omega)
  generalize TS.layR D T T.pos (TS.body T r) = X1 at *
  obtain ⟨e1, D1⟩ := X1
  simp only at h1 ⊢
  have h2 := DS.Flush_waits D1
  generalize D1.Flush = X2 at *
  obtain ⟨e2, D2⟩ := X2
  have h3 := DS.write_waits' D2 (T.lo + T.pos / 256 : Nat) (TS.marked D2 T)
  simp only at h2 ⊢
  generalize D2.write (T.lo + T.pos / 256 : Nat) (TS.marked D2 T) = X3 at *
  obtain ⟨e3, D3⟩ := X3
  have h4 := DS.Flush_waits D3
  simp only at h3 ⊢
  generalize D3.Flush = X4 at *
  obtain ⟨e4, D4⟩ := X4
  simp only at h4 ⊢
  split
  · simp only; omega
  · split
    · simp only; omega
    · split
      · simp only; omega
      · split <;> (simp only; omega)
theorem TS.append_waits (D : DS) (T : TS) (r : List UInt8) : (TS.append D T r).2.1.waits.length ≤ D.waits.length + 400 := by
  unfold TS.append
  split
  · simp
  · split
    · simp
    · split
      · simp
      · exact TS.doIt_waits D T r (by omega)
/-- A drum and a tape over it, newer than w0. -/
structure TSt (w0 : World) (own : Nat → Prop) (p t : Nat) (T : TS) (D : DS) (w : World) : Prop where
  drum : St w0 own p D w
  tape : TapeIn w t p D.safe.length T
  nt : ¬ own t
  tf : w0.heap.size ≤ t
theorem TSt.on {w0 w w' : World} {own : Nat → Prop} {p t : Nat} {T : TS} {D : DS} (h : TSt w0 own p t T D w) (hb : Below w.heap.size w w') : TSt w0 own p t T D w' := ⟨h.drum.on hb, h.tape.below hb, h.nt, h.tf⟩
theorem tst_open {w0 w : World} {own : Nat → Prop} {p : Nat} {D : DS} (h : St w0 own p D w) (lo hi : Int) (hl : -9223372036854775808 ≤ lo ∧ lo ≤ 9223372036854775807) (hh : -9223372036854775808 ≤ hi ∧ hi ≤ 9223372036854775807) :
    Calls Try.prog 65 #[.pointer (some ⟨p, 0, none⟩), I lo, I hi] w fun e w' =>
      ((TS.opn D lo hi).1 ≠ 0 ∧ e = .returned (.tuple #[.pointer none, .slice none 0 0, I (TS.opn D lo hi).1]) ∧ Below w.heap.size w w') ∨
      ((TS.opn D lo hi).1 = 0 ∧ ∃ t v, e = .returned (.tuple #[.pointer (some ⟨t, 0, none⟩), v, I 0]) ∧ TSt w0 own p t ⟨lo.toNat, hi.toNat, (TS.opn D lo hi).2.2.1, (TS.opn D lo hi).2.2.2, 0⟩ D w' ∧ w.heap.size ≤ t ∧ Recs w' (t + 1) v (TS.opn D lo hi).2.1 ∧ Below w.heap.size w w') := by
  refine (open_any w p own D lo hi h.at' hl hh).mono fun e w' hx => ?_
  rcases hx with ⟨h1, h2, h3⟩ | ⟨h1, t, v, h2, h3, h4, h5, h6⟩
  · exact .inl ⟨h1, h2, h3⟩
  · exact .inr ⟨h1, t, v, h2, ⟨h.on h6, h4, fun e => by have := h.at'.lt t e; omega, Nat.le_trans h.below.size h3⟩, h3, h5, h6⟩
theorem tst_append {w0 w : World} {own : Nat → Prop} {p t : Nat} {T : TS} {D : DS} (h : TSt w0 own p t T D w) {v : Value} {r : List UInt8} (hv : Sees w v r) (hN : D.waits.length ≤ 800000000) :
    Calls Try.prog 66 #[.pointer (some ⟨t, 0, none⟩), v] w fun e w' => e = .returned (I (TS.append D T r).1) ∧ ∃ own', TSt w0 own' p t (TS.append D T r).2.2 (TS.append D T r).2.1 w' ∧ (∀ k, own' k → own k ∨ w.heap.size ≤ k) ∧ Mod (fun k => own k ∨ k = t) w w' := by
  refine (tappend_any w t p own T D v r h.tape h.drum.at' h.nt hv hN).mono fun e w' hx => ?_
  obtain ⟨h1, h2, own', h3, h4, h5⟩ := hx
  have htl := h.tape.lt
  refine ⟨h1, own', ⟨⟨h3, fun k hk => ?_, h.drum.below.trans (h5.below h.drum.below.size (fun i hi ho => ?_))⟩, by rw [TS.append_len]; exact h2, fun e => ?_, h.tf⟩, h4, h5⟩
  · rcases h4 k hk with h' | h'
    · exact h.drum.fresh k h'
    · exact Nat.le_trans h.drum.below.size h'
  · rcases ho with ho | ho
    · have := h.drum.fresh i ho; omega
    · have := h.tf; omega
  · rcases h4 t e with h' | h'
    · exact h.nt h'
    · omega
namespace Wk4
def D0 : DS := DS.new 3
def T0 : TS := ⟨1, 3, 0, 0, 0⟩
def hi2 : List UInt8 := [104, 105]
def X1 : Int × DS × TS := TS.append D0 T0 hi2
def D1 : DS := X1.2.1
def T1 : TS := X1.2.2
def P1 : List UInt8 := (D1.read 1).2
set_option maxRecDepth 100000
theorem opn0 : TS.opn D0 1 3 = (0, [], 0, 0) := by kernel_rfl
theorem x1 : X1.1 = 0 := by kernel_rfl
theorem ops1 : D1.ops = 4 := by kernel_rfl
theorem rd1 : (D1.read 1).1 = 0 := by kernel_rfl
theorem len1 : P1.length = 256 := by kernel_rfl
theorem frame1 : P1.take 14 = 1 :: TS.framed 0 hi2 ++ hi2 := by kernel_rfl
end Wk4
end Go.Proofs.Ytoaeapnkefjpaaa
