/-
  A REGION THAT DRAWS ITS ORDER, walked once in one order: an operation that only reads is taken as soon as it may come up, if it yields the same in every world that the region may still come to (relation R).
  Over any program. Conditions: none beyond what each lemma names.
-/
import Derived.OrdersHeld
import Derived.Deep.RegionHeld3
import Derived.Test.YtnljmllkfmgclaaMem2
namespace Go.Proofs.Ytnljmllkfmgclaa
open Go.RowKit
set_option linter.unusedVariables false
set_option linter.unusedSimpArgs false

section
variable {P : Program} {ops : Array Oper} {Q : Exit → Act → World → Prop} {md : Region.Mode} {R : World → World → Prop} {ds : List Nat}

/-- Operation d waits for operation i, by a chain of at most 'fuel' edges. -/
def waitsB (md : Region.Mode) (ops : Array Oper) (i : Nat) : Nat → Nat → Bool
  | 0, _ => false
  | fuel + 1, d => match ops[d]? with
    | some o => o.after.any fun e => Region.binds md e && (e.on == i || waitsB md ops i fuel e.on)
    | none => false
/-- What is listed is closed under the edges. -/
def shutB (md : Region.Mode) (ops : Array Oper) (listed : Array Bool) : Bool :=
  (List.range ops.size).all fun j => !listed.getD j false || match ops[j]? with
    | some o => o.after.all fun e => !Region.binds md e || listed.getD e.on false
    | none => true
def ShutUp (md : Region.Mode) (ops : Array Oper) (listed : Array Bool) : Prop :=
  ∀ j oj, ops[j]? = some oj → listed.getD j false = true → ∀ e ∈ oj.after, Region.binds md e = true → listed.getD e.on false = true
theorem shutB_spec {listed : Array Bool} (h : shutB md ops listed = true) : ShutUp md ops listed := by
  intro j oj hj hl e he hb
  have hlt : j < ops.size := (Array.getElem?_eq_some_iff.1 hj).1
  have h1 := List.all_eq_true.1 h j (List.mem_range.2 hlt)
  simp only [hl, hj, Bool.not_true, Bool.false_or] at h1
  have h2 := Array.all_eq_true_iff_forall_mem.1 h1 e he
  simpa [hb] using h2
theorem ShutUp.set {listed : Array Bool} {i : Nat} (h : ShutUp md ops listed) (hi : i ∈ Region.ready md ops listed) : ShutUp md ops (listed.setIfInBounds i true) := by
  obtain ⟨_, oi, hoi, hall⟩ := mem_ready.1 hi
  intro j oj hj hl e he hb
  by_cases hij : i = j
  · subst hij
    have : oj = oi := Option.some.inj (hj.symm.trans hoi)
    subst this
    exact getD_set_true (hall e he hb)
  · rw [getD_set_ne false hij] at hl
    exact getD_set_true (h j oj hj hl e he hb)
theorem waits_listed {listed : Array Bool} {i : Nat} (hc : ShutUp md ops listed) : ∀ (fuel d : Nat), waitsB md ops i fuel d = true → listed.getD d false = true → listed.getD i false = true
  | 0, _, h, _ => by simp [waitsB] at h
  | fuel + 1, d, h, hl => by
    unfold waitsB at h
    cases ho : ops[d]? with
    | none => rw [ho] at h; simp at h
    | some o =>
      rw [ho] at h
      obtain ⟨e, he, h1⟩ := Array.any_eq_true'.1 h
      simp only [Bool.and_eq_true, Bool.or_eq_true, beq_iff_eq] at h1
      have hle := hc d o ho hl e he h1.1
      rcases h1.2 with h2 | h2
      · rw [← h2]; exact hle
      · exact waits_listed hc fuel e.on h2 hle
theorem waits_not_ready {listed : Array Bool} {i d fuel : Nat} (hc : ShutUp md ops listed) (hr : waitsB md ops i fuel d = true) (hun : listed.getD i true = false) : d ∉ Region.ready md ops listed := by
  intro hd
  obtain ⟨_, o, ho, hall⟩ := mem_ready.1 hd
  have hi : listed.getD i false = true := by
    cases fuel with
    | zero => simp [waitsB] at hr
    | succ n =>
      unfold waitsB at hr
      rw [ho] at hr
      obtain ⟨e, he, h1⟩ := Array.any_eq_true'.1 hr
      simp only [Bool.and_eq_true, Bool.or_eq_true, beq_iff_eq] at h1
      have hle := hall e he h1.1
      rcases h1.2 with h2 | h2
      · rw [← h2]; exact hle
      · exact waits_listed hc n e.on h2 hle
  rcases Nat.lt_or_ge i listed.size with h' | h'
  · simp [h'] at hun hi
    rw [hun] at hi
    cases hi
  · simp [Array.getElem?_eq_none h'] at hun

/-- Whatever order is picked from here on, and R holds over every operation that is carried out, those of ds apart. -/
def wpC (P : Program) (md : Region.Mode) (ops : Array Oper) (Q : Exit → Act → World → Prop) (R : World → World → Prop) (ds : List Nat) : Nat → Array Bool → Act → World → Prop
  | 0, listed, a, w => Region.ready md ops listed = [] ∧ Q .normal a w
  | fuel + 1, listed, a, w =>
    (Region.ready md ops listed = [] → Q .normal a w) ∧
    ∀ i ∈ Region.ready md ops listed, wpOp P ops Q i (fun a' w' => (i ∉ ds → R w w') ∧ wpC P md ops Q R ds fuel (listed.setIfInBounds i true) a' w') a w
theorem wpAny_of_wpC : ∀ (fuel : Nat) (listed : Array Bool) (a : Act) (w : World), wpC P md ops Q R ds fuel listed a w → wpAny P md ops Q fuel listed a w
  | 0, _, _, _, h => h
  | fuel + 1, _, _, _, h => ⟨h.1, fun i hi => wpOp_mono (fun a' w' h' => wpAny_of_wpC fuel _ a' w' h'.2) (h.2 i hi)⟩
theorem yields_mono {S S' : World → Prop} {o : Oper} {v : Value} {a : Act} (h : YieldsIf P ops S o v a) (hs : ∀ w, S' w → S w) : YieldsIf P ops S' o v a :=
  h.imp (fun ⟨hw, hv⟩ => ⟨hw, fun w hw' => hv w (hs w hw')⟩) id

theorem wpC_first (hrefl : ∀ w, R w w) (htr : ∀ w w' w'', R w w' → R w' w'' → R w w'') {i : Nat} {oi : Oper} {v : Value} (hi : ops[i]? = some oi) (hsel : ∀ (j : Nat) (o : Oper) cs b, ops[j]? = some o → o.op ≠ .select cs b)
    (hQ : ∀ c a w, Q (.panic c) (a.put oi.dst v) w → Q (.panic c) a w) (n : Nat) :
    ∀ (fuel : Nat) (listed : Array Bool) (a : Act) (w : World),
      (∀ j oj, ops[j]? = some oj → j ≠ i → listed.getD j true = false → (∀ e ∈ oj.after, Region.binds md e = true → e.on ≠ i) → oi.apart ops oj = true) →
      ShutUp md ops listed → (∀ d ∈ ds, listed.getD d true = false → waitsB md ops i n d = true) →
      i ∈ Region.ready md ops listed → YieldsIf P ops (R w) oi v a →
      wpC P md ops Q R ds fuel (listed.setIfInBounds i true) (a.put oi.dst v) w → wpC P md ops Q R ds (fuel + 1) listed a w := by
  intro fuel
  induction fuel with
  | zero =>
    intro listed a w _ _ _ hr hy H
    refine ⟨fun h => (by rw [h] at hr; cases hr), fun j hj => ?_⟩
    by_cases hji : j = i
    · subst hji; exact hy.wpOp hi (hrefl w) ⟨fun _ => hrefl w, H⟩
    · have := ready_mono hj hji
      rw [H.1] at this
      cases this
  | succ fuel ih =>
    intro listed a w hfree hc hd hr hy H
    refine ⟨fun h => (by rw [h] at hr; cases hr), fun j hj => ?_⟩
    by_cases hji : j = i
    · subst hji; exact hy.wpOp hi (hrefl w) ⟨fun _ => hrefl w, H⟩
    · have h1 := H.2 j (ready_mono hj hji)
      obtain ⟨hjun, oj, hoj, hall⟩ := mem_ready.1 hj
      have hiun := (mem_ready.1 hr).1
      have hnot : ∀ e ∈ oj.after, Region.binds md e = true → e.on ≠ i := fun e he hb heq => by
        have h1 := hall e he hb
        rw [heq] at h1
        rcases Nat.lt_or_ge i listed.size with h' | h'
        · simp [h'] at hiun h1; rw [hiun] at h1; cases h1
        · simp [Array.getElem?_eq_none h'] at h1
      have hjd : j ∉ ds := fun hm => waits_not_ready hc (hd j hm hjun) hiun hj
      have h2 := wpOp_putIf hoj (hfree j oj hoj hji hjun hnot) (fun cs b => hsel i oi cs b hi) (fun cs b => hsel j oj cs b hoj) hQ hy h1
      have hfree' : ∀ k ok, ops[k]? = some ok → k ≠ i → (listed.setIfInBounds j true).getD k true = false →
          (∀ e ∈ ok.after, Region.binds md e = true → e.on ≠ i) → oi.apart ops ok = true := fun k ok hk hki hun hno => by
        refine hfree k ok hk hki ?_ hno
        by_cases hjk : j = k
        · subst hjk; exact hjun
        · rw [getD_set_ne true hjk] at hun; exact hun
      have hd' : ∀ d ∈ ds, (listed.setIfInBounds j true).getD d true = false → waitsB md ops i n d = true := fun d hm hun => by
        refine hd d hm ?_
        by_cases hjk : j = d
        · subst hjk; exact hjun
        · rw [getD_set_ne true hjk] at hun; exact hun
      refine wpOp_mono (fun a' w' h3 => ⟨h3.2.1, ih (listed.setIfInBounds j true) a' w' hfree' (hc.set hj) hd' (ready_mono hr (Ne.symm hji)) (yields_mono h3.1 (fun w'' hw'' => htr _ _ _ (h3.2.1 hjd) hw'')) ?_⟩) h2
      rw [Array.setIfInBounds_comm _ _ hji]
      exact h3.2.2

/-- The order walked: operations with their marks: 0: it only reads; 1: it is carried out alone, R holds over it; 2: likewise, without R. -/
def wpK (P : Program) (ops : Array Oper) (Q : Exit → Act → World → Prop) (R : World → World → Prop) : List (Oper × Nat) → Act → World → Prop
  | [], a, w => Q .normal a w
  | (o, 0) :: rest, a, w => ∃ v, YieldsIf P ops (R w) o v a ∧ wpK P ops Q R rest (a.put o.dst v) w
  | (o, k + 1) :: rest, a, w => if Region.wanted o (yielded ops a.tmps) = true then o.wp P a w (fun a' w' => (k = 0 → R w w') ∧ wpK P ops Q R rest a' w') Q else wpK P ops Q R rest (a.put o.dst undef) w

/-- Does the order fit the region? -/
def fitsB (md : Region.Mode) (ops : Array Oper) (ds : List Nat) : List (Nat × Nat) → Array Bool → Bool
  | [], l => Region.ready md ops l == []
  | (i, 0) :: rest, l => Region.free md ops l i && (Region.ready md ops l).contains i && shutB md ops l && (ds.all fun d => l.getD d true || waitsB md ops i ops.size d) && fitsB md ops ds rest (l.setIfInBounds i true)
  | (i, k + 1) :: rest, l => (Region.ready md ops l == [i]) && (if k = 0 then !ds.contains i else ds.contains i) && fitsB md ops ds rest (l.setIfInBounds i true)
/-- The order's operations. -/
def pick (ops : Array Oper) : List (Nat × Nat) → List (Oper × Nat)
  | [] => []
  | (i, k) :: rest => match ops[i]? with
    | some o => (o, k) :: pick ops rest
    | none => pick ops rest

theorem wpC_of_wpK (hrefl : ∀ w, R w w) (htr : ∀ w w' w'', R w w' → R w' w'' → R w w'') (hsel : Region.noSelect ops = true)
    (hQ : ∀ c a d v w, Q (.panic c) (Act.put a d v) w → Q (.panic c) a w) :
    ∀ (π : List (Nat × Nat)) (l : Array Bool) (a : Act) (w : World), fitsB md ops ds π l = true → wpK P ops Q R (pick ops π) a w → wpC P md ops Q R ds π.length l a w
  | [], l, a, w, hf, h => by
    simp only [fitsB, beq_iff_eq] at hf
    exact ⟨hf, h⟩
  | (i, 0) :: rest, l, a, w, hf, h => by
    simp only [fitsB, Bool.and_eq_true] at hf
    obtain ⟨⟨⟨⟨h1, h2⟩, h3⟩, h4⟩, h5⟩ := hf
    have hr : i ∈ Region.ready md ops l := by simpa using h2
    obtain ⟨_, oi, hoi, _⟩ := mem_ready.1 hr
    simp only [pick, hoi] at h
    obtain ⟨v, hy, hk⟩ := h
    exact wpC_first hrefl htr hoi (Region.noSelect_spec hsel) (fun c a w => hQ c a oi.dst v w) ops.size _ l a w (Region.free_spec hoi h1) (shutB_spec h3)
      (fun d hm hun => by have := List.all_eq_true.1 h4 d hm; rw [hun] at this; simpa using this) hr hy (wpC_of_wpK hrefl htr hsel hQ rest _ _ _ h5 hk)
  | (i, k + 1) :: rest, l, a, w, hf, h => by
    simp only [fitsB, Bool.and_eq_true, beq_iff_eq] at hf
    obtain ⟨⟨h1, h2⟩, h3⟩ := hf
    have hr : i ∈ Region.ready md ops l := by rw [h1]; exact List.mem_singleton.2 rfl
    obtain ⟨_, oi, hoi, _⟩ := mem_ready.1 hr
    simp only [pick, hoi] at h
    refine ⟨fun h0 => (by rw [h1] at h0; cases h0), fun j hj => ?_⟩
    rw [h1] at hj
    obtain rfl := List.mem_singleton.1 hj
    unfold wpOp
    simp only [hoi]
    unfold wpK at h
    by_cases hw : Region.wanted oi (yielded ops a.tmps) = true
    · rw [if_pos hw] at h ⊢
      refine .inl (Oper.wp_mono (fun a' w' hh => ⟨fun hnd => hh.1 ?_, wpC_of_wpK hrefl htr hsel hQ rest _ _ _ h3 hh.2⟩) h)
      by_cases hk : k = 0
      · exact hk
      · rw [if_neg hk] at h2
        exact absurd (by simpa using h2) hnd
    · rw [if_neg hw] at h ⊢
      exact ⟨fun _ => hrefl w, wpC_of_wpK hrefl htr hsel hQ rest _ _ _ h3 h⟩

/-- A region that draws, by one order. -/
theorem wp_region_order {id : Nat} {a : Act} {w : World} (R : World → World → Prop) (ds : List Nat) (π : List (Nat × Nat)) (l : List (Oper × Nat)) (hm : P.follows .mixedOrders = true) (hlen : π.length = ops.size) (hrefl : ∀ w, R w w) (htr : ∀ w w' w'', R w w' → R w' w'' → R w w'')
    (hc : (Region.noSelect ops && fitsB .any ops ds π (Array.replicate ops.size false)) = true) (hl : pick ops π = l) (hQ : ∀ c a d v w, Q (.panic c) (Act.put a d v) w → Q (.panic c) a w)
    (h : wpK P ops Q R l a w.drew) : (Code.region id ops true).wp P Q a w := by
  rw [Bool.and_eq_true] at hc
  subst hl
  refine wp_region_any hm (wpAny_of_wpC (R := R) (ds := ds) _ _ _ _ ?_)
  rw [← hlen]
  have := hc.2
  rw [← hlen] at this
  exact wpC_of_wpK hrefl htr hc.1 hQ π _ a _ this h

/-! ### The steps -/
theorem wpK_q {o : Oper} {rest : List (Oper × Nat)} {a a' : Act} {w : World} {v : Value} (hw : Region.wanted o (yielded ops a.tmps) = true) (hy : ∀ w', R w w' → (execOp a.eval o).run P w' = .ok (.value v) w') (ha : a.put o.dst v = a')
    (h : wpK P ops Q R rest a' w) : wpK P ops Q R ((o, 0) :: rest) a w := by
  subst ha
  exact ⟨v, .inl ⟨hw, hy⟩, h⟩
theorem wpK_off {o : Oper} {rest : List (Oper × Nat)} {k : Nat} {a a' : Act} {w : World} (hw : Region.wanted o (yielded ops a.tmps) = false) (ha : a.put o.dst undef = a')
    (h : wpK P ops Q R rest a' w) : wpK P ops Q R ((o, k) :: rest) a w := by
  subst ha
  cases k with
  | zero => exact ⟨undef, .inr ⟨hw, rfl⟩, h⟩
  | succ k => unfold wpK; rw [if_neg (by rw [hw]; decide)]; exact h
theorem enters {f : FuncId} {fn : Func} (hf : P.funcs[f]? = some fn) (hname : (fn.name == "runtime.NumGoroutine") = false) (hb : fn.body.isSome = true) (args : Array Value) (w : World) : (callFunc f args).run P w = .ok (.enter f args) w := by
  have h1 : fn.name ≠ "runtime.NumGoroutine" := by simpa using hname
  obtain ⟨c, hc⟩ := Option.isSome_iff_exists.1 hb
  simp [callFunc, hf, h1, hc]
/-- A call of a Go function. -/
theorem wpK_call {o : Oper} {rest : List (Oper × Nat)} {a : Act} {w : World} {k : Nat} {f : FuncId} {fn : Func} (hf : P.funcs[f]? = some fn) (hname : (fn.name == "runtime.NumGoroutine") = false) (hb : fn.body.isSome = true) {as : Array Operand} {ts : Array TypeId} (hop : o.op = .call { callee := .value (.func f), args := as, argTypes := ts })
    (hw : Region.wanted o (yielded ops a.tmps) = true) (args : Array Value) (hargs : as.map a.eval = args)
    (h : Calls P f args w fun e w' => ∃ v, e = .returned v ∧ (k = 0 → R w w') ∧ wpK P ops Q R rest (a.put o.dst v) w') : wpK P ops Q R ((o, k + 1) :: rest) a w := by
  unfold wpK
  rw [if_pos hw]
  have he := enters hf hname hb args w
  have hrun : (execOp a.eval o).run P w = .ok (.enter f args) w := by
    unfold execOp
    simp [hop, resolve, Deferred.ofValue, invoke, Act.eval, hargs, he]
  unfold Oper.wp
  rw [hrun, Oper.upon_enter]
  refine h.mono fun e w'' hh => ?_
  obtain ⟨v, rfl, hk⟩ := hh
  exact hk
/-- An operation that yields a value and may change the world. -/
theorem wpK_v {o : Oper} {rest : List (Oper × Nat)} {a a' : Act} {w w' : World} {k : Nat} {v : Value} (hw : Region.wanted o (yielded ops a.tmps) = true) (hrun : (execOp a.eval o).run P w = .ok (.value v) w') (hR : k = 0 → R w w') (ha : a.put o.dst v = a')
    (h : wpK P ops Q R rest a' w') : wpK P ops Q R ((o, k + 1) :: rest) a w := by
  subst ha
  unfold wpK
  rw [if_pos hw]
  unfold Oper.wp
  rw [hrun]
  exact ⟨hR, h⟩
/-- A store. -/
theorem wpK_s {o : Oper} {rest : List (Oper × Nat)} {a : Act} {w w' : World} {k : Nat} (hw : Region.wanted o (yielded ops a.tmps) = true) (hd : o.dst = none) (hrun : (execOp a.eval o).run P w = .ok .skip w') (hR : k = 0 → R w w')
    (h : wpK P ops Q R rest a w') : wpK P ops Q R ((o, k + 1) :: rest) a w := by
  unfold wpK
  rw [if_pos hw]
  unfold Oper.wp
  rw [hrun]
  refine ⟨hR, ?_⟩
  rw [hd]
  exact h
theorem wpK_done {a : Act} {w : World} (h : Q .normal a w) : wpK P ops Q R [] a w := h
end

/-- The world has at most new blocks. -/
def Ext (w w' : World) : Prop := Below w.heap.size w w'
theorem Ext.refl (w : World) : Ext w w := Below.refl _ _
theorem Ext.trans (w w' w'' : World) (h : Ext w w') (k : Ext w' w'') : Ext w w'' := Below.trans h (Below.mono k (Below.size h))
theorem Ext.below {w w' : World} (h : Ext w w') : Below w.heap.size w w' := h
theorem Ext.drew (w : World) : Ext w w.drew := ⟨rfl, rfl, rfl, Nat.le_refl _, fun _ _ => rfl⟩
theorem Ext.cell {w w' : World} (h : Ext w w') {p : Addr} {v : Value} (hv : w.cell? p = some v) : w'.cell? p = some v := (Below.cell h (block_lt_of_cell hv)).trans hv
end Go.Proofs.Ytnljmllkfmgclaa
