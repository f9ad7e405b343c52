/-
  A DRAWN REGION IN A FUNCTION THAT DEFERS: the way out by a panic reads the results' slots alone.
  Over any program. Conditions: none beyond what each lemma names.
-/
import Derived.Test.YtnljmllkfmgclaaReg2
import Derived.Defers
namespace Go.Proofs.Ytnljmllkfmgclaa
open Go.RowKit
set_option linter.unusedVariables false
set_option linter.unusedSimpArgs false
section
variable {P : Program} {ops : Array Oper} {Q : Exit → Act → World → Prop} {md : Region.Mode} {R : World → World → Prop} {ds : List Nat}
theorem wpC_of_wpK' (hrefl : ∀ w, R w w) (htr : ∀ w w' w'', R w w' → R w' w'' → R w w'') (hsel : Region.noSelect ops = true)
    (hQ : ∀ (i : Nat) (oi : Oper), ops[i]? = some oi → ∀ (c : List PanicEntry) (a : Act) (v : Value) (w : World), Q (.panic c) (Act.put a oi.dst v) w → Q (.panic c) a w) :
    ∀ (π : List (Nat × Nat)) (l : Array Bool) (a : Act) (w : World), fitsB md ops ds π l = true → wpK P ops Q R (pick ops π) a w → wpC P md ops Q R ds π.length l a w
  | [], l, a, w, hf, h => by
    simp only [fitsB, beq_iff_eq] at hf
    exact ⟨hf, h⟩
  | (i, 0) :: rest, l, a, w, hf, h => by
    simp only [fitsB, Bool.and_eq_true] at hf
    obtain ⟨⟨⟨⟨h1, h2⟩, h3⟩, h4⟩, h5⟩ := hf
    have hr : i ∈ Region.ready md ops l := by simpa using h2
    obtain ⟨_, oi, hoi, _⟩ := mem_ready.1 hr
    simp only [pick, hoi] at h
    obtain ⟨v, hy, hk⟩ := h
    exact wpC_first hrefl htr hoi (Region.noSelect_spec hsel) (fun c a w => hQ i oi hoi c a v w) ops.size _ l a w (Region.free_spec hoi h1) (shutB_spec h3)
      (fun d hm hun => by have := List.all_eq_true.1 h4 d hm; rw [hun] at this; simpa using this) hr hy (wpC_of_wpK' hrefl htr hsel hQ rest _ _ _ h5 hk)
  | (i, k + 1) :: rest, l, a, w, hf, h => by
    simp only [fitsB, Bool.and_eq_true, beq_iff_eq] at hf
    obtain ⟨⟨h1, h2⟩, h3⟩ := hf
    have hr : i ∈ Region.ready md ops l := by rw [h1]; exact List.mem_singleton.2 rfl
    obtain ⟨_, oi, hoi, _⟩ := mem_ready.1 hr
    simp only [pick, hoi] at h
    refine ⟨fun h0 => (by rw [h1] at h0; cases h0), fun j hj => ?_⟩
    rw [h1] at hj
    obtain rfl := List.mem_singleton.1 hj
    unfold wpOp
    simp only [hoi]
    unfold wpK at h
    by_cases hw : Region.wanted oi (yielded ops a.tmps) = true
    · rw [if_pos hw] at h ⊢
      refine .inl (Oper.wp_mono (fun a' w' hh => ⟨fun hnd => hh.1 ?_, wpC_of_wpK' hrefl htr hsel hQ rest _ _ _ h3 hh.2⟩) h)
      by_cases hk : k = 0
      · exact hk
      · rw [if_neg hk] at h2
        exact absurd (by simpa using h2) hnd
    · rw [if_neg hw] at h ⊢
      exact ⟨fun _ => hrefl w, wpC_of_wpK' hrefl htr hsel hQ rest _ _ _ h3 h⟩
/-- A region that draws, by one order; what is asked where it panics may read slots that the region does not write. -/
theorem wp_region_order' {id : Nat} {a : Act} {w : World} (R : World → World → Prop) (ds : List Nat) (π : List (Nat × Nat)) (l : List (Oper × Nat)) (hm : P.follows .mixedOrders = true) (hlen : π.length = ops.size) (hrefl : ∀ w, R w w) (htr : ∀ w w' w'', R w w' → R w' w'' → R w w'')
    (hc : (Region.noSelect ops && fitsB .any ops ds π (Array.replicate ops.size false)) = true) (hl : pick ops π = l) (hQ : ∀ (i : Nat) (oi : Oper), ops[i]? = some oi → ∀ (c : List PanicEntry) (a : Act) (v : Value) (w : World), Q (.panic c) (Act.put a oi.dst v) w → Q (.panic c) a w)
    (h : wpK P ops Q R l a w.drew) : (Code.region id ops true).wp P Q a w := by
  rw [Bool.and_eq_true] at hc
  subst hl
  refine wp_region_any hm (wpAny_of_wpC (R := R) (ds := ds) _ _ _ _ ?_)
  rw [← hlen]
  have := hc.2
  rw [← hlen] at this
  exact wpC_of_wpK' hrefl htr hc.1 hQ π _ a _ this h
end
theorem leaves_tmps {P : Program} {fn : Func} {tmps tmps' : Array Value} {R : Ending → World → Prop} (h : results fn tmps = results fn tmps') : ∀ (ds : List Deferred) (u : FrameMode) (w : World), Leaves P fn tmps R ds u w → Leaves P fn tmps' R ds u w
  | [], .returning, w, hh => by unfold Leaves at hh ⊢; rw [← h]; exact hh
  | [], .panicking chain, w, hh => hh
  | [], .run, _, hh => hh
  | d :: ds, u, w, hh => by
    unfold Leaves at hh ⊢
    obtain ⟨h1, fv, cap, f, args, h2, h3, h4⟩ := hh
    refine ⟨h1, fv, cap, f, args, h2, h3, h4.mono fun e u' w' hR => ?_⟩
    cases e with
    | returned v => exact leaves_tmps h ds _ _ hR
    | panicked chain => exact leaves_tmps h ds _ _ hR
    | outgrown => exact hR
theorem door_ops {P : Program} {ops : Array Oper} {fn : Func} {R : Ending → World → Prop} (ts : List Nat) (hr : ∀ (d : Tmp) (v : Value) (tmps : Array Value), d ∉ ts → results fn (tmps.setIfInBounds d v) = results fn tmps) (hck : (ops.all fun o => o.dst.all fun d => !ts.contains d) = true) :
    ∀ (i : Nat) (oi : Oper), ops[i]? = some oi → ∀ (c : List PanicEntry) (a : Act) (v : Value) (w : World), bodyPostD P fn R (.panic c) (Act.put a oi.dst v) w → bodyPostD P fn R (.panic c) a w := by
  intro i oi hi c a v w h
  have h1 := Array.all_eq_true_iff_forall_mem.1 hck oi (Array.mem_of_getElem? hi)
  cases hd : oi.dst with
  | none => rw [hd] at h; exact h
  | some d =>
    rw [hd] at h h1
    have h2 : d ∉ ts := by simpa using h1
    exact leaves_tmps (hr d v a.tmps h2) _ _ _ h
end Go.Proofs.Ytnljmllkfmgclaa
