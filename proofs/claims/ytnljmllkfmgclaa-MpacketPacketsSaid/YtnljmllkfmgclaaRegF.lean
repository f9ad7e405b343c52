/-
  A DRAWN REGION IN WHICH TWO OPERATIONS WITH EFFECTS MAY COME UP AT ONCE: behind what only reads, both orders are walked.
  Over any program. Conditions: none beyond what each lemma names.
-/
import Derived.Test.YtnljmllkfmgclaaReg2
namespace Go.Proofs.Ytnljmllkfmgclaa
open Go.RowKit
set_option linter.unusedVariables false
set_option linter.unusedSimpArgs false
section
variable {P : Program} {ops : Array Oper} {Q : Exit → Act → World → Prop} {md : Region.Mode} {R : World → World → Prop} {ds : List Nat}

/-- What is listed behind an order. -/
def listedBy : List (Nat × Nat) → Array Bool → Array Bool
  | [], l => l
  | (i, _) :: rest, l => listedBy rest (l.setIfInBounds i true)
/-- Does a row of reads fit? -/
def readsB (md : Region.Mode) (ops : Array Oper) (ds : List Nat) : List (Nat × Nat) → Array Bool → Bool
  | [], _ => true
  | (i, 0) :: rest, l => Region.free md ops l i && (Region.ready md ops l).contains i && shutB md ops l && (ds.all fun d => l.getD d true || waitsB md ops i ops.size d) && readsB md ops ds rest (l.setIfInBounds i true)
  | (_, _ + 1) :: _, _ => false
/-- The exit behind the reads. -/
def thenQ (Q : Exit → Act → World → Prop) (C : Act → World → Prop) : Exit → Act → World → Prop
  | .normal, a, w => C a w
  | e, a, w => Q e a w
theorem thenQ_normal {C : Act → World → Prop} {a : Act} {w : World} (h : C a w) : thenQ Q C .normal a w := h
theorem wpC_of_reads (hrefl : ∀ w, R w w) (htr : ∀ w w' w'', R w w' → R w' w'' → R w w'') (hsel : Region.noSelect ops = true)
    (hQ : ∀ c a d v w, Q (.panic c) (Act.put a d v) w → Q (.panic c) a w) (C : Act → World → Prop) (n : Nat) :
    ∀ (π : List (Nat × Nat)) (l : Array Bool) (a : Act) (w : World), readsB md ops ds π l = true → (∀ a w, C a w → wpC P md ops Q R ds n (listedBy π l) a w) → wpK P ops (thenQ Q C) R (pick ops π) a w → wpC P md ops Q R ds (π.length + n) l a w
  | [], l, a, w, hf, hC, h => by
    rw [List.length_nil, Nat.zero_add]
    exact hC a w h
  | (i, 0) :: rest, l, a, w, hf, hC, h => by
    simp only [readsB, Bool.and_eq_true] at hf
    obtain ⟨⟨⟨⟨h1, h2⟩, h3⟩, h4⟩, h5⟩ := hf
    have hr : i ∈ Region.ready md ops l := by simpa using h2
    obtain ⟨_, oi, hoi, _⟩ := mem_ready.1 hr
    simp only [pick, hoi] at h
    obtain ⟨v, hy, hk⟩ := h
    rw [List.length_cons, show rest.length + 1 + n = (rest.length + n) + 1 by omega]
    exact wpC_first hrefl htr hoi (Region.noSelect_spec hsel) (fun c a w => hQ c a oi.dst v w) ops.size _ l a w (Region.free_spec hoi h1) (shutB_spec h3)
      (fun d hm hun => by have := List.all_eq_true.1 h4 d hm; rw [hun] at this; simpa using this) hr hy (wpC_of_reads hrefl htr hsel hQ C n rest _ _ _ h5 hC hk)
  | (_, _ + 1) :: _, l, a, w, hf, hC, h => by simp [readsB] at hf
/-- A step with an effect, whatever else is ready. -/
theorem wpOp_of_wpK (hrefl : ∀ w, R w w) (htr : ∀ w w' w'', R w w' → R w' w'' → R w w'') (hsel : Region.noSelect ops = true)
    (hQ : ∀ c a d v w, Q (.panic c) (Act.put a d v) w → Q (.panic c) a w) {i k : Nat} {rest : List (Nat × Nat)} {l : Array Bool} {a : Act} {w : World} {oi : Oper} (hoi : ops[i]? = some oi)
    (hk0 : (if k = 0 then !ds.contains i else ds.contains i) = true) (hf : fitsB md ops ds rest (l.setIfInBounds i true) = true) (h : wpK P ops Q R ((oi, k + 1) :: pick ops rest) a w) :
    wpOp P ops Q i (fun a' w' => (i ∉ ds → R w w') ∧ wpC P md ops Q R ds rest.length (l.setIfInBounds i true) a' w') a w := by
  unfold wpOp
  simp only [hoi]
  unfold wpK at h
  by_cases hw : Region.wanted oi (yielded ops a.tmps) = true
  · rw [if_pos hw] at h ⊢
    refine .inl (Oper.wp_mono (fun a' w' hh => ⟨fun hnd => hh.1 ?_, wpC_of_wpK hrefl htr hsel hQ rest _ _ _ hf hh.2⟩) h)
    by_cases hk : k = 0
    · exact hk
    · rw [if_neg hk] at hk0
      exact absurd (by simpa using hk0) hnd
  · rw [if_neg hw] at h ⊢
    exact ⟨fun _ => hrefl w, wpC_of_wpK hrefl htr hsel hQ rest _ _ _ hf h⟩
/-- Reads first; then i and j are ready; both orders fit. -/
def forkB (md : Region.Mode) (ops : Array Oper) (ds : List Nat) (π : List (Nat × Nat)) (i j : Nat × Nat) (ri rj : List (Nat × Nat)) : Bool :=
  readsB md ops ds π (Array.replicate ops.size false) && (Region.ready md ops (listedBy π (Array.replicate ops.size false)) == [i.1, j.1]) && (if i.2 = 0 then !ds.contains i.1 else ds.contains i.1) && (if j.2 = 0 then !ds.contains j.1 else ds.contains j.1) &&
    fitsB md ops ds ri ((listedBy π (Array.replicate ops.size false)).setIfInBounds i.1 true) && fitsB md ops ds rj ((listedBy π (Array.replicate ops.size false)).setIfInBounds j.1 true) && ri.length == rj.length && (π.length + (ri.length + 1) == ops.size)
theorem wp_region_fork {id : Nat} {a : Act} {w : World} (R : World → World → Prop) (ds : List Nat) (π : List (Nat × Nat)) (i j : Nat × Nat) (ri rj : List (Nat × Nat)) (l : List (Oper × Nat)) (li lj : List (Oper × Nat)) (oi oj : Oper) (hm : P.follows .mixedOrders = true) (hrefl : ∀ w, R w w) (htr : ∀ w w' w'', R w w' → R w' w'' → R w w'')
    (hc : (Region.noSelect ops && forkB .any ops ds π i j ri rj) = true) (hl : pick ops π = l) (hoi : ops[i.1]? = some oi) (hoj : ops[j.1]? = some oj) (hli : pick ops ri = li) (hlj : pick ops rj = lj)
    (hQ : ∀ c a d v w, Q (.panic c) (Act.put a d v) w → Q (.panic c) a w)
    (h : wpK P ops (thenQ Q fun a' w' => wpK P ops Q R ((oi, i.2 + 1) :: li) a' w' ∧ wpK P ops Q R ((oj, j.2 + 1) :: lj) a' w') R l a w.drew) : (Code.region id ops true).wp P Q a w := by
  subst hl hli hlj
  rw [Bool.and_eq_true] at hc
  obtain ⟨hsel, hf⟩ := hc
  unfold forkB at hf
  simp only [Bool.and_eq_true, beq_iff_eq] at hf
  obtain ⟨⟨⟨⟨⟨⟨⟨f1, f2⟩, f3⟩, f4⟩, f5⟩, f6⟩, f7⟩, f8⟩ := hf
  refine wp_region_any hm (wpAny_of_wpC (R := R) (ds := ds) _ _ _ _ ?_)
  refine (fun e8 => ?_) (wpC_of_reads (md := .any) (ops := ops) (Q := Q) (R := R) (ds := ds) hrefl htr hsel hQ _ (ri.length + 1) π _ a _ f1 (fun a' w' hh => ?_) h)
  · rw [f8] at e8
    exact e8
  · obtain ⟨g1, g2⟩ := hh
    refine ⟨fun h0 => (by rw [f2] at h0; cases h0), fun q hq => ?_⟩
    rw [f2] at hq
    have hq2 : q = i.1 ∨ q = j.1 := by simpa using hq
    clear hq
    cases hq2 with
    | inl e =>
      rw [e]
      exact wpOp_of_wpK hrefl htr hsel hQ hoi f3 f5 g1
    | inr e =>
      rw [e, f7]
      exact wpOp_of_wpK hrefl htr hsel hQ hoj f4 f6 g2
end
end Go.Proofs.Ytnljmllkfmgclaa
