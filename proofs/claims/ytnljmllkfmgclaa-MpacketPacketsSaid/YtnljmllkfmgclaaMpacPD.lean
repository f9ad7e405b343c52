/-
  THE PROGRAM: body, of any kind; the door of Next. Conditions: those that each contract names.
-/
import Derived.Test.YtnljmllkfmgclaaMpacPA
import Derived.Test.YtnljmllkfmgclaaMpacPB
import Derived.Test.YtnljmllkfmgclaaMpacPC
import Derived.Defers
import Derived.Deep.MidRow
import Derived.Deep.Upon
import Derived.Recover
import Derived.Laws.Pointers
namespace Go.Proofs.Ytnljmllkfmgclaa
open Go.RowKit
set_option linter.unusedVariables false
set_option linter.unusedSimpArgs false

theorem body_any (w : World) (r p k f : Nat) (s : List UInt8) (hk : 1 ≤ k ∧ k ≤ 14) (hf : f < 16) (h : RdIn w r s) (hp : PIn w p (Pk.new k f) nil0 nil0) (hrp : r ≠ p) : Calls Try.prog 24 #[.pointer (some ⟨r, 0, none⟩), .pointer (some ⟨p, 0, none⟩)] w (GotB w r p (Mp.body k f s)) := by
  have : k = 1 ∨ k = 2 ∨ k = 3 ∨ (k = 4 ∨ k = 5 ∨ k = 6 ∨ k = 7 ∨ k = 11) ∨ k = 8 ∨ k = 9 ∨ k = 10 ∨ (k = 12 ∨ k = 13 ∨ k = 14) := by omega
  rcases this with rfl | rfl | rfl | h4 | rfl | rfl | rfl | h0
  · exact body_1 w r p f s h hp hrp
  · exact body_2 w r p f s h hp hrp
  · exact body_3 w r p f s hf h hp hrp
  · exact body_4 w r p k f s h4 h hp hrp
  · exact body_8 w r p f s h hp hrp
  · exact body_9 w r p f s h hp hrp
  · exact body_10 w r p f s h hp hrp
  · exact body_0 w r p k f s h0 h hp hrp
theorem cell_one {w : World} {b : Nat} {cs : Array Value} {t : TypeId} (h : w.heap[b]? = some (.cells cs t (0, 0))) (hs : cs.size = 1) : ∃ v, w.cell? ⟨b, 0, none⟩ = some v := by
  rw [cell_of_row w b _ _ _ _ h]
  exact ⟨cs[0], Array.getElem?_eq_getElem (by omega)⟩
theorem set_one {w : World} {b : Nat} {cs : Array Value} {t : TypeId} (h : w.heap[b]? = some (.cells cs t (0, 0))) (hs : cs.size = 1) (v : Value) : (w.setCell ⟨b, 0, none⟩ v).heap[b]? = some (.cells #[v] t (0, 0)) := by
  rw [heap_setCell_same w b 0 _ _ v h]
  obtain ⟨l⟩ := cs
  match l, hs with
  | [x], _ => rfl
theorem catch_idle (p1 p2 p3 : Addr) (w : World) :
    CallsD Try.prog 20 #[.pointer (some p1), .pointer (some p2), .pointer (some p3)] .returning w fun e u' w' => e = .returned (.tuple #[]) ∧ u' = .returning ∧ w' = w := by
  refine callsD_of_wpS Try.func20 rfl fun c₀ cs hu => ?_
  apply wpS_seq
  apply wpS_region
  simp [wpOpsS, go_sem, recoverD, hu, Try.ntmps20, Exit.thenS]
  refine wpS_of_wp ?_
  go_wp2
  cases c₀
  simp_all [bodyPostS, results, Try.results20]
theorem gave_is (w : World) : (Instr.typeAssert (.iface 45 (.agg #[])) 20 45 true).run Try.prog w = .ok (.tuple #[.agg #[], .bool true]) w := by kernel_rfl
/-! ### a whole packet stored, loaded -/
def setMany (cs : Array Value) : Nat → List Value → Array Value
  | _, [] => cs
  | o, v :: r => setMany (cs.setIfInBounds o v) (o + 1) r
theorem heap_setCells (b : Nat) (t : TypeId) : ∀ (vs : List Value) (o : Nat) (w : World) (cs : Array Value), w.heap[b]? = some (.cells cs t (0, 0)) → (w.setCells b o vs).heap[b]? = some (.cells (setMany cs o vs) t (0, 0))
  | [], _, _, _, h => h
  | v :: r, o, w, cs, h => heap_setCells b t r (o + 1) _ _ (heap_setCell_same w b o _ _ v h)
theorem Mod.setCells {own : Nat → Prop} {b : Nat} (hb : own b) : ∀ (vs : List Value) (o : Nat) (w : World), Mod own w (w.setCells b o vs)
  | [], _, _ => Mod.refl _ _
  | v :: r, o, w => (Mod.set (a := ⟨b, o, none⟩) hb).trans (Mod.setCells hb r (o + 1) _)
theorem info25 : (Try.prog.info? 25).map (·.size) = some 12 := by kernel_rfl
theorem pk_one (P : Pk) (nv cv : Value) (h1 : nv.oneCell' = true) (h2 : cv.oneCell' = true) : (pkCells P nv cv).all (·.oneCell') = true := by
  rw [← Array.all_toList]
  simp only [pkCells, List.all_cons, List.all_nil, h1, h2]
  rfl
theorem pk_size (P : Pk) (nv cv : Value) : some (pkCells P nv cv).size = some 12 := by rfl
theorem PIn.there {w : World} {p : Nat} {P : Pk} {nv cv : Value} (h : PIn w p P nv cv) (P' : Pk) (nv' cv' : Value) : w.there p 0 (pkCells P' nv' cv').size := fun j hj => by
  have h1 : j < 12 := hj
  have h2 : j < (pkCells P nv cv).size := h1
  refine ⟨?_, h.fr _⟩
  rw [Nat.zero_add, h.cell j, Array.getElem?_eq_getElem h2]
  rfl
/-- A packet stored over a packet. -/
theorem PIn.store {w : World} {p : Nat} {P P' : Pk} {nv cv nv' cv' : Value} (h : PIn w p P nv cv) (h1 : nv'.oneCell' = true) (h2 : cv'.oneCell' = true) :
    (Instr.storeAt 25 (.pointer (some ⟨p, 0, none⟩)) (.agg (pkCells P' nv' cv'))).run Try.prog w = .ok () (w.setCells p 0 (pkCells P' nv' cv').toList) :=
  run_storeAt_mid w p 0 25 (pkCells P' nv' cv') (h.there _ _ _) (info25.trans (pk_size P' nv' cv').symm) (pk_one _ _ _ h1 h2)
theorem setMany_pk (P P' : Pk) (nv cv nv' cv' : Value) : setMany (pkCells P nv cv) 0 (pkCells P' nv' cv').toList = pkCells P' nv' cv' := by
  simp [setMany, pkCells]
theorem PIn.stored {w : World} {p : Nat} {P : Pk} {nv cv : Value} (h : PIn w p P nv cv) (P' : Pk) (nv' cv' : Value) : PIn (w.setCells p 0 (pkCells P' nv' cv').toList) p P' nv' cv' := by
  have := heap_setCells p 25 (pkCells P' nv' cv').toList 0 w _ h
  rw [setMany_pk] at this
  exact this
/-- A packet loaded. -/
theorem PIn.load {w : World} {p : Nat} {P : Pk} {nv cv : Value} (h : PIn w p P nv cv) : (Instr.loadAt 25 (.pointer (some ⟨p, 0, none⟩))).run Try.prog w = .ok (.agg (pkCells P nv cv)) w := by
  have hc : w.rangeAt p 0 (pkCells P nv cv).toList := fun j v hv => by
    rw [Nat.zero_add, h.cell j]
    rw [Array.getElem?_toList] at hv
    exact hv
  have := run_loadAt_mid (P := Try.prog) w p 0 25 (pkCells P nv cv).toList _ hc Try.underlying25 rfl info25
  rw [Array.toArray_toList] at this
  exact this
end Go.Proofs.Ytnljmllkfmgclaa
