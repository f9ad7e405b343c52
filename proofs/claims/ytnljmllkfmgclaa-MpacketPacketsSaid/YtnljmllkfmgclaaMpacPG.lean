/-
  THE PROGRAM: Next. Conditions: those that each contract names.
-/
import Derived.Test.YtnljmllkfmgclaaMpacPF
namespace Go.Proofs.Ytnljmllkfmgclaa
open Go.RowKit
set_option linter.unusedVariables false
set_option linter.unusedSimpArgs false

/-- What Next comes to. -/
def Nexted (w : World) (R : Mp.Res) (e : Ending) (w' : World) : Prop :=
  Below w.heap.size w w' ∧ match R with
  | .more => e = .returned (.tuple #[.agg (pkCells Pk.zero nil0 nil0), I 0, I 41])
  | .proto => e = .returned (.tuple #[.agg (pkCells Pk.zero nil0 nil0), I 0, I 40])
  | .ok P n => ∃ nv cv, e = .returned (.tuple #[.agg (pkCells P nv cv), I n, I 0]) ∧ w'.ownsRow w.heap.size 9 1 nv P.names.length (P.names.map S) ∧ w'.ownsRow w.heap.size 3 1 cv P.codes.length (P.codes.map I)
/-- The three named results' blocks, just laid. -/
theorem born3 (w : World) (P : Pk) (nv cv x y : Value) : PIn (((w.alloc (.cells (pkCells P nv cv) 25)).alloc (.cells #[x] 3)).alloc (.cells #[y] 29)) w.heap.size P nv cv ∧
    (((w.alloc (.cells (pkCells P nv cv) 25)).alloc (.cells #[x] 3)).alloc (.cells #[y] 29)).heap[w.heap.size + 1]? = some (.cells #[x] 3 (0, 0)) ∧
    (((w.alloc (.cells (pkCells P nv cv) 25)).alloc (.cells #[x] 3)).alloc (.cells #[y] 29)).heap[w.heap.size + 1 + 1]? = some (.cells #[y] 29 (0, 0)) ∧
    Below w.heap.size w (((w.alloc (.cells (pkCells P nv cv) 25)).alloc (.cells #[x] 3)).alloc (.cells #[y] 29)) ∧
    (((w.alloc (.cells (pkCells P nv cv) 25)).alloc (.cells #[x] 3)).alloc (.cells #[y] 29)).heap.size = w.heap.size + 3 := by
  generalize hc : pkCells P nv cv = cs
  have z1 : (w.alloc (.cells cs 25)).heap.size = w.heap.size + 1 := by simp
  have z2 : ((w.alloc (.cells cs 25)).alloc (.cells #[x] 3)).heap.size = w.heap.size + 1 + 1 := by simp
  refine ⟨?_, ?_, ?_, ?_, by simp⟩
  · unfold PIn
    rw [hc]
    exact (Below.heap_alloc _ _ _ (by omega)).trans ((Below.heap_alloc _ _ _ (by omega)).trans (heap_alloc_new _ _))
  · refine (Below.heap_alloc _ _ _ (by omega)).trans ?_
    have := heap_alloc_new (w.alloc (.cells cs 25)) (.cells #[x] 3)
    rw [z1] at this
    exact this
  · have := heap_alloc_new ((w.alloc (.cells cs 25)).alloc (.cells #[x] 3)) (.cells #[y] 29)
    rw [z2] at this
    exact this
  · exact (((Below.refl _ _).alloc (Nat.le_refl _) _).alloc (by omega) _).alloc (by omega) _
set_option maxRecDepth 100000 in
set_option maxHeartbeats 3200000 in
theorem next_nil (w : World) : Calls Try.prog 11 #[S []] w (Nexted w .more) := by
  have hmf := closes
  have he := str_empty [] rfl
  go_enter_defers Try.func11, Try.ntmps11
  go_wp2_with fail
  obtain ⟨h1, h2, h3, h4, -⟩ := born3 w Pk.zero nil0 nil0 (I 0) (I 41)
  have q2 := cell_of_row _ _ 0 _ _ _ h2
  have q3 := cell_of_row _ _ 0 _ _ _ h3
  exact door_ret rfl rfl rfl h1 (u2 := I 0) (u3 := I 41) q2 q3 ⟨h4, rfl⟩
end Go.Proofs.Ytnljmllkfmgclaa
