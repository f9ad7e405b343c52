/-
  THE PROGRAM: Next's door. Conditions: those that each contract names.
-/
import Derived.Test.YtnljmllkfmgclaaMpacPE
namespace Go.Proofs.Ytnljmllkfmgclaa
open Go.RowKit
set_option linter.unusedVariables false
set_option linter.unusedSimpArgs false

theorem closes (fn : Fn) (first cap : Array Value) (w : World) : (Instr.makeFunc fn first cap).run Try.prog w = .ok (.func fn first cap) w := rfl
/-- Out through the door, nothing given up. -/
theorem door_ret {b1 b2 b3 : Nat} {tmps : Array Value} {w : World} {R : Ending → World → Prop} {P : Pk} {nv cv u2 u3 : Value} (h2 : tmps[2]?.getD undef = .pointer (some ⟨b1, 0, none⟩)) (h3 : tmps[3]?.getD undef = .pointer (some ⟨b2, 0, none⟩)) (h4 : tmps[4]?.getD undef = .pointer (some ⟨b3, 0, none⟩))
    (c1 : PIn w b1 P nv cv) (c2 : w.cell? ⟨b2, 0, none⟩ = some u2) (c3 : w.cell? ⟨b3, 0, none⟩ = some u3) (h : R (.returned (.tuple #[.agg (pkCells P nv cv), u2, u3])) w) :
    bodyPostD Try.prog Try.f11 R Exit.ret { tmps := tmps, defers := [{ target := .fn (.func 20) #[.pointer (some ⟨b1, 0, none⟩), .pointer (some ⟨b2, 0, none⟩), .pointer (some ⟨b3, 0, none⟩)], args := #[] }] } w := by
  refine leaves_cons (f := 20) (args := #[.pointer (some ⟨b1, 0, none⟩), .pointer (some ⟨b2, 0, none⟩), .pointer (some ⟨b3, 0, none⟩)]) (by simp) (by simp [go_sem]) ?_
  refine (catch_idle _ _ _ _).mono ?_
  rintro e u' w'' ⟨rfl, rfl, rfl⟩
  have k0 : w''.cell? ⟨b1, 0, none⟩ = some (I P.kind) := c1.cell 0
  have k1 : w''.cell? ⟨b1, 1, none⟩ = some (I P.flags) := c1.cell 1
  have k2 : w''.cell? ⟨b1, 2, none⟩ = some (I P.id) := c1.cell 2
  have k3 : w''.cell? ⟨b1, 3, none⟩ = some (I P.code) := c1.cell 3
  have k4 : w''.cell? ⟨b1, 4, none⟩ = some (S P.name) := c1.cell 4
  have k5 : w''.cell? ⟨b1, 5, none⟩ = some (S P.text) := c1.cell 5
  have k6 : w''.cell? ⟨b1, 6, none⟩ = some (I P.keep) := c1.cell 6
  have k7 : w''.cell? ⟨b1, 7, none⟩ = some (.bool P.will) := c1.cell 7
  have k8 : w''.cell? ⟨b1, 8, none⟩ = some (S P.topic) := c1.cell 8
  have k9 : w''.cell? ⟨b1, 9, none⟩ = some (.bool P.clean) := c1.cell 9
  have k10 : w''.cell? ⟨b1, 10, none⟩ = some (nv) := c1.cell 10
  have k11 : w''.cell? ⟨b1, 11, none⟩ = some (cv) := c1.cell 11
  have hh : R (.returned (.tuple #[.agg #[I P.kind, I P.flags, I P.id, I P.code, S P.name, S P.text, I P.keep, .bool P.will, S P.topic, .bool P.clean, nv, cv], u2, u3])) w'' := h
  simp [Leaves, settle, results, Try.results11, go_sem, h2, h3, h4, c2, c3, hh, k0, k1, k2, k3, k4, k5, k6, k7, k8, k9, k10, k11]
/-- Out through the door, something given up: the empty packet, 0, ErrProto. -/
theorem door_gave {b1 b2 b3 : Nat} {tmps : Array Value} {w : World} {R : Ending → World → Prop} {P : Pk} {nv cv : Value} {v2 v3 : Array Value} (h2 : tmps[2]?.getD undef = .pointer (some ⟨b1, 0, none⟩)) (h3 : tmps[3]?.getD undef = .pointer (some ⟨b2, 0, none⟩)) (h4 : tmps[4]?.getD undef = .pointer (some ⟨b3, 0, none⟩))
    (g1 : PIn w b1 P nv cv) (g2 : w.heap[b2]? = some (.cells v2 3 (0, 0))) (g3 : w.heap[b3]? = some (.cells v3 29 (0, 0))) (s2 : v2.size = 1) (s3 : v3.size = 1) (n12 : b1 ≠ b2) (n13 : b1 ≠ b3) (n23 : b2 ≠ b3)
    (h : ∀ w', Mod (fun k => k = b1 ∨ k = b2 ∨ k = b3) w w' → R (.returned (.tuple #[.agg (pkCells Pk.zero nil0 nil0), I 0, I 40])) w') :
    bodyPostD Try.prog Try.f11 R (Exit.panic gave) { tmps := tmps, defers := [{ target := .fn (.func 20) #[.pointer (some ⟨b1, 0, none⟩), .pointer (some ⟨b2, 0, none⟩), .pointer (some ⟨b3, 0, none⟩)], args := #[] }] } w := by
  refine leaves_cons (f := 20) (args := #[.pointer (some ⟨b1, 0, none⟩), .pointer (some ⟨b2, 0, none⟩), .pointer (some ⟨b3, 0, none⟩)]) (by simp) (by simp [go_sem]) ?_
  refine (catch_gave b1 b2 b3 P nv cv v2 v3 3 29 w g1 g2 g3 s2 s3 n12 n13 n23).mono ?_
  rintro e u' w'' ⟨rfl, rfl, ⟨r1, r2, r3⟩, hm⟩
  have k0 : w''.cell? ⟨b1, 0, none⟩ = some (I 0) := r1.cell 0
  have k1 : w''.cell? ⟨b1, 1, none⟩ = some (I 0) := r1.cell 1
  have k2 : w''.cell? ⟨b1, 2, none⟩ = some (I 0) := r1.cell 2
  have k3 : w''.cell? ⟨b1, 3, none⟩ = some (I 0) := r1.cell 3
  have k4 : w''.cell? ⟨b1, 4, none⟩ = some (S []) := r1.cell 4
  have k5 : w''.cell? ⟨b1, 5, none⟩ = some (S []) := r1.cell 5
  have k6 : w''.cell? ⟨b1, 6, none⟩ = some (I 0) := r1.cell 6
  have k7 : w''.cell? ⟨b1, 7, none⟩ = some (.bool false) := r1.cell 7
  have k8 : w''.cell? ⟨b1, 8, none⟩ = some (S []) := r1.cell 8
  have k9 : w''.cell? ⟨b1, 9, none⟩ = some (.bool false) := r1.cell 9
  have k10 : w''.cell? ⟨b1, 10, none⟩ = some (nil0) := r1.cell 10
  have k11 : w''.cell? ⟨b1, 11, none⟩ = some (nil0) := r1.cell 11
  have c2 : w''.cell? ⟨b2, 0, none⟩ = some (I 0) := by rw [cell_of_row w'' b2 _ _ _ _ r2]; rfl
  have c3 : w''.cell? ⟨b3, 0, none⟩ = some (I 40) := by rw [cell_of_row w'' b3 _ _ _ _ r3]; rfl
  have hh : R (.returned (.tuple #[.agg #[I 0, I 0, I 0, I 0, S [], S [], I 0, .bool false, S [], .bool false, nil0, nil0], I 0, I 40])) w'' := h w'' hm
  simp [Leaves, settle, results, Try.results11, go_sem, h2, h3, h4, c2, c3, hh, k0, k1, k2, k3, k4, k5, k6, k7, k8, k9, k10, k11]
end Go.Proofs.Ytnljmllkfmgclaa
