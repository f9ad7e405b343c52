/-
  THE PROGRAM'S TAPE, eighth file: slices.Chunk and its iterator; append of noughts. Conditions: those that each contract names.
-/
import Derived.Test.YtoaeapnkefjpaaaTapeP7
import Derived.Test.YtoaeapnkefjpaaaRangeP
import Derived.TacticsInMore
import Derived.LoopNIn
import Derived.LoopIn
import Derived.Deep.Cut
import Derived.Lib.AppendZerosOnto
namespace Go.Proofs.Ytoaeapnkefjpaaa
open Go.RowKit
set_option linter.unusedVariables false
set_option linter.unusedSimpArgs false

theorem zeros_list (k : Nat) : (Builtin.zeroCells (Value.int .u8 0).cells k).toList = List.replicate k (B 0) := by
  have h1 : (Builtin.zeroCells (Value.int .u8 0).cells k).toList.length = k := by rw [Array.length_toList, size_zeroCells]; exact Nat.mul_one k
  rw [List.eq_replicate_iff]
  refine ⟨h1, fun b hb => ?_⟩
  have e : (Value.int .u8 0).cells = #[Value.int .u8 0] := rfl
  rw [Array.mem_toList_iff, Builtin.zeroCells, Array.mem_map] at hb
  obtain ⟨a, -, rfl⟩ := hb
  rw [e]
  have e2 : a % (#[Value.int .u8 0] : Array Value).size = 0 := Nat.mod_one a
  rw [e2]
  rfl
theorem run_app_zeros (w : World) (base : Nat) (ty : TypeId) (v : Value) (n : Nat) (xs : List Value) (hown : w.ownsRow base 5 1 v n xs) (k : Nat) (hn : 0 < n) (hk : n + k ≤ 1000000000) (hbase : base ≤ w.heap.size) :
    ∃ v' w', (Builtin.append_ #[23, 3] ty #[v, .int .i64 k]).run Try.prog w = .ok v' w' ∧ w'.ownsRow base 5 1 v' (n + k) (xs ++ List.replicate k (B 0)) ∧ w.grownBy w' v.ownBlock ∧ (v'.ownBlock = v.ownBlock ∨ v'.ownBlock = some w.heap.size) := by
  obtain ⟨i, hi, hz0, hz1, hz2⟩ := info_parts info5'
  rcases hown.2 with ⟨rfl, h0⟩ | ⟨g, cap, cur, rfl, hbg, hg, hnc, hcm, hcs, htake⟩
  · omega
  by_cases hk0 : k = 0
  · subst hk0
    refine ⟨.slice (some ⟨g, 0, none⟩) n cap, w, ?_, by simpa using hown, ⟨rfl, rfl, rfl, Nat.le_refl _, fun _ _ _ => rfl⟩, .inl rfl⟩
    simp [Builtin.append_, run_underlying Try.underlying23, run_underlying Try.underlying3, sizeOf, typeInfo, hi, asInt, asIntOf, hnc, storeCells, IntKind.wrap_i64]
  by_cases hroom : n + k ≤ cap
  · have hl : (List.replicate k (B 0)).length = k := List.length_replicate
    have hfit : n * i.size + (List.replicate k (B 0)).length ≤ cur.size := by rw [hl, hz1, hcs]; omega
    have h1 : ∀ u ∈ List.replicate k (B 0), u.oneCell' = true := fun u hu => by rw [(List.mem_replicate.1 hu).2]; rfl
    have hst := run_storeCells_at Try.prog g (n * i.size) 5 (List.replicate k (B 0)) 0 cur w hg (by simpa using hfit) h1
    simp only [Nat.add_zero, hz1, Nat.mul_one] at hst
    have hzl := zeros_list k
    have hneg : ¬ ((k : Int) < 0) := by omega
    have h48 : ¬ (281474976710656 < (k : Int)) := by omega
    have hwr : IntKind.i64.wrap (k : Int) = k := IntWalk.i64_in _ (by omega)
    refine ⟨.slice (some ⟨g, 0, none⟩) (n + k) cap, _, ?_, ⟨by rw [List.length_append, hown.1, hl]; omega, .inr ⟨g, cap, _, rfl, hbg, setRow_heap w g cur ((cur.toList.take (n * i.size) ++ List.replicate k (B 0) ++ cur.toList.drop (n * i.size + k)).toArray) 5 _ hg, hroom, hcm, ?_, ?_⟩⟩, ⟨rfl, rfl, rfl, by simp, fun k _ hk => setRow_other w g k _ (fun e => hk (by simp [Value.ownBlock, e]))⟩, .inl rfl⟩
    · simp [Builtin.append_, run_underlying Try.underlying23, run_underlying Try.underlying3, sizeOf, typeInfo, zeroValue, hi, hz0, hz1, hz2, asInt, asIntOf, hwr, hroom, hk0, hneg, h48, hzl, hst, Addr.add_lit]
    · simp only [List.size_toArray, List.length_append, List.length_take, List.length_drop, Array.length_toList, hl]
      rw [hz1]; omega
    · have e1 : cur.toList.take (n * i.size) = xs := by rw [hz1]; exact htake
      have e2 : (n + k) * 1 = (xs ++ List.replicate k (B 0)).length := by rw [List.length_append, hown.1, hl]; omega
      rw [e1, e2]
      exact List.take_left
  · have holds : ∀ j u, xs[j]? = some u → w.cell? ((⟨g, 0, none⟩ : Addr).add j) = some u := hown.cells (g := g) rfl
    have hold := run_firstCells_some (P := Try.prog) w.drew i.size n ⟨g, 0, none⟩ n cap xs (by rw [hown.1, hz1]) holds
    have hr := Lib.run_append_grow_zeros (P := Try.prog) w 23 3 ty 5 i _ .i64 .i64 Try.underlying23 Try.underlying3 hi hz0 (some ⟨g, 0, none⟩) n cap xs hold k (by omega) (by rw [hz1]; decide) (by omega) (by omega) (by rw [hz2]; omega) (by rw [hz2]; exact growslice_fits (by omega) (by omega))
    have hge := grownCap_ge w (n + k) cap 5
    have hcm2 : grownCap w (n + k) cap 5 ≤ maxLen := grownCap_le_maxLen w (n + k) cap 5 (by unfold maxLen; omega)
    refine ⟨_, _, hr, ⟨by rw [List.length_append, hown.1, List.length_replicate]; omega, .inr ⟨w.heap.size, _, _, rfl, hbase, heap_alloc_new w.drew _, hge, hcm2, ?_, ?_⟩⟩, ⟨rfl, rfl, rfl, by simp, fun k hk _ => Below.heap_alloc w.drew _ k hk⟩, .inr rfl⟩
    · have e1 : (Value.int .u8 0).cells.size = 1 := rfl
      simp only [Array.size_append, List.size_toArray, size_zeroCells, hown.1, e1]
      omega
    · have e2 : (n + k) * 1 = (xs ++ List.replicate k (B 0)).length := by rw [List.length_append, hown.1, List.length_replicate]; omega
      simp only [Array.toList_append, zeros_list]
      rw [e2]
      exact List.take_left
end Go.Proofs.Ytoaeapnkefjpaaa
