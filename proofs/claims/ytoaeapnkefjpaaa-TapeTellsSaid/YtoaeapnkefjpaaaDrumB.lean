/-
  THE DRUM'S BUILDING OPERATIONS: a write built, a row of one write, what append makes of it.
  Conditions: none beyond what each lemma names.
-/
import Derived.Test.YtoaeapnkefjpaaaDrumM
import Derived.Great.FillDense
import Derived.Great.BuildSlice
namespace Go.Proofs.Ytoaeapnkefjpaaa
open Go.RowKit
set_option linter.unusedVariables false
set_option linter.unusedSimpArgs false

theorem info127 : (Try.prog.info? 127).map (fun i => (i.zero, i.size, i.bytes)) = some (some (.agg Try.zeroCells127), 257, 264) := by kernel_rfl
theorem zsz127 : Try.zeroCells127.size = 257 := by kernel_rfl
theorem fill_write {n : Nat} (place : Nat → Option (Nat × Nat)) (z : Array Value) (a : Value) (C : List Value) (h0 : place 0 = some (0, 1)) (h1 : place 1 = some (1, n)) (ha : a.cells = #[a]) (hC : C.length = n) (hz : z.size = n + 1) :
    Instr.fill place z [(0, a), (1, .agg C.toArray)] = some (a :: C).toArray := by
  unfold Instr.fill
  simp only [h0, ha]
  rw [if_neg (by simp [hz])]
  unfold Instr.fill
  have f0 := Great.foldl_set 0 [a] 0 z
  have e1 : (Array.zipIdx #[a]).foldl (fun cs (x : Value × Nat) => cs.setIfInBounds (0 + x.2) x.1) z = ([a].zipIdx 0).foldl (fun cs (x : Value × Nat) => cs.setIfInBounds (0 + x.2) x.1) z := by
    simp
  simp only [h1]
  have e0 : (#[a].zipIdx).foldl (fun cs (x : Value × Nat) => match x with | (c, j) => cs.setIfInBounds (0 + j) c) z = ([a].zipIdx 0).foldl (fun cs (x : Value × Nat) => cs.setIfInBounds (0 + x.2) x.1) z := e1
  rw [e0]
  generalize ([a].zipIdx 0).foldl (fun cs (x : Value × Nat) => cs.setIfInBounds (0 + x.2) x.1) z = y at *
  obtain ⟨s0, g0⟩ := f0
  have hc : (Value.agg C.toArray).cells = C.toArray := rfl
  rw [hc, if_neg (by simp [hC, s0, hz]; omega)]
  unfold Instr.fill
  have f1 := Great.foldl_set 1 C 0 y
  have e2 : (C.toArray.zipIdx).foldl (fun cs (x : Value × Nat) => match x with | (c, j) => cs.setIfInBounds (1 + j) c) y = (C.zipIdx 0).foldl (fun cs (x : Value × Nat) => cs.setIfInBounds (1 + x.2) x.1) y := by simp
  rw [e2]
  obtain ⟨s1, g1⟩ := f1
  congr 1
  apply Array.ext_getElem?
  intro k
  rw [g1 k, g0 k]
  simp only [List.getElem?_toArray]
  cases k with
  | zero => simp [hz]
  | succ k =>
    by_cases hk : k < n
    · rw [if_pos ⟨by omega, by omega, by omega⟩, List.getElem?_cons_succ]
      congr 1
    · rw [if_neg (by omega), if_neg (by simp), Array.getElem?_eq_none (by omega), List.getElem?_eq_none (by simp; omega)]
theorem built_write (a : Int) (l : List UInt8) (hl : l.length = 256) (w : World) : (Instr.build 127 #[(0, .int .i64 a), (1, .agg (pageCells l).toArray)]).run Try.prog w = .ok (.agg (I a :: pageCells l).toArray) w := by
  refine run_build w 127 _ _ ?_
  obtain ⟨i, hi, hz, -, -⟩ := info_parts info127
  have h5 : (Try.prog.info? 3).map (·.size) = some 1 := by kernel_rfl
  have h6 := z125
  cases h3 : Try.prog.info? 3 with
  | none => rw [h3] at h5; cases h5
  | some i3 =>
    cases h4 : Try.prog.info? 125 with
    | none => rw [h4] at h6; cases h6
    | some i4 =>
      rw [h3] at h5
      rw [h4] at h6
      simp only [Option.map_some, Option.some.injEq] at h5 h6
      unfold Program.built
      simp only [hi, Try.underlying127, hz]
      simp only [List.mapM_cons, List.mapM_nil, h3, h4, Option.map_some, h5, h6]
      exact fill_write _ _ _ _ rfl rfl rfl (pageCells_len hl) zsz127
theorem built_one (a : Int) (l : List UInt8) (hl : l.length = 256) (w : World) :
    (Instr.buildSlice 110 1 #[(0, .agg (I a :: pageCells l).toArray)]).run Try.prog w = .ok (.slice (some ⟨w.heap.size, 0, none⟩) 1 1) (w.alloc (.cells (I a :: pageCells l).toArray 127)) := by
  obtain ⟨i, hi, hz, hs, -⟩ := info_parts info127
  refine run_buildSlice w 110 127 1 _ _ i _ Try.underlying110 hi hz (by rw [hs]; decide) (by rw [hs]; decide) ?_
  rw [hs]
  have hc : (Value.agg (I a :: pageCells l).toArray).cells.size = 257 := by show (I a :: pageCells l).toArray.size = 257; simp [pageCells_len hl]
  have := Great.fill_whole (s := 257) (by decide) [.agg (I a :: pageCells l).toArray] ((Array.range (1 * 257)).map fun k => (Value.agg Try.zeroCells127).cells[k % (Value.agg Try.zeroCells127).cells.size]!) (fun v hv => by obtain rfl := List.mem_singleton.1 hv; exact hc) (by simp)
  simp only [List.flatMap_cons, List.flatMap_nil, List.append_nil] at this
  exact this
theorem run_arr (g off cap : Nat) (w : World) : (Instr.arrayAt 125 (.slice (some ⟨g, off, none⟩) 256 cap)).run Try.prog w = .ok (.pointer (some ⟨g, off, none⟩)) w := by
  simp [Instr.arrayAt, run_underlying Try.underlying125]
/-- At most this one block has changed, of those that were there. -/
def Keep (o : Option Nat) (w w' : World) : Prop := Mod (fun b => o = some b) w w'
theorem Keep.refl {o : Option Nat} (w : World) : Keep o w w := Mod.refl _ _
theorem Keep.trans {o : Option Nat} (w w' w'' : World) (h : Keep o w w') (k : Keep o w' w'') : Keep o w w'' := Mod.trans h k
theorem Keep.cell {o : Option Nat} {w w' : World} (h : Keep o w w') {p : Addr} {v : Value} (hv : w.cell? p = some v) (hp : o ≠ some p.block) : w'.cell? p = some v := Mod.cell h hv hp
theorem Keep.grown {o : Option Nat} {w w' : World} (h : w.grownBy w' o) : Keep o w w' := ⟨h.os, h.tape, h.output, h.size, fun k hk hn => h.block k hk (fun e => hn e.symm)⟩
theorem Keep.alloc {o : Option Nat} {w : World} (ob : Obj) : Keep o w (w.alloc ob) := Mod.alloc ob
/-- A page stored. -/
theorem run_store_page {w : World} {s : Nat} {safe : List (List UInt8)} {t : TypeId} (hs : w.heap[s]? = some (.cells (safe.flatMap pageCells).toArray t (0, 0))) (hp : ∀ q ∈ safe, q.length = 256) {k : Nat} (hk : k < safe.length) {pg : List UInt8} (hl : pg.length = 256) :
    (Instr.storeAt 125 (.pointer (some ⟨s, k * 256, none⟩)) (.agg (pageCells pg).toArray)).run Try.prog w = .ok () (w.setRow s ((safe.set k pg).flatMap pageCells).toArray) := by
  have hpages : ∀ q ∈ safe, (pageCells q).length = 256 := fun q hq => pageCells_len (hp q hq)
  have hst := run_storeCells_at Try.prog s (k * 256) t (pageCells pg) 0 (safe.flatMap pageCells).toArray w hs (by rw [List.size_toArray, rows_len hpages, pageCells_len hl]; omega) (fun v hv => pageCells_one v hv)
  have hpatch := rows_patch (L := safe) (k := k) (x := safe.getD k []) (y := pg) (vs := pageCells pg) (m := 256) hpages (by rw [List.getD_eq_getElem?_getD, List.getElem?_eq_getElem hk]; rfl) (pageCells_len hl) (Nat.le_refl _) (by
    have : (pageCells (safe.getD k [])).length = 256 := pageCells_len (DS.safe_len hp hk).2
    rw [List.drop_eq_nil_of_le (by omega), List.append_nil])
  simp only [Nat.add_zero, pageCells_len hl, hpatch] at hst
  have h6 := z125
  cases h4 : Try.prog.info? 125 with
  | none => rw [h4] at h6; cases h6
  | some i4 =>
    rw [h4] at h6
    simp only [Option.map_some, Option.some.injEq] at h6
    simp [Instr.storeAt, Instr.sureAddr, storeVar, sizeOf, typeInfo, h4, h6, Value.cells, pageCells_len hl, hst]
/-- A write's page out of its variable. -/
theorem run_load_data {w : World} {n : Nat} {a : Nat} {pg : List UInt8} {t : TypeId} {fr : Nat × Nat} (h : w.heap[n]? = some (.cells (waitCells (a, pg)).toArray t fr)) (hl : pg.length = 256) :
    (Instr.loadAt 125 (.pointer (some ⟨n, 1, none⟩))).run Try.prog w = .ok (.agg (pageCells pg).toArray) w := by
  refine run_loadAt_mid w n 1 125 (pageCells pg) _ (fun j v hv => ?_) Try.underlying125 rfl (by rw [pageCells_len hl]; exact z125)
  rw [cell_of_row w n _ _ _ _ h, Nat.add_comm 1 j]
  simp only [List.getElem?_toArray]
  exact hv
theorem zero125 : Try.zeroCells125 = (pageCells page0).toArray := by kernel_rfl
/-- A page stored over another, in a variable of its own. -/
theorem run_store_row {w : World} {n : Nat} {pg q : List UInt8} {t : TypeId} (h : w.heap[n]? = some (.cells (pageCells q).toArray t (0, 0))) (hl : pg.length = 256) (hq : q.length = 256) :
    (Instr.storeAt 125 (.pointer (some ⟨n, 0, none⟩)) (.agg (pageCells pg).toArray)).run Try.prog w = .ok () (w.setRow n (pageCells pg).toArray) := by
  simp only [Instr.storeAt, Instr.sureAddr, Sem.run_bind, Sem.run_pure, Result.andThen_ok]
  exact run_storeVar_row w n t 125 _ _ h (by rw [List.size_toArray, pageCells_len hl]; exact z125) (by simp [pageCells_len hl, pageCells_len hq]) (all_oneCell_toArray pageCells_one)
end Go.Proofs.Ytoaeapnkefjpaaa
