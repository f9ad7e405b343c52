/-
  THE PROGRAM'S DRUM IN MEMORY: pointer p, pages' block s, the row of what waits wv; the blocks that it owns.
  Conditions: none beyond what each lemma names.
-/
import Derived.Test.YtoaeapnkefjpaaaOps
import Derived.Test.YtoaeapnkefjpaaaDrumS
import Derived.Deep.MidRow
import Derived.Deep.WholeRow
import Derived.Laws.MakeOwn
namespace Go.Proofs.Ytoaeapnkefjpaaa
open Go.RowKit
set_option linter.unusedVariables false
set_option linter.unusedSimpArgs false

abbrev I (n : Int) : Value := .int .i64 n
def pageCells (p : List UInt8) : List Value := p.map B
def waitCells (x : Nat × List UInt8) : List Value := I x.1 :: x.2.map B
theorem pageCells_len {p : List UInt8} (h : p.length = 256) : (pageCells p).length = 256 := by simp [pageCells, h]
theorem waitCells_len {x : Nat × List UInt8} (h : x.2.length = 256) : (waitCells x).length = 257 := by simp [waitCells, h]
theorem pageCells_one {p : List UInt8} : ∀ v ∈ pageCells p, v.oneCell' = true := fun v hv => by obtain ⟨c, _, rfl⟩ := List.mem_map.1 hv; rfl
theorem waitCells_one {x : Nat × List UInt8} : ∀ v ∈ waitCells x, v.oneCell' = true := fun v hv => by
  rcases List.mem_cons.1 hv with rfl | hv
  · rfl
  · obtain ⟨c, _, rfl⟩ := List.mem_map.1 hv; rfl

structure DrumIn (w : World) (p s : Nat) (wv : Value) (own : Nat → Prop) (D : DS) : Prop where
  ok : D.Ok
  op : own p
  os : own s
  ow : ∀ k, wv.ownBlock = some k → own k ∧ k ≠ p ∧ k ≠ s
  ps : p ≠ s
  lt : ∀ k, own k → k < w.heap.size
  hp : w.heap[p]? = some (.cells #[.slice (some ⟨s, 0, none⟩) D.safe.length D.safe.length, wv, .bool D.off, I D.ops, I D.armed, I D.keep] 112 (0, 0))
  hs : w.heap[s]? = some (.cells (D.safe.flatMap pageCells).toArray 125 (0, 0))
  hw : w.ownsRow 0 127 257 wv D.waits.length (D.waits.flatMap waitCells)

/-- The drum at p. -/
def DrumAt (w : World) (p : Nat) (own : Nat → Prop) (D : DS) : Prop := ∃ s wv, DrumIn w p s wv own D

theorem own_mod {w w' : World} {base : Nat} {e : TypeId} {size n : Nat} {v : Value} {xs : List Value} (h : w.ownsRow base e size v n xs) (hb : ∀ k, v.ownBlock = some k → w'.heap[k]? = w.heap[k]?) : w'.ownsRow base e size v n xs := by
  refine ⟨h.1, ?_⟩
  rcases h.2 with h0 | ⟨g, cap, cur, rfl, hbg, hg, r⟩
  · exact .inl h0
  · exact .inr ⟨g, cap, cur, rfl, hbg, (hb g rfl).trans hg, r⟩

theorem DrumIn.keep {w w' : World} {p s : Nat} {wv : Value} {own : Nat → Prop} {D : DS} (h : DrumIn w p s wv own D) (hb : ∀ k, own k → w'.heap[k]? = w.heap[k]?) (hz : w.heap.size ≤ w'.heap.size) : DrumIn w' p s wv own D :=
  ⟨h.ok, h.op, h.os, h.ow, h.ps, fun k hk => Nat.lt_of_lt_of_le (h.lt k hk) hz, (hb _ h.op).trans h.hp, (hb _ h.os).trans h.hs, own_mod h.hw (fun k hk => hb k (h.ow k hk).1)⟩
theorem DrumAt.keep {w w' : World} {p : Nat} {own : Nat → Prop} {D : DS} (h : DrumAt w p own D) (hb : ∀ k, own k → w'.heap[k]? = w.heap[k]?) (hz : w.heap.size ≤ w'.heap.size) : DrumAt w' p own D := by
  obtain ⟨s, wv, h⟩ := h
  exact ⟨s, wv, h.keep hb hz⟩
theorem DrumAt.lt {w : World} {p : Nat} {own : Nat → Prop} {D : DS} (h : DrumAt w p own D) : ∀ k, own k → k < w.heap.size := by
  obtain ⟨s, wv, h⟩ := h
  exact h.lt
theorem DrumAt.ok {w : World} {p : Nat} {own : Nat → Prop} {D : DS} (h : DrumAt w p own D) : D.Ok := by
  obtain ⟨s, wv, h⟩ := h
  exact h.ok
/-- Behind a step that changes others' blocks. -/
theorem DrumAt.mod {w w' : World} {p : Nat} {own own2 : Nat → Prop} {D : DS} (h : DrumAt w p own D) (hm : Mod own2 w w') (hd : ∀ k, own k → ¬ own2 k) : DrumAt w' p own D :=
  h.keep (fun k hk => hm.block k (h.lt k hk) (hd k hk)) hm.size
theorem DrumAt.below {w w' : World} {p : Nat} {own : Nat → Prop} {D : DS} (h : DrumAt w p own D) (hm : Below w.heap.size w w') : DrumAt w' p own D :=
  h.keep (fun k hk => hm.block k (h.lt k hk)) hm.size

/-! ### its cells -/
theorem DrumIn.c0 {w : World} {p s : Nat} {wv : Value} {own : Nat → Prop} {D : DS} (h : DrumIn w p s wv own D) : w.cell? ⟨p, 0, none⟩ = some (.slice (some ⟨s, 0, none⟩) D.safe.length D.safe.length) := by rw [cell_of_row w p _ _ _ _ h.hp]; rfl
theorem DrumIn.c1 {w : World} {p s : Nat} {wv : Value} {own : Nat → Prop} {D : DS} (h : DrumIn w p s wv own D) : w.cell? ⟨p, 1, none⟩ = some wv := by rw [cell_of_row w p _ _ _ _ h.hp]; rfl
theorem DrumIn.c2 {w : World} {p s : Nat} {wv : Value} {own : Nat → Prop} {D : DS} (h : DrumIn w p s wv own D) : w.cell? ⟨p, 2, none⟩ = some (.bool D.off) := by rw [cell_of_row w p _ _ _ _ h.hp]; rfl
theorem DrumIn.c3 {w : World} {p s : Nat} {wv : Value} {own : Nat → Prop} {D : DS} (h : DrumIn w p s wv own D) : w.cell? ⟨p, 3, none⟩ = some (I D.ops) := by rw [cell_of_row w p _ _ _ _ h.hp]; rfl
theorem DrumIn.c4 {w : World} {p s : Nat} {wv : Value} {own : Nat → Prop} {D : DS} (h : DrumIn w p s wv own D) : w.cell? ⟨p, 4, none⟩ = some (I D.armed) := by rw [cell_of_row w p _ _ _ _ h.hp]; rfl
theorem DrumIn.c5 {w : World} {p s : Nat} {wv : Value} {own : Nat → Prop} {D : DS} (h : DrumIn w p s wv own D) : w.cell? ⟨p, 5, none⟩ = some (I D.keep) := by rw [cell_of_row w p _ _ _ _ h.hp]; rfl
theorem frozen_row {w : World} {p : Nat} {cs : Array Value} {t : TypeId} (h : w.heap[p]? = some (.cells cs t (0, 0))) (i : Nat) : w.frozen? ⟨p, i, none⟩ = false := by simp [World.frozen?, h]
theorem DrumIn.fr {w : World} {p s : Nat} {wv : Value} {own : Nat → Prop} {D : DS} (h : DrumIn w p s wv own D) : ∀ i, w.frozen? ⟨p, i, none⟩ = false := frozen_row h.hp

/-! ### its fields set -/
theorem DrumIn.setp {w : World} {p s : Nat} {wv : Value} {own : Nat → Prop} {D : DS} (h : DrumIn w p s wv own D) (i : Nat) (u : Value) (D' : DS) (wv' : Value) (hok : D'.Ok) (hsafe : D'.safe = D.safe)
    (hc : (#[.slice (some ⟨s, 0, none⟩) D.safe.length D.safe.length, wv, .bool D.off, I D.ops, I D.armed, I D.keep] : Array Value).setIfInBounds i u = #[.slice (some ⟨s, 0, none⟩) D.safe.length D.safe.length, wv', .bool D'.off, I D'.ops, I D'.armed, I D'.keep])
    (hw : (wv' = wv ∧ D'.waits = D.waits) ∨ (wv' = .slice none 0 0 ∧ D'.waits = [])) : DrumIn (w.setCell ⟨p, i, none⟩ u) p s wv' own D' := by
  have hother : ∀ k, k ≠ p → (w.setCell ⟨p, i, none⟩ u).heap[k]? = w.heap[k]? := fun k hk => heap_setCell_other w ⟨p, i, none⟩ k u hk
  refine ⟨hok, h.op, h.os, ?_, h.ps, fun k hk => by simpa using h.lt k hk, ?_, ?_, ?_⟩
  · rcases hw with ⟨rfl, _⟩ | ⟨rfl, _⟩
    · exact h.ow
    · intro k hk; cases hk
  · rw [heap_setCell_same w p i _ _ u h.hp, hc, hsafe]
  · rw [hother _ (Ne.symm h.ps), hsafe]; exact h.hs
  · rcases hw with ⟨rfl, e⟩ | ⟨rfl, e⟩
    · rw [e]; exact own_setCell_other h.hw (fun hk => (h.ow _ hk).2.1 rfl) u
    · rw [e]; exact World.ownsRow_nil _ _ _ _
theorem Mod.set {own : Nat → Prop} {w : World} {a : Addr} {u : Value} (h : own a.block) : Mod own w (w.setCell a u) :=
  ⟨rfl, rfl, rfl, by simp, fun k _ hk => heap_setCell_other w a k u (fun e => hk (e ▸ h))⟩
theorem Mod.setRow {own : Nat → Prop} {w : World} {g : Nat} {cs : Array Value} (h : own g) : Mod own w (w.setRow g cs) :=
  ⟨rfl, rfl, rfl, by simp, fun k _ hk => setRow_other w g k cs (fun e => hk (e ▸ h))⟩
theorem Mod.alloc {own : Nat → Prop} {w : World} (o : Obj) : Mod own w (w.alloc o) := Mod.of_below own ((Below.refl _ _).alloc (Nat.le_refl _) o)

theorem Mod.drew {own : Nat → Prop} (w : World) : Mod own w w.drew := ⟨rfl, rfl, rfl, Nat.le_refl _, fun _ _ _ => rfl⟩

theorem z125 : (Try.prog.info? 125).map (·.size) = some 256 := by kernel_rfl
theorem z127 : (Try.prog.info? 127).map (·.size) = some 257 := by kernel_rfl
theorem z5 : (Try.prog.info? 5).map (·.size) = some 1 := by kernel_rfl

/-- A page out of the pages' block. -/
theorem run_load_page {w : World} {s : Nat} {safe : List (List UInt8)} {t : TypeId} (hs : w.heap[s]? = some (.cells (safe.flatMap pageCells).toArray t (0, 0))) (hp : ∀ q ∈ safe, q.length = 256) {k : Nat} {pg : List UInt8} (hk : safe[k]? = some pg) :
    (Instr.loadAt 125 (.pointer (some ⟨s, k * 256, none⟩))).run Try.prog w = .ok (.agg (pageCells pg).toArray) w := by
  have hl := hp pg (List.mem_of_getElem? hk)
  refine run_loadAt_mid w s (k * 256) 125 (pageCells pg) _ (fun j v hv => ?_) Try.underlying125 rfl (by rw [pageCells_len hl]; exact z125)
  have hj : j < 256 := by have := (List.getElem?_eq_some_iff.1 hv).1; rwa [pageCells_len hl] at this
  rw [cell_of_row w s _ _ _ _ hs]
  simp only [List.getElem?_toArray]
  rw [rows_get (fun q hq => pageCells_len (hp q hq)) hk hj, hv]
theorem wait_cell {w : World} {g n cap : Nat} {ws : List (Nat × List UInt8)} (h : w.ownsRow 0 127 257 (.slice (some ⟨g, 0, none⟩) n cap) n (ws.flatMap waitCells)) (hp : ∀ x ∈ ws, x.2.length = 256) {i : Nat} {x : Nat × List UInt8} (hi : ws[i]? = some x) : w.rangeAt g (i * 257) (waitCells x) := by
  intro j v hv
  have hl := hp x (List.mem_of_getElem? hi)
  have hj : j < 257 := by have := (List.getElem?_eq_some_iff.1 hv).1; rwa [waitCells_len hl] at this
  exact own_cell h (by rw [rows_get (fun q hq => waitCells_len (hp q hq)) hi hj, hv])
/-- What waits, out of its row. -/
theorem run_load_wait {w : World} {g n cap : Nat} {ws : List (Nat × List UInt8)} (h : w.ownsRow 0 127 257 (.slice (some ⟨g, 0, none⟩) n cap) n (ws.flatMap waitCells)) (hp : ∀ x ∈ ws, x.2.length = 256) {i : Nat} {x : Nat × List UInt8} (hi : ws[i]? = some x) :
    (Instr.loadAt 127 (.pointer (some ⟨g, i * 257, none⟩))).run Try.prog w = .ok (.agg (waitCells x).toArray) w :=
  run_loadAt_mid w g (i * 257) 127 (waitCells x) _ (wait_cell h hp hi) Try.underlying127 rfl (by rw [waitCells_len (hp x (List.mem_of_getElem? hi))]; exact z127)
/-- page[:m] of an array of 256 bytes. -/
theorem run_sl_arr (b o m : Nat) (h : m ≤ 256) (w : World) : (Instr.sliceAt 125 (.pointer (some ⟨b, o, none⟩)) none (some (.int .i64 m)) none).run Try.prog w = .ok (.slice (some ⟨b, o, none⟩) m 256) w := by
  obtain ⟨i5, hi5, -, hs, -⟩ := info_parts info5'
  have h2 : (m : Int) ≤ 256 := by omega
  simp [Instr.sliceAt, Instr.sureAddr, Instr.sliceBounds, Instr.sliceBound, run_underlying Try.underlying125, sizeOf, typeInfo, hi5, hs, asIntOf, h2, h, Nat.not_lt.2 h, add_off]
theorem run_sl_arr_all (b o : Nat) (w : World) : (Instr.sliceAt 125 (.pointer (some ⟨b, o, none⟩)) none none none).run Try.prog w = .ok (.slice (some ⟨b, o, none⟩) 256 256) w := by
  obtain ⟨i5, hi5, -, hs, -⟩ := info_parts info5'
  simp [Instr.sliceAt, Instr.sureAddr, Instr.sliceBounds, Instr.sliceBound, run_underlying Try.underlying125, sizeOf, typeInfo, hi5, hs, asIntOf, add_off]
end Go.Proofs.Ytoaeapnkefjpaaa
