/-
  Both drums, the program's and the document's, side by side. Conditions: none beyond what each lemma names.
-/
import Derived.Test.YtoaeapnkefjpaaaDoesP
namespace Go.Proofs.Ytoaeapnkefjpaaa
open Go.RowKit
set_option linter.unusedVariables false
set_option linter.unusedSimpArgs false

/-- The program's drum at pd is D, the document's at pm is M; all their blocks are newer than w0, and none is of both. -/
structure Both (w0 : World) (od : Nat → Prop) (pd : Nat) (om : Nat → Prop) (pm : Nat) (D M : DS) (w : World) : Prop where
  d : DrumAt w pd od D
  m : RefAt w pm om M
  fd : ∀ k, od k → w0.heap.size ≤ k
  fm : ∀ k, om k → w0.heap.size ≤ k
  dis : ∀ k, od k → ¬ om k
  below : Below w0.heap.size w0 w
/-- A block that is neither's. -/
def Held (od om : Nat → Prop) (w : World) (b : Nat) (o : Obj) : Prop := w.heap[b]? = some o ∧ ¬ od b ∧ ¬ om b
theorem Held.lt {od om : Nat → Prop} {w : World} {b : Nat} {o : Obj} (h : Held od om w b o) : b < w.heap.size := (Array.getElem?_eq_some_iff.1 h.1).1
theorem Held.cell {od om : Nat → Prop} {w : World} {b : Nat} {cs : Array Value} {t : TypeId} {fr : Nat × Nat} (h : Held od om w b (.cells cs t fr)) (i : Nat) (v : Value) (hv : cs[i]? = some v) : w.cell? ⟨b, i, none⟩ = some v := by rw [cell_of_row _ _ _ _ _ _ h.1]; exact hv
theorem Held.on {od om : Nat → Prop} {w w' : World} {b : Nat} {o : Obj} (h : Held od om w b o) (hb : Below w.heap.size w w') : Held od om w' b o := ⟨(hb.block b h.lt).trans h.1, h.2⟩
section
variable {w0 : World} {od : Nat → Prop} {pd : Nat} {om : Nat → Prop} {pm : Nat} {D M D' M' : DS} {w w' : World}
theorem Both.on (h : Both w0 od pd om pm D M w) (hb : Below w.heap.size w w') : Both w0 od pd om pm D M w' :=
  ⟨h.d.below hb, h.m.below hb, h.fd, h.fm, h.dis, h.below.trans (hb.mono h.below.size)⟩
theorem Both.dstep (h : Both w0 od pd om pm D M w) (hd : Drummed' od pd w D' w') : ∃ od', Both w0 od' pd om pm D' M w' ∧ ∀ b o, Held od om w b o → Held od' om w' b o := by
  obtain ⟨od', h1, h2, h3⟩ := hd
  refine ⟨od', ⟨h1, h.m.mod h3 (fun k hk hk2 => h.dis k hk2 hk), fun k hk => ?_, h.fm, fun k hk hk2 => ?_, h.below.trans (h3.below h.below.size (fun i hi ho => by have := h.fd i ho; omega))⟩, fun b o hb => ?_⟩
  · rcases h2 k hk with hk | hk
    · exact h.fd k hk
    · have := h.below.size; omega
  · rcases h2 k hk with hk | hk
    · exact h.dis k hk hk2
    · have := h.m.lt k hk2; omega
  · refine ⟨(h3.block b hb.lt hb.2.1).trans hb.1, fun hk => ?_, hb.2.2⟩
    rcases h2 b hk with hk | hk
    · exact hb.2.1 hk
    · have := hb.lt; omega
theorem Both.mstep (h : Both w0 od pd om pm D M w) (hd : Reffed' om pm w M' w') : ∃ om', Both w0 od pd om' pm D M' w' ∧ ∀ b o, Held od om w b o → Held od om' w' b o := by
  obtain ⟨om', h1, h2, h3⟩ := hd
  refine ⟨om', ⟨h.d.mod h3 (fun k hk hk2 => h.dis k hk hk2), h1, h.fd, fun k hk => ?_, fun k hk hk2 => ?_, h.below.trans (h3.below h.below.size (fun i hi ho => by have := h.fm i ho; omega))⟩, fun b o hb => ?_⟩
  · rcases h2 k hk with hk | hk
    · exact h.fm k hk
    · have := h.below.size; omega
  · rcases h2 k hk2 with hk2 | hk2
    · exact h.dis k hk hk2
    · have := h.d.lt k hk; omega
  · refine ⟨(h3.block b hb.lt hb.2.2).trans hb.1, hb.2.1, fun hk => ?_⟩
    rcases h2 b hk with hk | hk
    · exact hb.2.2 hk
    · have := hb.lt; omega
theorem Both.new (h : Both w0 od pd om pm D M w) (b : Nat) (hb : w.heap.size ≤ b) : ¬ od b ∧ ¬ om b :=
  ⟨fun hk => by have := h.d.lt b hk; omega, fun hk => by have := h.m.lt b hk; omega⟩
/-- The document's power comes back. -/
theorem RefAt.on (h : RefAt w pm om M) : Reffed' om pm w M.On (w.setCell ⟨pm, 3, none⟩ (.bool true)) := by
  obtain ⟨sv, wv, xv, ss, xs, pb, h⟩ := h
  exact ⟨om, ⟨sv, wv, xv, ss, xs, pb, h.setp 3 (.bool true) M.On h.ok.On rfl rfl rfl⟩, fun _ hk => .inl hk, Mod.set h.op⟩
theorem RefAt.cells (h : RefAt w pm om M) : ∃ as0 cs, w.cell? ⟨pm, 0, none⟩ = some (.slice as0 M.safe.length cs) ∧ w.cell? ⟨pm, 3, none⟩ = some (.bool (!M.off)) ∧ w.cell? ⟨pm, 4, none⟩ = some (I M.ops) ∧ ∀ i, w.frozen? ⟨pm, i, none⟩ = false := by
  obtain ⟨sv, wv, xv, ss, xs, pb, h⟩ := h
  obtain ⟨as0, cs, rfl⟩ := own_form h.hs
  exact ⟨as0, cs, h.c0, h.c3, h.c4, h.fr⟩
end
/-- Both drums are made. -/
theorem both_new {w w1 w2 : World} {p p2 : Nat} {own own2 : Nat → Prop} {D : DS} (h : St w own p D w1) (h1 : RefAt w2 p2 own2 D) (h2 : ∀ k, own2 k → w1.heap.size ≤ k) (h3 : Below w1.heap.size w1 w2) : Both w own p own2 p2 D D w2 :=
  ⟨h.at'.below h3, h1, h.fresh, fun k hk => Nat.le_trans h.below.size (h2 k hk), fun k hk hk2 => by have := h.at'.lt k hk; have := h2 k hk2; omega, h.below.trans (h3.mono h.below.size)⟩
/-- A drum's rows do not grow by much. -/
theorem DS.Off_waits (D : DS) (k : Int) : (D.Off k).waits.length ≤ D.waits.length := by unfold DS.Off; split <;> simp
theorem DS.op_waits (D : DS) : D.op.waits.length ≤ D.waits.length := by
  unfold DS.op
  split
  · split
    · exact DS.Off_waits _ _
    · exact Nat.le_refl _
  · exact Nat.le_refl _
theorem DS.write_waits (D : DS) (a : Int) (l : List UInt8) : (D.write a l).2.waits.length ≤ D.waits.length + 1 := by
  unfold DS.write
  split
  · simp
  · split
    · simp
    · simp only []
      have := DS.op_waits { D with waits := D.waits ++ [(a.toNat, l)] }
      simp only [List.length_append, List.length_cons, List.length_nil] at this
      split <;> simpa using this
theorem DS.Flush_waits (D : DS) : D.Flush.2.waits.length ≤ D.waits.length := by
  unfold DS.Flush
  split
  · exact Nat.le_refl _
  · simp only []
    have := DS.op_waits D
    split
    · exact this
    · simp
theorem Both.drewN {w0 : World} {od : Nat → Prop} {pd : Nat} {om : Nat → Prop} {pm : Nat} {D M : DS} {w : World} (h : Both w0 od pd om pm D M w) (n : Nat) : Both w0 od pd om pm D M (w.drewN n) := h.on ⟨rfl, rfl, rfl, Nat.le_refl _, fun _ _ => rfl⟩
/-- Block b stays. -/
def KeepAt (b : Nat) (w w' : World) : Prop := w'.heap[b]? = w.heap[b]? ∧ w.heap.size ≤ w'.heap.size
theorem KeepAt.refl {b : Nat} (w : World) : KeepAt b w w := ⟨rfl, Nat.le_refl _⟩
theorem KeepAt.trans {b : Nat} (w w' w'' : World) (h : KeepAt b w w') (k : KeepAt b w' w'') : KeepAt b w w'' := ⟨k.1.trans h.1, Nat.le_trans h.2 k.2⟩
end Go.Proofs.Ytoaeapnkefjpaaa
