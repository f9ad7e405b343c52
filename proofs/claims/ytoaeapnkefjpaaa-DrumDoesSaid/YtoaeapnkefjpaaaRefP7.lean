/-
  THE DOCUMENT'S DRUM, seventh file: Write in one, New. Conditions: those that each contract names.
-/
import Derived.Test.YtoaeapnkefjpaaaRefP6
namespace Go.Proofs.Ytoaeapnkefjpaaa
open Go.RowKit
set_option linter.unusedVariables false
set_option linter.unusedSimpArgs false

theorem rwrite_any (w : World) (p : Nat) (own : Nat → Prop) (D : DS) (a : Int) (v : Value) (l : List UInt8) (h : RefAt w p own D) (hv : Sees w v l) (ha : -9223372036854775808 ≤ a ∧ a ≤ 9223372036854775807) (hd : ∀ k, v.ownBlock = some k → ¬ own k) (hN : D.waits.length ≤ 1000000000) :
    Calls Try.prog 51 #[.pointer (some ⟨p, 0, none⟩), I a, v] w fun e w' => e = .returned (I (D.write a l).1) ∧ Reffed' own p w (D.write a l).2 w' := by
  have same : Reffed' own p w D w := ⟨own, h, fun _ hk => .inl hk, Mod.refl _ _⟩
  by_cases hb : a < 0 ∨ (D.safe.length : Int) ≤ a ∨ l.length ≠ 256
  · have e : D.bad a l.length = true := by
      unfold DS.bad
      rcases hb with hb | hb | hb <;> simp [hb]
    have e2 : D.write a l = (1, D) := by unfold DS.write; rw [if_pos e]
    rw [e2]
    exact (rwrite_bad w p own D a v l h hv ha hb).mono fun e w' ⟨h1, h2⟩ => ⟨h1, h2 ▸ same⟩
  · have e : ¬ D.bad a l.length = true := by
      unfold DS.bad
      simp only [Bool.or_eq_true, decide_eq_true_eq]
      intro hh; apply hb; rcases hh with (hh | hh) | hh
      · exact .inl hh
      · exact .inr (.inl hh)
      · exact .inr (.inr hh)
    obtain ⟨n, rfl⟩ : ∃ n : Nat, a = n := ⟨a.toNat, by omega⟩
    have hn : n < D.safe.length := by omega
    have hl : l.length = 256 := by omega
    by_cases ho : D.off = true
    · have e2 : D.write n l = (20, D) := by unfold DS.write; rw [if_neg e, if_pos ho]
      rw [e2]
      exact (rwrite_off w p own D n v l h hv hn hl ho).mono fun e w' ⟨h1, h2⟩ => ⟨h1, h2 ▸ same⟩
    · have e2 : D.write n l = (if (DS.op { D with waits := D.waits ++ [(n, l)] }).off then 20 else 0, DS.op { D with waits := D.waits ++ [(n, l)] }) := by
        unfold DS.write
        rw [if_neg e, if_neg ho]
        simp only [Int.toNat_natCast]
        split <;> rfl
      rw [e2]
      exact rwrite_on w p own D n v l h hv hn hl (by simpa using ho) hd hN
/-- While New lays the pages. -/
structure Mk (w0 : World) (j : Nat) (wr : World) : Prop where
  ex : ∃ (sv : Value) (ss : List Value) (pb : Nat → Prop), wr.heap[w0.heap.size]? = some (.cells #[sv, .slice none 0 0, .slice none 0 0, .bool true, I 0, I 0, I 0] 59 (0, 0)) ∧ wr.ownsRow 0 23 1 sv j ss ∧ Pages wr pb ss (List.replicate j page0) ∧
    (∀ k, pb k → w0.heap.size < k ∧ k < wr.heap.size) ∧ (∀ k, sv.ownBlock = some k → w0.heap.size < k ∧ k < wr.heap.size ∧ ¬ pb k)
  below : Below w0.heap.size w0 wr
theorem page_made (w : World) : (Instr.makeSlice 23 (.int .i64 256) (.int .i64 256)).run Try.prog w = .ok (.slice (some ⟨w.heap.size, 0, none⟩) 256 256) (w.alloc (.cells (page0.map B).toArray 5)) := by
  obtain ⟨i5, hi, hz, hs, hb⟩ := info_parts info5'
  have hmk := run_makeSlice (P := Try.prog) w 23 5 i5 _ Try.underlying23 hi hz .i64 .i64 256 256 (by omega) (by omega) (by rw [hs]; decide) (by rw [hb]; decide) (by omega)
  rw [hs] at hmk
  have hcells : madeCells (Value.int .u8 0).cells ((256 : Int).toNat * 1) = (page0.map B).toArray := by kernel_rfl
  rw [hcells] at hmk
  exact hmk
theorem page0_len : page0.length = 256 := List.length_replicate
theorem page0_sees (w : World) : Sees (w.alloc (.cells (page0.map B).toArray 5)) (.slice (some ⟨w.heap.size, 0, none⟩) 256 256) page0 := by
  have := Sees.lit w page0 (0, 0) (by rw [page0_len]; unfold maxLen; omega)
  rw [page0_len] at this
  exact this
set_option maxRecDepth 100000 in
set_option maxHeartbeats 1600000 in
theorem Mk.new {w0 : World} {m : Nat} {w : World} (h : Mk w0 m w) (h1 : 1 ≤ m) (h2 : m ≤ 4096) : ∃ own, RefAt w w0.heap.size own (DS.new m) ∧ ∀ k, own k → w0.heap.size ≤ k := by
  obtain ⟨sv, ss, pb, hp, hs, hP, hb, hv⟩ := h.ex
  have hlt : w0.heap.size < w.heap.size := (Array.getElem?_eq_some_iff.1 hp).1
  have hok : (DS.new m).Ok := by
    have := DS.Ok.new m
    have e : DS.clamp m = m := by unfold DS.clamp; omega
    rwa [e] at this
  refine ⟨fun k => k = w0.heap.size ∨ pb k ∨ sv.ownBlock = some k, ⟨sv, .slice none 0 0, .slice none 0 0, ss, [], pb, hok, .inl rfl, fun e => ?_, fun k hk => .inr (.inl hk), fun k hk => ?_, fun k hk => (by cases hk), fun k hk => (by cases hk), fun k hk => ?_, hp, ?_, World.ownsRow_nil _ _ _ _, World.ownsRow_nil _ _ _ _, hP, Pages.nil _ _⟩, fun k hk => ?_⟩
  · have := (hb _ e).1; omega
  · obtain ⟨a1, a2, a3⟩ := hv k hk
    exact ⟨.inr (.inr hk), by omega, a3, (by intro e; cases e), (by intro e; cases e)⟩
  · rcases hk with rfl | hk | hk
    · exact hlt
    · exact (hb k hk).2
    · exact (hv k hk).2.1
  · have e : (DS.new m).safe.length = m := List.length_replicate
    rw [e]
    exact hs
  · rcases hk with rfl | hk | hk
    · exact Nat.le_refl _
    · have := (hb k hk).1; omega
    · have := (hv k hk).1; omega
end Go.Proofs.Ytoaeapnkefjpaaa
