/-
  THE TAPE, PLAIN: lengths, codes and waits along its writes. No program in sight.
  Conditions: none beyond what each lemma names.
-/
import Derived.Test.YtoaeapnkefjpaaaTapeP10
namespace Go.Proofs.Ytoaeapnkefjpaaa
open Go.RowKit
set_option linter.unusedVariables false
set_option linter.unusedSimpArgs false

/-- An error's code. -/
def Code1 (c : Int) : Prop := c = 0 ∨ c = 1 ∨ c = 20
theorem Code1.bd {c : Int} (h : Code1 c) : -9223372036854775808 ≤ c ∧ c ≤ 9223372036854775807 := by rcases h with rfl | rfl | rfl <;> decide
theorem DS.Off_len (D : DS) (k : Int) : (D.Off k).safe.length = D.safe.length := by
  unfold DS.Off
  split
  · rfl
  · exact DS.lay_len _ _ _
theorem DS.op_len (D : DS) : D.op.safe.length = D.safe.length := by
  unfold DS.op
  split
  · split
    · exact DS.Off_len _ _
    · rfl
  · rfl
theorem DS.write_len (D : DS) (a : Int) (l : List UInt8) : (D.write a l).2.safe.length = D.safe.length := by
  unfold DS.write
  split
  · rfl
  · split
    · rfl
    · simp only []
      have := DS.op_len { D with waits := D.waits ++ [(a.toNat, l)] }
      split <;> exact this
theorem DS.Flush_len (D : DS) : D.Flush.2.safe.length = D.safe.length := by
  unfold DS.Flush
  split
  · rfl
  · simp only []
    have := DS.op_len D
    split
    · exact this
    · rw [DS.flush_len]; exact this
theorem DS.Flush_waits (D : DS) : D.Flush.2.waits.length ≤ D.waits.length := by
  unfold DS.Flush
  split
  · exact Nat.le_refl _
  · simp only []
    split
    · exact DS.op_waits' D
    · simp
theorem DS.Flush_on {D : DS} (h : D.Flush.1 = 0) : D.Flush.2.off = false := by
  unfold DS.Flush at h ⊢
  split at h
  · cases h
  · rename_i h1
    rw [if_neg h1]
    simp only [] at h ⊢
    split at h
    · cases h
    · rename_i h2
      rw [if_neg h2]
      simpa using h2
theorem DS.write_on' {D : DS} {a : Int} {l : List UInt8} (h : (D.write a l).1 = 0) : (D.write a l).2.off = false := by
  unfold DS.write at h ⊢
  split at h
  · cases h
  · rename_i h0
    rw [if_neg h0]
    split at h
    · cases h
    · rename_i h1
      rw [if_neg h1]
      simp only [] at h ⊢
      split at h
      · cases h
      · rename_i h2
        rw [if_neg h2]
        simpa using h2
theorem DS.write_code (D : DS) (a : Int) (l : List UInt8) : Code1 (D.write a l).1 := by
  unfold DS.write
  split
  · exact .inr (.inl rfl)
  · split
    · exact .inr (.inr rfl)
    · simp only []
      split
      · exact .inr (.inr rfl)
      · exact .inl rfl
theorem DS.Flush_code (D : DS) : Code1 D.Flush.1 := by
  unfold DS.Flush
  split
  · exact .inr (.inr rfl)
  · simp only []
    split
    · exact .inr (.inr rfl)
    · exact .inl rfl
theorem TS.wr_len : ∀ (l : List (List UInt8)) (D : DS) (a : Nat), (TS.wr D a l).2.safe.length = D.safe.length
  | [], _, _ => rfl
  | p :: ps, D, a => by
    rw [TS.wr]
    split
    · rw [TS.wr_len ps, DS.write_len]
    · exact DS.write_len _ _ _
theorem TS.wr_code : ∀ (l : List (List UInt8)) (D : DS) (a : Nat), Code1 (TS.wr D a l).1
  | [], _, _ => .inl rfl
  | p :: ps, D, a => by
    rw [TS.wr]
    split
    · exact TS.wr_code ps _ _
    · exact DS.write_code _ _ _
/-- What lay comes to. -/
def TS.layR (D : DS) (T : TS) (a : Nat) (b : List UInt8) : Int × DS := if D.off then (20, D) else TS.laid D T a b
theorem TS.layR_len (D : DS) (T : TS) (a : Nat) (b : List UInt8) : (TS.layR D T a b).2.safe.length = D.safe.length := by
  unfold TS.layR
  split
  · rfl
  · exact TS.wr_len _ _ _
theorem TS.layR_code (D : DS) (T : TS) (a : Nat) (b : List UInt8) : Code1 (TS.layR D T a b).1 := by
  unfold TS.layR
  split
  · exact .inr (.inr rfl)
  · exact TS.wr_code _ _ _
theorem TS.layR_waits (D : DS) (T : TS) (a : Nat) (b : List UInt8) (hb : b.length ≤ 66000) : (TS.layR D T a b).2.waits.length ≤ D.waits.length + 300 := by
  unfold TS.layR
  split
  · simp
  · unfold TS.laid
    have h := TS.wr_waits (TS.pagesOf (TS.padded D T a b) ((TS.padded D T a b).length / 256)) D (T.lo + a / 256)
    have h2 : (TS.pagesOf (TS.padded D T a b) ((TS.padded D T a b).length / 256)).length = (TS.padded D T a b).length / 256 := by unfold TS.pagesOf; simp
    have h3 : (TS.padded D T a b).length ≤ 67000 := by
      unfold TS.padded
      simp only [List.length_append, List.length_replicate]
      have := List.length_take_le (a % 256) ((TS.stretch D T.lo (T.hi - T.lo)).drop (a / 256 * 256))
      omega
    omega
/-- do, a step at a time. -/
theorem TS.doIt_eq (D : DS) (T : TS) (r : List UInt8) : TS.doIt D T r =
    (let x1 := TS.layR D T T.pos (TS.body T r)
     if x1.1 ≠ 0 then (x1.1, x1.2, { T with sick := x1.1 }) else
     let x2 := x1.2.Flush
     if x2.1 ≠ 0 then (x2.1, x2.2, { T with sick := x2.1 }) else
     let x3 := x2.2.write (T.lo + T.pos / 256 : Nat) (TS.marked x2.2 T)
     if x3.1 ≠ 0 then (x3.1, x3.2, { T with sick := x3.1 }) else
     let x4 := x3.2.Flush
     if x4.1 ≠ 0 then (x4.1, x4.2, { T with sick := x4.1 }) else
     (0, x4.2, { T with pos := T.pos + 12 + r.length, count := T.count + 1 })) := by
  unfold TS.doIt TS.layR
  cases D.off with
  | true => simp
  | false => simp
theorem TS.body_len' (T : TS) (r : List UInt8) : (TS.body T r).length = if T.pos + (12 + r.length) < T.size then 12 + r.length + 1 else 12 + r.length := by
  unfold TS.body
  simp only [List.length_cons, List.length_append, TS.framed_len]
  split <;> simp <;> omega
theorem TS.body_len (T : TS) (r : List UInt8) : 0 < (TS.body T r).length ∧ (TS.body T r).length ≤ 13 + r.length := by
  unfold TS.body
  simp only [List.length_cons, List.length_append, TS.framed_len]
  split <;> simp <;> omega
end Go.Proofs.Ytoaeapnkefjpaaa
