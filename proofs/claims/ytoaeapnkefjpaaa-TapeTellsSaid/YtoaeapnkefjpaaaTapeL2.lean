/-
  THE TAPE, PLAIN: a tape that holds some records. No program in sight. Conditions: none beyond what each lemma names.
-/
import Derived.Test.YtoaeapnkefjpaaaTapeL
namespace Go.Proofs.Ytoaeapnkefjpaaa
open Go.RowKit
set_option linter.unusedVariables false
set_option linter.unusedSimpArgs false
namespace TS
/-- The drum's stretch holds these records, and nothing behind. -/
structure On (D : DS) (lo hi : Nat) (recs : List (List UInt8)) : Prop where
  live : Live D
  lt : lo < hi
  le : hi ≤ D.safe.length
  bytes : ∃ rest, stretch D lo (hi - lo) = encs 0 recs ++ rest ∧ Stop rest
  small : ∀ r ∈ recs, r.length ≤ 65536
/-- And the tape knows it. -/
structure Holds (D : DS) (T : TS) (recs : List (List UInt8)) : Prop where
  on : On D T.lo T.hi recs
  ok : T.Ok D.safe.length
  sick : T.sick = 0
  count : T.count = recs.length
  pos : T.pos = (encs 0 recs).length
theorem encs_count : ∀ (recs : List (List UInt8)) (c : Nat), recs.length ≤ (encs c recs).length
  | [], _ => Nat.le_refl _
  | r :: rs, c => by
    have := encs_count rs (c + 1)
    rw [encs, List.length_append, List.length_cons, List.length_cons]
    omega
theorem On.opn {D : DS} {lo hi : Nat} {recs : List (List UInt8)} (h : On D lo hi recs) : opn D lo hi = (0, recs, (encs 0 recs).length, recs.length) := by
  obtain ⟨rest, hb, hs⟩ := h.bytes
  have hl := stretch_len h.live.ok (lo := lo) (n := hi - lo) (by have := h.le; have := h.lt; omega)
  unfold TS.opn
  have h1 : ¬ ((lo : Int) < 0 ∨ (D.safe.length : Int) < (hi : Int) ∨ (hi : Int) ≤ (lo : Int)) := by have := h.le; have := h.lt; omega
  rw [if_neg h1, if_neg (by simp [h.live.on])]
  simp only [Int.toNat_natCast]
  rw [hb]
  have hc := encs_count recs 0
  have := opened_enc recs [] rest 0 ((hi - lo) * 256 + 1) [] hs h.small (by rw [hb, List.length_append] at hl; omega)
  simpa using this
theorem On.holds {D : DS} {lo hi : Nat} {recs : List (List UInt8)} (h : On D lo hi recs) : Holds D ⟨lo, hi, (encs 0 recs).length, recs.length, 0⟩ recs := by
  obtain ⟨rest, hb, hs⟩ := h.bytes
  have hl := stretch_len h.live.ok (lo := lo) (n := hi - lo) (by have := h.le; have := h.lt; omega)
  rw [hb, List.length_append] at hl
  have hc := encs_count recs 0
  exact ⟨h, ⟨h.lt, h.le, by show (encs 0 recs).length ≤ (hi - lo) * 256; omega, hc, by show (-9223372036854775808 : Int) ≤ 0 ∧ (0 : Int) ≤ 9223372036854775807; omega⟩, rfl, rfl, rfl⟩
theorem Holds.append {D : DS} {T : TS} {recs : List (List UInt8)} (h : Holds D T recs) {r : List UInt8} (hr : r.length ≤ 65536) (hs : T.pos + 12 + r.length ≤ T.size) :
    (TS.append D T r).1 = 0 ∧ Holds (TS.append D T r).2.1 (TS.append D T r).2.2 (recs ++ [r]) ∧ (TS.append D T r).2.2.lo = T.lo ∧ (TS.append D T r).2.2.hi = T.hi ∧ (TS.append D T r).2.2.pos = T.pos + 12 + r.length := by
  have e : TS.append D T r = doIt D T r := by
    unfold TS.append
    rw [if_neg (by omega), if_neg (by simp [h.sick]), if_neg (by omega)]
  obtain ⟨h1, h2, h3, h4, rest, h5, h6⟩ := doIt_live h.on.live h.ok hs
  rw [e, h2]
  obtain ⟨rest0, hb, -⟩ := h.on.bytes
  have henc : encs 0 (recs ++ [r]) = encs 0 recs ++ (1 :: (framed recs.length r ++ r)) := by rw [encs_snoc, Nat.zero_add]
  have hp : T.pos + 12 + r.length = (encs 0 (recs ++ [r])).length := by
    rw [henc, List.length_append, ← h.pos, List.length_cons, List.length_append, framed_len]; omega
  refine ⟨h1, ⟨⟨h3, h.on.lt, by rw [h4]; exact h.on.le, ⟨rest, ?_, h6⟩, fun x hx => ?_⟩, ⟨h.ok.lt, by rw [h4]; exact h.ok.le, hs, by have := h.ok.count; show T.count + 1 ≤ T.pos + 12 + r.length; omega, h.ok.sick⟩, h.sick, ?_, hp⟩, rfl, rfl, rfl⟩
  · show stretch (doIt D T r).2.1 T.lo (T.hi - T.lo) = _
    rw [h5, hb, h.pos, List.take_left' rfl, henc, h.count]
  · rcases List.mem_append.1 hx with hx | hx
    · exact h.on.small x hx
    · rw [List.mem_singleton.1 hx]; exact hr
  · show T.count + 1 = _
    rw [List.length_append, h.count]; rfl
theorem Holds.full {D : DS} {T : TS} {recs : List (List UInt8)} (h : Holds D T recs) {r : List UInt8} (hr : r.length ≤ 65536) (hs : T.size < T.pos + 12 + r.length) : TS.append D T r = (22, D, T) := by
  unfold TS.append
  rw [if_neg (by omega), if_neg (by simp [h.sick]), if_pos hs]
/-- A stretch that begins with a nought holds nothing. -/
theorem On.start {D : DS} {lo hi : Nat} (h : Live D) (h1 : lo < hi) (h2 : hi ≤ D.safe.length) (h3 : (DS.look D.safe D.waits lo).head? = some 0) : On D lo hi [] := by
  refine ⟨h, h1, h2, ⟨stretch D lo (hi - lo), rfl, .inr ?_⟩, fun r hr => by simp at hr⟩
  rw [List.head?_eq_getElem?, stretch_get h.ok (by omega) (by omega), Nat.zero_div, Nat.zero_mod, Nat.add_zero, ← List.head?_eq_getElem?]
  exact h3
theorem On.new {n lo hi : Nat} (hn : 1 ≤ n) (hn2 : n ≤ 4096) (h1 : lo < hi) (h2 : hi ≤ n) : On (DS.new n) lo hi [] := by
  have hok : (DS.new n).Ok := by
    have := DS.Ok.new (n : Int)
    have e : DS.clamp (n : Int) = n := by unfold DS.clamp; omega
    rwa [e] at this
  refine On.start ⟨hok, rfl, rfl⟩ h1 (by show hi ≤ (List.replicate n page0).length; rw [List.length_replicate]; exact h2) ?_
  rw [DS.look_new n lo (by omega)]
  rfl
/-- Cleared. -/
theorem On.clear {D : DS} {lo hi : Nat} (h : Live D) (h1 : lo < hi) (h2 : hi ≤ D.safe.length) : (D.write lo page0).1 = 0 ∧ On (D.write lo page0).2 lo hi [] := by
  obtain ⟨a1, a2, a3, a4⟩ := write_live h (a := lo) (by omega) page0_len
  refine ⟨a1, On.start a2 h1 (by rw [a3]; exact h2) ?_⟩
  rw [a4, if_pos rfl]
  rfl
end TS
end Go.Proofs.Ytoaeapnkefjpaaa
