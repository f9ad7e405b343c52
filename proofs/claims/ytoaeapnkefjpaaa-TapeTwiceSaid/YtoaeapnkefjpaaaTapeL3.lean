/-
  THE TAPE, PLAIN: an append touches no page outside the stretch; where it is refused, nothing. No program in sight. Conditions: none beyond what each lemma names.
-/
import Derived.Test.YtoaeapnkefjpaaaTapeL2
namespace Go.Proofs.Ytoaeapnkefjpaaa
open Go.RowKit
set_option linter.unusedVariables false
set_option linter.unusedSimpArgs false
namespace TS
set_option maxRecDepth 100000 in
theorem doIt_out {D : DS} {T : TS} {r : List UInt8} (h : Live D) (hT : T.Ok D.safe.length) (hs : T.pos + 12 + r.length ≤ T.size) :
    ∀ k, k < D.safe.length → k < T.lo ∨ T.hi ≤ k → DS.look (doIt D T r).2.1.safe (doIt D T r).2.1.waits k = DS.look D.safe D.waits k := by
  intro k hk hko
  obtain ⟨t1, t2, t3, t4, -⟩ := hT
  have hsz : T.size = (T.hi - T.lo) * 256 := rfl
  obtain ⟨P, hP⟩ : ∃ P, P = padded D T T.pos (body T r) := ⟨_, rfl⟩
  have hm := padded_len D T T.pos (body T r)
  have hst := stretch_len h.ok (lo := T.lo) (n := T.hi - T.lo) (by omega)
  have hbl := body_len' T r
  have hPl : T.pos / 256 * 256 + P.length ≤ T.size ∧ P.length % 256 = 0 := by
    refine ⟨?_, by rw [hP]; exact hm⟩
    have hl : P.length = T.pos % 256 + (body T r).length + (256 - (T.pos % 256 + (body T r).length) % 256) % 256 := by
      rw [hP]
      unfold padded
      simp only [List.length_append, List.length_replicate, List.length_take, List.length_drop, hst]
      rw [Nat.min_eq_left (by omega)]
    split at hbl <;> omega
  obtain ⟨K, hK⟩ : ∃ K, P.length = K * 256 := ⟨P.length / 256, by omega⟩
  have hpg : ∀ p ∈ pagesOf P K, p.length = 256 := by
    intro p hp
    unfold pagesOf at hp
    rw [List.mem_map] at hp
    obtain ⟨i, hi, rfl⟩ := hp
    rw [List.mem_range] at hi
    have := (page_of P K i hK hi).2
    rwa [Nat.mul_comm i 256] at this
  have hpl : (pagesOf P K).length = K := by unfold pagesOf; simp
  have hlay : layR D T T.pos (body T r) = wr D (T.lo + T.pos / 256) (pagesOf P K) := by
    unfold layR laid
    rw [if_neg (by simp [h.on]), ← hP, hK, Nat.mul_div_cancel _ (by decide)]
  obtain ⟨a1, a2, a3, a4⟩ := wr_live (pagesOf P K) D (T.lo + T.pos / 256) h hpg (by rw [hpl]; omega)
  have a5 := a4 k
  rw [hpl, if_neg (by omega)] at a5
  rw [doIt_eq, hlay]
  clear hlay a4
  generalize wr D (T.lo + T.pos / 256) (pagesOf P K) = X1 at *
  obtain ⟨e1, D1⟩ := X1
  simp only at a1 a2 a3 a5 ⊢
  subst a1
  obtain ⟨f1, f2, f3, f4⟩ := flush_live a2
  have f5 := f4 k (by rw [a3]; exact hk)
  rw [if_neg (by simp)]
  clear f4
  generalize D1.Flush = X2 at *
  obtain ⟨e2, D2⟩ := X2
  simp only at f1 f2 f3 f5 ⊢
  subst f1
  rw [if_neg (by simp)]
  have hs2 : D2.safe.length = D.safe.length := by rw [f3, a3]
  have hml : (marked D2 T).length = 256 := by
    unfold marked
    rw [List.length_set]
    exact DS.look_len f2.ok.page f2.ok.wait (by rw [hs2]; omega)
  obtain ⟨g1, g2, g3, g4⟩ := write_live f2 (a := T.lo + T.pos / 256) (by rw [hs2]; omega) hml
  have g5 := g4 k
  rw [if_neg (by omega)] at g5
  clear g4
  generalize D2.write (T.lo + T.pos / 256 : Nat) (marked D2 T) = X3 at *
  obtain ⟨e3, D3⟩ := X3
  simp only at g1 g2 g3 g5 ⊢
  subst g1
  rw [if_neg (by simp)]
  obtain ⟨k1, k2, k3, k4⟩ := flush_live g2
  have k5 := k4 k (by rw [g3, hs2]; exact hk)
  clear k4
  generalize D3.Flush = X4 at *
  obtain ⟨e4, D4⟩ := X4
  simp only at k1 k2 k3 k5 ⊢
  subst k1
  rw [if_neg (by simp)]
  exact k5.trans (g5.trans (f5.trans a5))
theorem Holds.out {D : DS} {T : TS} {recs : List (List UInt8)} (h : Holds D T recs) {r : List UInt8} (hr : r.length ≤ 65536) (hs : T.pos + 12 + r.length ≤ T.size) :
    ∀ k, k < D.safe.length → k < T.lo ∨ T.hi ≤ k → DS.look (TS.append D T r).2.1.safe (TS.append D T r).2.1.waits k = DS.look D.safe D.waits k := by
  have e : TS.append D T r = doIt D T r := by
    unfold TS.append
    rw [if_neg (by omega), if_neg (by simp [h.sick]), if_neg (by omega)]
  rw [e]
  exact doIt_out h.on.live h.ok hs
end TS
end Go.Proofs.Ytoaeapnkefjpaaa
