/-
  PLAIN: what the document's Encode refuses at once; its bytes. Conditions: none (plain lemmas).
-/
import Derived.Test.YtnljmllkfmgclaaMpacPW
namespace Go.Proofs.Ytnljmllkfmgclaa
set_option linter.unusedVariables false
set_option linter.unusedSimpArgs false
namespace Mp
/-- What holds of a packet that has bytes. -/
structure Fits (P : Pk) : Prop where
  kind : 1 ≤ P.kind ∧ P.kind ≤ 14
  flags : 0 ≤ P.flags ∧ P.flags ≤ 15
  ok : flagsOk P.kind.toNat P.flags.toNat = true
  name : P.name.length ≤ 16384
  topic : P.topic.length ≤ 16384
  text : P.text.length ≤ 1024
  names : P.names.length ≤ 32
  codes : P.codes.length ≤ 32
  id : 0 ≤ P.id ∧ P.id < 65536
  keep : 0 ≤ P.keep ∧ P.keep < 65536
  code : 0 ≤ P.code ∧ P.code < 256
  nlen : ∀ x ∈ P.names, x.length ≤ 16384
  clen : ∀ c ∈ P.codes, 0 ≤ c ∧ c < 256
theorem fits_of {s : Bs} {P : Pk} {n : Nat} (h : next s = .ok P n) : Fits P := by
  obtain ⟨-, -, -, -, k, f, t, hk, hf, hfl, ht, hj⟩ := next_just h
  have hkk := flagsOk_kind hfl
  have h1 := hj.kind
  have h2 := hj.flags
  have h3 := hj.sum
  refine ⟨by omega, by omega, ?_, by omega, by omega, hj.text, hj.names, hj.codes, hj.id, hj.keep, hj.code, fun x hx => Nat.le_trans (hj.nlen x hx) ht, hj.clen⟩
  rw [h1, h2]
  exact hfl
theorem enc_fits {P : Pk} {b : Bs} (h : enc P = some b) : Fits P := fits_of (enc_some h).2.2
theorem enc_none {P : Pk} (h : ¬ Fits P) : enc P = none := by
  cases he : enc P with
  | none => rfl
  | some b => exact absurd (enc_fits he) h
/-- Bytes behind the head, whatever they are. -/
def wholeL (P : Pk) (l : Bs) : Bs := b1 (16 * P.kind + P.flags) :: (var l.length l.length ++ l)
def encL (P : Pk) (l : Bs) : Option Bs := match next (wholeL P l) with
  | .ok x _ => if same x P = true then some (wholeL P l) else none
  | _ => none
theorem wholeL_rest (P : Pk) : wholeL P (rest P) = whole P := by unfold wholeL whole; rw [Int.mul_comm]
theorem encL_eq {P : Pk} {l : Bs} (hl : Fits P → l = rest P) : encL P l = enc P := by
  cases he : enc P with
  | none =>
    unfold encL
    cases hn : next (wholeL P l) with
    | more => rfl
    | proto => rfl
    | ok x n =>
      simp only
      split
      · rename_i hs
        have hx := (same_iff _ _).1 hs
        subst hx
        have := hl (fits_of hn)
        subst this
        rw [wholeL_rest] at hn
        rw [enc_of hn] at he
        cases he
      · rfl
  | some b =>
    obtain ⟨h1, h2, h3⟩ := enc_some he
    have := hl (enc_fits he)
    subst this h2
    unfold encL
    rw [wholeL_rest, h3]
    simp only
    rw [if_pos ((same_iff P P).2 rfl)]
end Mp
end Go.Proofs.Ytnljmllkfmgclaa
