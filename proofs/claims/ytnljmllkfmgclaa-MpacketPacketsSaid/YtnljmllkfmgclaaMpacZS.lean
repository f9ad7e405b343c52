/-
  PLAIN: the document's reading, step by step, and that it comes to the same. Conditions: none (definitions and plain lemmas).
-/
import Derived.Test.YtnljmllkfmgclaaMpacL
namespace Go.Proofs.Ytnljmllkfmgclaa
set_option linter.unusedVariables false
set_option linter.unusedSimpArgs false
namespace Rp
abbrev Bs := List UInt8
/-- What is left, and whether something wasn't there. -/
abbrev St := Bs × Bool
def take (n : Nat) (r : St) : Bs × St := if r.2 = true ∨ r.1.length < n then ([], (r.1, true)) else (r.1.take n, (r.1.drop n, false))
def val (l : Bs) : Nat := l.foldl (fun x b => x * 256 + b.toNat) 0
def num (n : Nat) (r : St) : Nat × St := (val (take n r).1, (take n r).2)
def text (r : St) : Bs × St := take (num 2 r).1 (num 2 r).2
theorem take_bad (n : Nat) (s : Bs) : take n (s, true) = ([], (s, true)) := by simp [take]
theorem num_bad (n : Nat) (s : Bs) : num n (s, true) = (0, (s, true)) := by simp [num, take_bad, val]
theorem text_bad (s : Bs) : text (s, true) = ([], (s, true)) := by simp [text, num_bad, take_bad]
theorem take_some {n : Nat} {s a t : Bs} (h : Mp.take n s = some (a, t)) : take n (s, false) = (a, (t, false)) := by
  unfold Mp.take at h
  split at h
  · rename_i hn
    simp only [Option.some.injEq, Prod.mk.injEq] at h
    obtain ⟨rfl, rfl⟩ := h
    unfold take
    rw [if_neg (by simp; omega)]
  · cases h
theorem take_none {n : Nat} {s : Bs} (h : Mp.take n s = none) : take n (s, false) = ([], (s, true)) := by
  unfold Mp.take at h
  split at h
  · cases h
  · unfold take
    rw [if_pos (by simp; omega)]
theorem byte_some {s t : Bs} {n : Nat} (h : Mp.byte s = some (n, t)) : num 1 (s, false) = (n, (t, false)) := by
  obtain ⟨b, rfl, rfl⟩ := Mp.byte_len h
  simp [num, take, val]
theorem byte_none {s : Bs} (h : Mp.byte s = none) : num 1 (s, false) = (0, (s, true)) := by
  cases s with
  | nil => simp [num, take, val]
  | cons b t => cases h
theorem short_some {s t : Bs} {n : Nat} (h : Mp.short s = some (n, t)) : num 2 (s, false) = (n, (t, false)) := by
  obtain ⟨a, b, rfl, rfl⟩ := Mp.short_len h
  have hh : take 2 (a :: b :: t, false) = ([a, b], (t, false)) := by
    unfold take
    rw [if_neg (by simp)]
    rfl
  simp [num, hh, val]
theorem short_none {s : Bs} (h : Mp.short s = none) : num 2 (s, false) = (0, (s, true)) := by
  match s, h with
  | [], _ => simp [num, take, val]
  | [b], _ => simp [num, take, val]
  | a :: b :: t, h => cases h
theorem text_some {s x t : Bs} (h : Mp.text s = some (x, t)) : text (s, false) = (x, (t, false)) := by
  unfold Mp.text at h
  cases h1 : Mp.short s with
  | none => rw [h1] at h; cases h
  | some y =>
    rw [h1] at h
    simp only [Option.bind_some] at h
    unfold text
    rw [short_some (n := y.1) (t := y.2) h1]
    exact take_some h
theorem text_none {s : Bs} (h : Mp.text s = none) : ∃ s', text (s, false) = ([], (s', true)) := by
  unfold Mp.text at h
  cases h1 : Mp.short s with
  | none => exact ⟨s, by unfold text; rw [short_none h1]; exact take_bad _ _⟩
  | some y =>
    rw [h1] at h
    simp only [Option.bind_some] at h
    unfold text
    rw [short_some (n := y.1) (t := y.2) h1]
    exact ⟨y.2, take_none h⟩
theorem id_some {s t : Bs} {n : Nat} (h : Mp.id s = some (n, t)) : num 2 (s, false) = (n, (t, false)) ∧ 0 < n := by
  unfold Mp.id at h
  cases h1 : Mp.short s with
  | none => rw [h1] at h; cases h
  | some y =>
    rw [h1] at h
    simp only [Option.bind_some] at h
    split at h
    · simp only [Option.some.injEq] at h
      subst h
      exact ⟨short_some h1, by assumption⟩
    · cases h
theorem id_none {s : Bs} (h : Mp.id s = none) : num 2 (s, false) = (0, (s, true)) ∨ ∃ t, num 2 (s, false) = (0, (t, false)) := by
  unfold Mp.id at h
  cases h1 : Mp.short s with
  | none => exact .inl (short_none h1)
  | some y =>
    rw [h1] at h
    simp only [Option.bind_some] at h
    split at h
    · cases h
    · rename_i h0
      refine .inr ⟨y.2, ?_⟩
      rw [short_some (n := y.1) (t := y.2) h1, show y.1 = 0 by omega]
theorem val_le : ∀ (l : Bs) (x : Nat), l.foldl (fun x b => x * 256 + b.toNat) x < (x + 1) * 256 ^ l.length
  | [], x => by simp
  | b :: t, x => by
    have h := val_le t (x * 256 + b.toNat)
    have hb := b.toNat_lt
    simp only [List.foldl_cons, List.length_cons]
    have h2 : (x * 256 + b.toNat + 1) * 256 ^ t.length ≤ ((x + 1) * 256) * 256 ^ t.length := Nat.mul_le_mul_right _ (by omega)
    rw [Nat.pow_succ, Nat.mul_comm (256 ^ t.length) 256, ← Nat.mul_assoc]
    omega
theorem take_len (n : Nat) (r : St) : (take n r).1.length ≤ n := by
  unfold take
  split
  · simp
  · simp; omega
theorem take_left (n : Nat) (r : St) : (take n r).2.1.length ≤ r.1.length := by
  unfold take
  split
  · simp
  · simp
theorem num_lt1 (r : St) : (num 1 r).1 < 256 := by
  have h := val_le (take 1 r).1 0
  have h2 := take_len 1 r
  have h3 : 256 ^ (take 1 r).1.length ≤ 256 ^ 1 := Nat.pow_le_pow_right (by omega) h2
  show val (take 1 r).1 < 256
  unfold val
  omega
theorem num_lt2 (r : St) : (num 2 r).1 < 65536 := by
  have h := val_le (take 2 r).1 0
  have h2 := take_len 2 r
  have h3 : 256 ^ (take 2 r).1.length ≤ 256 ^ 2 := Nat.pow_le_pow_right (by omega) h2
  show val (take 2 r).1 < 65536
  unfold val
  omega
theorem num_left (n : Nat) (r : St) : (num n r).2.1.length ≤ r.1.length := take_left n r
theorem text_left (r : St) : (text r).2.1.length ≤ r.1.length := Nat.le_trans (take_left _ _) (num_left _ _)
/-! ### kind by kind -/
/-- May a code stand there? -/
def cok (k c : Nat) : Bool := decide (c ≤ 2) || (decide (k = 9) && decide (c = 128))
def ends (p : Pk) (ok : Bool) (r : St) : Pk × Bool := (p, ok && !r.2 && decide (r.1 = []) && decide (p.text.length ≤ 1024))
def ok1 (a : Bs) (v c : Nat) : Bool := decide (v = 4) && decide (a = Mp.mqtt) && decide (c % 2 = 0) && decide (c < 64) && decide (c / 8 % 4 ≠ 3) && (decide (c / 4 % 2 = 1) || decide (c < 8))
def con (f : Nat) (s : Bs) : Pk × Bool :=
  let a := text (s, false)
  let v := num 1 a.2
  let c := num 1 v.2
  let k := num 2 c.2
  let n := text k.2
  let p : Pk := { Pk.new 1 f with code := c.1, will := decide (c.1 / 4 % 2 = 1), clean := decide (c.1 / 2 % 2 = 1), keep := k.1, name := n.1 }
  if c.1 / 4 % 2 = 1 then
    let t := text n.2
    let x := text t.2
    ends { p with topic := t.1, text := x.1 } (ok1 a.1 v.1 c.1) x.2
  else ends p (ok1 a.1 v.1 c.1) n.2
def two (f : Nat) (s : Bs) : Pk × Bool :=
  let a := num 1 (s, false)
  let c := num 1 a.2
  ends { Pk.new 2 f with keep := a.1, code := c.1 } (decide (a.1 < 2) && decide (c.1 < 6)) c.2
def three (f : Nat) (s : Bs) : Pk × Bool :=
  let a := text (s, false)
  if 0 < f / 2 % 4 then
    let i := num 2 a.2
    let x := take i.2.1.length i.2
    ends { Pk.new 3 f with topic := a.1, id := i.1, text := x.1 } (decide (0 < i.1)) x.2
  else
    let x := take a.2.1.length a.2
    ends { Pk.new 3 f with topic := a.1, text := x.1 } true x.2
def four (k f : Nat) (s : Bs) : Pk × Bool :=
  let i := num 2 (s, false)
  ends { Pk.new k f with id := i.1 } (decide (0 < i.1)) i.2
/-- What the loop carries. -/
structure Lp where
  ns : List Bs
  cs : List Int
  ok : Bool
  n : Nat
  r : St
def names (k : Nat) (x : Lp) : Lp := if k ≠ 9 then { x with ns := x.ns ++ [(text x.r).1], r := (text x.r).2 } else x
def codes (k : Nat) (x : Lp) : Lp := if k ≠ 10 then { x with cs := x.cs ++ [((num 1 x.r).1 : Int)], ok := x.ok && cok k (num 1 x.r).1, r := (num 1 x.r).2 } else x
def goes (x : Lp) : Bool := decide (x.r.1 ≠ []) && !x.r.2 && decide (x.n ≤ 32)
def round (k : Nat) (x : Lp) : Lp := codes k (names k { x with n := x.n + 1 })
def loop (k : Nat) : Nat → Lp → Lp
  | 0, x => x
  | m + 1, x => if goes x = true then loop k m (round k x) else x
def eight (k f : Nat) (s : Bs) : Pk × Bool :=
  let i := num 2 (s, false)
  let x := loop k 33 ⟨[], [], true, 0, i.2⟩
  ends { Pk.new k f with id := i.1, names := x.ns, codes := x.cs } (x.ok && decide (0 < i.1) && decide (1 ≤ x.n) && decide (x.n ≤ 32)) x.r
def read (k f : Nat) (s : Bs) : Pk × Bool :=
  if k = 1 then con f s
  else if k = 2 then two f s
  else if k = 3 then three f s
  else if k = 4 ∨ k = 5 ∨ k = 6 ∨ k = 7 ∨ k = 11 then four k f s
  else if k = 8 ∨ k = 10 ∨ k = 9 then eight k f s
  else ends (Pk.new k f) true (s, false)
/-- What Mp.body says, said of a pair. -/
def Agrees (o : Option Pk) (x : Pk × Bool) : Prop := match o with
  | some P => x = (P, true)
  | none => x.2 = false
theorem ends_bad (p : Pk) (ok : Bool) (s : Bs) : (ends p ok (s, true)).2 = false := by simp [ends]
theorem ends_no (p : Pk) (r : St) : (ends p false r).2 = false := by simp [ends]
theorem ends_left (p : Pk) (ok b : Bool) {s : Bs} (h : s ≠ []) : (ends p ok (s, b)).2 = false := by simp [ends, h]
theorem ends_long {p : Pk} (ok : Bool) (r : St) (h : 1024 < p.text.length) : (ends p ok r).2 = false := by
  simp only [ends, Bool.and_eq_false_iff, decide_eq_false_iff_not]
  omega
theorem ends_ok {p : Pk} (h : p.text.length ≤ 1024) : ends p true ([], false) = (p, true) := by simp [ends, h]
theorem four_ok (k f : Nat) (s : Bs) (h : k = 4 ∨ k = 5 ∨ k = 6 ∨ k = 7 ∨ k = 11) : Agrees (Mp.body k f s) (four k f s) := by
  have hb : Mp.body k f s = (Mp.id s).bind fun i => if i.2 = [] then some { Pk.new k f with id := i.1 } else none := by
    unfold Mp.body
    simp only
    rw [if_neg (by omega), if_neg (by omega), if_neg (by omega), if_pos h]
  rw [hb]
  unfold four
  cases hi : Mp.id s with
  | none =>
    rcases id_none hi with h1 | ⟨t, h1⟩
    · rw [h1]; exact ends_bad _ _ _
    · rw [h1]; exact ends_no _ _
  | some i =>
    obtain ⟨h1, h0⟩ := id_some (n := i.1) (t := i.2) hi
    simp only [Option.bind_some, h1]
    by_cases ht : i.2 = []
    · rw [if_pos ht, ht, decide_eq_true h0]
      exact ends_ok (by simp [Pk.new])
    · rw [if_neg ht]
      exact ends_left _ _ _ ht
theorem two_ok (f : Nat) (s : Bs) : Agrees (Mp.body 2 f s) (two f s) := by
  have hb : Mp.body 2 f s = (Mp.byte s).bind fun a => (Mp.byte a.2).bind fun c => if a.1 ≤ 1 ∧ c.1 ≤ 5 ∧ c.2 = [] then some { Pk.new 2 f with keep := a.1, code := c.1 } else none := rfl
  rw [hb]
  unfold two
  cases h1 : Mp.byte s with
  | none => rw [byte_none h1]; simp only [num_bad]; exact ends_bad _ _ _
  | some a =>
    rw [byte_some (n := a.1) (t := a.2) h1]
    simp only [Option.bind_some]
    cases h2 : Mp.byte a.2 with
    | none => rw [byte_none h2]; exact ends_bad _ _ _
    | some c =>
      rw [byte_some (n := c.1) (t := c.2) h2]
      simp only [Option.bind_some]
      by_cases hh : a.1 ≤ 1 ∧ c.1 ≤ 5 ∧ c.2 = []
      · rw [if_pos hh, hh.2.2, decide_eq_true (show a.1 < 2 by omega), decide_eq_true (show c.1 < 6 by omega)]
        exact ends_ok (by simp [Pk.new])
      · rw [if_neg hh]
        by_cases ha : a.1 ≤ 1
        · by_cases hc : c.1 ≤ 5
          · exact ends_left _ _ _ (fun e => hh ⟨ha, hc, e⟩)
          · rw [decide_eq_false (show ¬ c.1 < 6 by omega), Bool.and_false]; exact ends_no _ _
        · rw [decide_eq_false (show ¬ a.1 < 2 by omega), Bool.false_and]; exact ends_no _ _
theorem take_all (s : Bs) : take s.length (s, false) = (s, ([], false)) := by simp [take]
theorem three_ok (f : Nat) (s : Bs) : Agrees (Mp.body 3 f s) (three f s) := by
  have hb : Mp.body 3 f s = (Mp.text s).bind fun a =>
      if 0 < f / 2 % 4 then (Mp.id a.2).bind fun i => if i.2.length ≤ 1024 then some { Pk.new 3 f with topic := a.1, id := i.1, text := i.2 } else none
      else if a.2.length ≤ 1024 then some { Pk.new 3 f with topic := a.1, text := a.2 } else none := rfl
  rw [hb]
  unfold three
  cases h1 : Mp.text s with
  | none =>
    obtain ⟨s', h2⟩ := text_none h1
    rw [h2]
    simp only [num_bad, take_bad]
    split <;> exact ends_bad _ _ _
  | some a =>
    rw [text_some (x := a.1) (t := a.2) h1]
    simp only [Option.bind_some]
    split
    · cases hi : Mp.id a.2 with
      | none =>
        rcases id_none hi with h2 | ⟨t, h2⟩
        · rw [h2]; simp only [take_bad]; exact ends_bad _ _ _
        · rw [h2]; exact ends_no _ _
      | some i =>
        obtain ⟨h2, h0⟩ := id_some (n := i.1) (t := i.2) hi
        simp only [Option.bind_some, h2, take_all]
        by_cases hl : i.2.length ≤ 1024
        · rw [if_pos hl, decide_eq_true h0]; exact ends_ok hl
        · rw [if_neg hl]; exact ends_long _ _ (by simpa using hl)
    · simp only [take_all]
      by_cases hl : a.2.length ≤ 1024
      · rw [if_pos hl]; exact ends_ok hl
      · rw [if_neg hl]; exact ends_long _ _ (by simpa using hl)
theorem con_ok (f : Nat) (s : Bs) : Agrees (Mp.body 1 f s) (con f s) := by
  have hb : Mp.body 1 f s = (Mp.connect (Pk.new 1 f) s).bind fun x => if x.2 = [] then some x.1 else none := rfl
  rw [hb]
  unfold con Mp.connect
  cases h1 : Mp.text s with
  | none =>
    obtain ⟨s', h2⟩ := text_none h1
    rw [h2]
    simp only [num_bad, text_bad]
    split <;> exact ends_bad _ _ _
  | some a =>
    rw [text_some (x := a.1) (t := a.2) h1]
    simp only [Option.bind_some]
    by_cases ha : a.1 = Mp.mqtt
    rotate_left
    · rw [if_pos ha]
      have : ∀ v c, ok1 a.1 v c = false := fun v c => by simp [ok1, ha]
      simp only [this, Option.bind_none]
      split <;> exact ends_no _ _
    rw [if_neg (by simp [ha])]
    cases h2 : Mp.byte a.2 with
    | none =>
      rw [byte_none h2]
      simp only [num_bad, text_bad]
      split <;> exact ends_bad _ _ _
    | some v =>
      rw [byte_some (n := v.1) (t := v.2) h2]
      simp only [Option.bind_some]
      by_cases hv : v.1 = 4
      rotate_left
      · rw [if_pos hv]
        have : ∀ c, ok1 a.1 v.1 c = false := fun c => by simp [ok1, hv]
        simp only [this, Option.bind_none]
        split <;> exact ends_no _ _
      rw [if_neg (by simp [hv])]
      cases h3 : Mp.byte v.2 with
      | none =>
        rw [byte_none h3]
        simp only [num_bad, text_bad]
        split <;> exact ends_bad _ _ _
      | some c =>
        rw [byte_some (n := c.1) (t := c.2) h3]
        simp only [Option.bind_some]
        by_cases hc : c.1 % 2 ≠ 0 ∨ 64 ≤ c.1 ∨ c.1 / 8 % 4 = 3 ∨ (c.1 / 4 % 2 = 0 ∧ 8 ≤ c.1)
        · rw [if_pos hc]
          have : ok1 a.1 v.1 c.1 = false := by
            simp only [ok1, Bool.and_eq_false_iff, Bool.or_eq_false_iff, decide_eq_false_iff_not]
            omega
          simp only [this, Option.bind_none]
          split <;> exact ends_no _ _
        rw [if_neg hc]
        have hok : ok1 a.1 v.1 c.1 = true := by
          simp only [ok1, Bool.and_eq_true, Bool.or_eq_true, decide_eq_true_eq]
          refine ⟨⟨⟨⟨⟨hv, ha⟩, ?_⟩, ?_⟩, ?_⟩, ?_⟩ <;> omega
        simp only [hok]
        cases h4 : Mp.short c.2 with
        | none =>
          rw [short_none h4]
          simp only [text_bad, Option.bind_none]
          split <;> exact ends_bad _ _ _
        | some k =>
          rw [short_some (n := k.1) (t := k.2) h4]
          simp only [Option.bind_some]
          cases h5 : Mp.text k.2 with
          | none =>
            obtain ⟨s', h6⟩ := text_none h5
            rw [h6]
            simp only [text_bad, Option.bind_none]
            split <;> exact ends_bad _ _ _
          | some n =>
            rw [text_some (x := n.1) (t := n.2) h5]
            simp only [Option.bind_some]
            by_cases hw : c.1 / 4 % 2 = 1
            · rw [if_pos hw, if_pos hw]
              cases h6 : Mp.text n.2 with
              | none =>
                obtain ⟨s', h7⟩ := text_none h6
                rw [h7]
                simp only [text_bad, Option.bind_none]
                exact ends_bad _ _ _
              | some t =>
                rw [text_some (x := t.1) (t := t.2) h6]
                simp only [Option.bind_some]
                cases h7 : Mp.text t.2 with
                | none =>
                  obtain ⟨s', h8⟩ := text_none h7
                  rw [h8]
                  simp only [Option.bind_none]
                  exact ends_bad _ _ _
                | some x =>
                  rw [text_some (x := x.1) (t := x.2) h7]
                  simp only [Option.bind_some]
                  by_cases hx : 1024 < x.1.length
                  · rw [if_pos hx]
                    exact ends_long _ _ hx
                  · rw [if_neg hx]
                    simp only [Option.bind_some]
                    by_cases he : x.2 = []
                    · rw [if_pos he, he]; exact ends_ok (by simpa using hx)
                    · rw [if_neg he]; exact ends_left _ _ _ he
            · rw [if_neg hw, if_neg hw]
              simp only [Option.bind_some]
              by_cases he : n.2 = []
              · rw [if_pos he, he]; exact ends_ok (by simp [Pk.new])
              · rw [if_neg he]; exact ends_left _ _ _ he
theorem cok_eq (k c : Nat) : cok k c = Mp.codeOk k (c : Int) := by
  unfold cok Mp.codeOk
  rw [Bool.eq_iff_iff]
  simp only [Bool.or_eq_true, Bool.and_eq_true, decide_eq_true_eq]
  omega
theorem loop_stop {k m : Nat} {x : Lp} (h : goes x = false) : loop k m x = x := by
  cases m with
  | zero => rfl
  | succ m => unfold loop; rw [if_neg (by simp [h])]
/-- Where nothing good comes of the loop. -/
def Spoilt (x : Lp) : Prop := x.r.2 = true ∨ 32 < x.n ∨ x.r.1 ≠ []
theorem names_some {k : Nat} {x : Lp} {s : Bs} {a : List Bs × Bs} (hr : x.r = (s, false)) (h : Mp.nameOf k x.ns s = some a) : names k x = { x with ns := a.1, r := (a.2, false) } := by
  unfold Mp.nameOf at h
  unfold names
  split at h
  · rename_i hk
    rw [if_pos hk]
    cases ht : Mp.text s with
    | none => rw [ht] at h; cases h
    | some y =>
      rw [ht] at h
      simp only [Option.bind_some, Option.some.injEq] at h
      subst h
      rw [hr, text_some (x := y.1) (t := y.2) ht]
  · rename_i hk
    rw [if_neg hk]
    simp only [Option.some.injEq] at h
    subst h
    rw [← hr]
theorem names_none {k : Nat} {x : Lp} {s : Bs} (hr : x.r = (s, false)) (h : Mp.nameOf k x.ns s = none) : (names k x).r.2 = true := by
  unfold Mp.nameOf at h
  unfold names
  split at h
  · rename_i hk
    rw [if_pos hk]
    cases ht : Mp.text s with
    | none =>
      obtain ⟨s', h2⟩ := text_none ht
      rw [hr, h2]
    | some y => rw [ht] at h; cases h
  · cases h
theorem names_n (k : Nat) (x : Lp) : (names k x).n = x.n ∧ (names k x).cs = x.cs ∧ (names k x).ok = x.ok := by
  unfold names
  split <;> exact ⟨rfl, rfl, rfl⟩
theorem codes_n (k : Nat) (x : Lp) : (codes k x).n = x.n ∧ (codes k x).ns = x.ns := by
  unfold codes
  split <;> exact ⟨rfl, rfl⟩
theorem codes_bad {k : Nat} {x : Lp} (h : x.r.2 = true) : (codes k x).r.2 = true := by
  unfold codes
  split
  · have : x.r = (x.r.1, true) := by rw [← h]
    rw [this, num_bad]
  · exact h
theorem codes_some {k : Nat} {x : Lp} {s : Bs} {a : List Int × Bs} (hr : x.r = (s, false)) (h : Mp.codeOf k x.cs s = some a) : ∃ new, a.1 = x.cs ++ new ∧ codes k x = { x with cs := a.1, ok := x.ok && new.all (Mp.codeOk k), r := (a.2, false) } := by
  unfold Mp.codeOf at h
  unfold codes
  split at h
  · rename_i hk
    rw [if_pos hk]
    cases ht : Mp.byte s with
    | none => rw [ht] at h; cases h
    | some y =>
      rw [ht] at h
      simp only [Option.bind_some, Option.some.injEq] at h
      subst h
      refine ⟨[(y.1 : Int)], rfl, ?_⟩
      rw [hr, byte_some (n := y.1) (t := y.2) ht, cok_eq]
      simp
  · rename_i hk
    rw [if_neg hk]
    simp only [Option.some.injEq] at h
    subst h
    refine ⟨[], by simp, ?_⟩
    rw [← hr]
    simp
theorem codes_none {k : Nat} {x : Lp} {s : Bs} (hr : x.r = (s, false)) (h : Mp.codeOf k x.cs s = none) : (codes k x).r.2 = true := by
  unfold Mp.codeOf at h
  unfold codes
  split at h
  · rename_i hk
    rw [if_pos hk]
    cases ht : Mp.byte s with
    | none => rw [hr, byte_none ht]
    | some y => rw [ht] at h; cases h
  · cases h
/-- How many a round has read. -/
def count (k : Nat) (x : Lp) : Prop := (k ≠ 9 → x.ns.length = x.n) ∧ (k ≠ 10 → x.cs.length = x.n) ∧ (k = 9 → x.ns = []) ∧ (k = 10 → x.cs = [])
theorem loop_ok (k : Nat) (hk : k = 8 ∨ k = 10 ∨ k = 9) : ∀ (m q : Nat) (x : Lp) (s : Bs), x.r = (s, false) → s.length ≤ q → x.n ≤ 32 → 33 - x.n ≤ m → count k x →
    match Mp.items k q x.ns x.cs s with
    | some y => ∃ new n, y.2 = x.cs ++ new ∧ loop k m x = ⟨y.1, y.2, x.ok && new.all (Mp.codeOk k), n, ([], false)⟩ ∧ n ≤ 32 ∧ x.n ≤ n ∧ (s ≠ [] → 1 ≤ n)
    | none => Spoilt (loop k m x)
  | 0, q, x, s, hr, hq, hn, hm, hc => by omega
  | m + 1, q, x, s, hr, hq, hn, hm, hc => by
    by_cases h0 : s = []
    · have hit : Mp.items k q x.ns x.cs s = some (x.ns, x.cs) := by
        subst h0
        cases q <;> rfl
      rw [hit]
      have hg : goes x = false := by simp [goes, hr, h0]
      rw [loop_stop hg]
      refine ⟨[], x.n, by simp, ?_, hn, Nat.le_refl _, fun h => absurd h0 h⟩
      obtain ⟨a, b, c, d, e⟩ := x
      simp only at hr
      subst hr h0
      simp
    · obtain ⟨q, rfl⟩ : ∃ q', q = q' + 1 := ⟨q - 1, by have : s.length ≠ 0 := fun e => h0 (List.eq_nil_of_length_eq_zero e); omega⟩
      have hg : goes x = true := by simp [goes, hr, h0, hn]
      have hl : loop k (m + 1) x = loop k m (round k x) := by conv => lhs; unfold loop
                                                              rw [if_pos hg]
      rw [hl]
      unfold Mp.items
      rw [if_neg h0]
      cases h1 : Mp.nameOf k x.ns s with
      | none =>
        simp only [Option.bind_none]
        have hb : (round k x).r.2 = true := codes_bad (names_none (x := { x with n := x.n + 1 }) hr h1)
        rw [loop_stop (by simp [goes, hb])]
        exact .inl hb
      | some a =>
        simp only [Option.bind_some]
        have e1 := names_some (x := { x with n := x.n + 1 }) hr h1
        cases h2 : Mp.codeOf k x.cs a.2 with
        | none =>
          simp only [Option.bind_none]
          have hb : (round k x).r.2 = true := codes_none (x := names k { x with n := x.n + 1 }) (s := a.2) (by rw [e1]) (by rw [e1]; exact h2)
          rw [loop_stop (by simp [goes, hb])]
          exact .inl hb
        | some b =>
          simp only [Option.bind_some]
          obtain ⟨new, hnew, e2⟩ := codes_some (x := names k { x with n := x.n + 1 }) (s := a.2) (a := b) (by rw [e1]) (by rw [e1]; exact h2)
          have hrd : round k x = ⟨a.1, b.1, x.ok && new.all (Mp.codeOk k), x.n + 1, (b.2, false)⟩ := by
            show codes k (names k { x with n := x.n + 1 }) = _
            rw [e2, e1]
          have hnew2 : b.1 = x.cs ++ new := by rw [hnew, e1]
          have hcnt : count k (round k x) := by
            rw [hrd]
            unfold Mp.nameOf at h1
            unfold Mp.codeOf at h2
            refine ⟨fun h9 => ?_, fun h10 => ?_, fun h9 => ?_, fun h10 => ?_⟩
            · rw [if_pos h9] at h1
              cases ht : Mp.text s with
              | none => rw [ht] at h1; cases h1
              | some y =>
                rw [ht] at h1
                simp only [Option.bind_some, Option.some.injEq] at h1
                subst h1
                have := hc.1 h9
                simp [this]
            · rw [if_pos h10] at h2
              cases ht : Mp.byte a.2 with
              | none => rw [ht] at h2; cases h2
              | some y =>
                rw [ht] at h2
                simp only [Option.bind_some, Option.some.injEq] at h2
                subst h2
                have := hc.2.1 h10
                simp [this]
            · rw [if_neg (by simp [h9])] at h1
              simp only [Option.some.injEq] at h1
              subst h1
              exact hc.2.2.1 h9
            · rw [if_neg (by simp [h10])] at h2
              simp only [Option.some.injEq] at h2
              subst h2
              exact hc.2.2.2 h10
          have hlt := Mp.item_lt (ns' := a.1) (s1 := a.2) (cs' := b.1) (s2 := b.2) h1 h2
          by_cases h32 : x.n + 1 ≤ 32
          · have hle : a.1.length ≤ 32 ∧ b.1.length ≤ 32 := by
              obtain ⟨c1, c2, c3, c4⟩ := hcnt
              rw [hrd] at c1 c2 c3 c4
              simp only at c1 c2 c3 c4
              constructor
              · by_cases h9 : k = 9
                · rw [c3 h9]; simp
                · rw [c1 h9]; exact h32
              · by_cases h10 : k = 10
                · rw [c4 h10]; simp
                · rw [c2 h10]; exact h32
            rw [if_pos hle]
            have ih := loop_ok k hk m q (round k x) b.2 (by rw [hrd]) (by omega) (by rw [hrd]; exact h32) (by rw [hrd]; simp only; omega) hcnt
            have en : (round k x).ns = a.1 := by rw [hrd]
            have ec : (round k x).cs = b.1 := by rw [hrd]
            rw [en, ec] at ih
            cases hit : Mp.items k q a.1 b.1 b.2 with
            | none => rw [hit] at ih; exact ih
            | some y =>
              rw [hit] at ih
              obtain ⟨new2, n, i1, i2, i3, i4, i5⟩ := ih
              refine ⟨new ++ new2, n, by rw [i1, hnew2, List.append_assoc], ?_, i3, ?_, fun _ => ?_⟩
              · rw [i2, hrd]
                simp [Bool.and_assoc]
              · rw [hrd] at i4; simp only at i4; omega
              · rw [hrd] at i4; simp only at i4; omega
          · have hle : ¬ (a.1.length ≤ 32 ∧ b.1.length ≤ 32) := by
              obtain ⟨c1, c2, c3, c4⟩ := hcnt
              rw [hrd] at c1 c2 c3 c4
              simp only at c1 c2 c3 c4
              intro hh
              rcases hk with rfl | rfl | rfl
              · have := c1 (by decide); omega
              · have := c1 (by decide); omega
              · have := c2 (by decide); omega
            rw [if_neg hle]
            have hn2 : (round k x).n = x.n + 1 := by rw [hrd]
            rw [loop_stop (by simp [goes, hn2]; omega)]
            exact .inr (.inl (by omega))
theorem eight_ok (k f : Nat) (s : Bs) (hk : k = 8 ∨ k = 10 ∨ k = 9) : Agrees (Mp.body k f s) (eight k f s) := by
  have hb : Mp.body k f s = (Mp.id s).bind fun i => if i.2 = [] then none else (Mp.items k i.2.length [] [] i.2).bind fun x =>
      if x.2.all (Mp.codeOk k) then some { Pk.new k f with id := i.1, names := x.1, codes := x.2 } else none := by
    unfold Mp.body
    simp only
    rw [if_neg (by omega), if_neg (by omega), if_neg (by omega), if_neg (by omega), if_pos hk]
  rw [hb]
  unfold eight
  cases hi : Mp.id s with
  | none =>
    rcases id_none hi with h1 | ⟨t, h1⟩
    · rw [h1]
      simp only [Option.bind_none]
      rw [loop_stop (by simp [goes])]
      exact ends_bad _ _ _
    · rw [h1]
      simp only [Option.bind_none]
      simp [Agrees, ends]
  | some i =>
    obtain ⟨h1, h0⟩ := id_some (n := i.1) (t := i.2) hi
    simp only [Option.bind_some, h1]
    by_cases hs : i.2 = []
    · rw [if_pos hs, hs, loop_stop (by simp [goes])]
      simp [Agrees, ends]
    · rw [if_neg hs]
      have hl := loop_ok k hk 33 i.2.length ⟨[], [], true, 0, (i.2, false)⟩ i.2 rfl (Nat.le_refl _) (by simp) (by simp) ⟨fun _ => rfl, fun _ => rfl, fun _ => rfl, fun _ => rfl⟩
      simp only at hl
      cases hit : Mp.items k i.2.length [] [] i.2 with
      | none =>
        rw [hit] at hl
        simp only [Option.bind_none]
        show (ends _ _ _).2 = false
        generalize loop k 33 ⟨[], [], true, 0, (i.2, false)⟩ = X at hl ⊢
        obtain ⟨a, b, c, d, e1, e2⟩ := X
        unfold Spoilt at hl
        simp only at hl
        rcases hl with h | h | h
        · subst h; exact ends_bad _ _ _
        · rw [decide_eq_false (show ¬ d ≤ 32 by omega), Bool.and_false]
          exact ends_no _ _
        · exact ends_left _ _ _ h
      | some y =>
        rw [hit] at hl
        obtain ⟨new, n, i1, i2, i3, i4, i5⟩ := hl
        simp only [Option.bind_some]
        rw [i2]
        simp only [Bool.true_and, List.nil_append] at i1 ⊢
        have hn := i5 hs
        rw [decide_eq_true h0, decide_eq_true hn, decide_eq_true i3, ← i1]
        by_cases hal : y.2.all (Mp.codeOk k) = true
        · rw [if_pos hal, hal]
          exact ends_ok (by simp [Pk.new])
        · rw [if_neg hal]
          have : y.2.all (Mp.codeOk k) = false := by simpa using hal
          rw [this]
          exact ends_no _ _
theorem read_ok (k f : Nat) (s : Bs) : Agrees (Mp.body k f s) (read k f s) := by
  unfold read
  split
  · rename_i h; subst h; exact con_ok f s
  rename_i h1
  split
  · rename_i h; subst h; exact two_ok f s
  rename_i h2
  split
  · rename_i h; subst h; exact three_ok f s
  rename_i h3
  split
  · rename_i h; exact four_ok k f s h
  rename_i h4
  split
  · rename_i h; exact eight_ok k f s h
  rename_i h5
  have hb : Mp.body k f s = if s = [] then some (Pk.new k f) else none := by
    unfold Mp.body
    simp only
    rw [if_neg h1, if_neg h2, if_neg h3, if_neg h4, if_neg h5]
  rw [hb]
  by_cases hs : s = []
  · rw [if_pos hs, hs]; exact ends_ok (by simp [Pk.new])
  · rw [if_neg hs]; exact ends_left _ _ _ hs
end Rp
end Go.Proofs.Ytnljmllkfmgclaa
