/-
  PLAIN: a packet, how its bytes are read and laid. Conditions: none (definitions and plain lemmas).
-/
import Derived.Test.YtnljmllkfmgclaaMem2
namespace Go.Proofs.Ytnljmllkfmgclaa
set_option linter.unusedVariables false
set_option linter.unusedSimpArgs false

/-- A packet. -/
structure Pk where
  kind : Int
  flags : Int
  id : Int
  code : Int
  name : List UInt8
  text : List UInt8
  keep : Int
  will : Bool
  topic : List UInt8
  clean : Bool
  names : List (List UInt8)
  codes : List Int
/-- The empty one. -/
def Pk.zero : Pk := ⟨0, 0, 0, 0, [], [], 0, false, [], false, [], []⟩
/-- Of a kind, with flags. -/
def Pk.new (k f : Nat) : Pk := ⟨k, f, 0, 0, [], [], 0, false, [], false, [], []⟩
namespace Mp
abbrev Bs := List UInt8
def take (n : Nat) (s : Bs) : Option (Bs × Bs) := if n ≤ s.length then some (s.take n, s.drop n) else none
def byte : Bs → Option (Nat × Bs)
  | [] => none
  | b :: t => some (b.toNat, t)
def short : Bs → Option (Nat × Bs)
  | a :: b :: t => some (a.toNat * 256 + b.toNat, t)
  | _ => none
def text (s : Bs) : Option (Bs × Bs) := (short s).bind fun x => take x.1 x.2
def id (s : Bs) : Option (Nat × Bs) := (short s).bind fun x => if 0 < x.1 then some x else none
/-- May a kind have these flags? -/
def flagsOk (k n : Nat) : Bool :=
  if k = 3 then decide (n / 2 % 4 ≠ 3 ∧ (0 < n / 2 % 4 ∨ n / 8 % 2 = 0))
  else if k = 6 ∨ k = 8 ∨ k = 10 then decide (n = 2)
  else decide (1 ≤ k ∧ k ≤ 14 ∧ n = 0)
def mqtt : Bs := [77, 81, 84, 84]
/-- What a CONNECT has. -/
def connect (p : Pk) (s : Bs) : Option (Pk × Bs) :=
  (text s).bind fun a => if a.1 ≠ mqtt then none else
  (byte a.2).bind fun v => if v.1 ≠ 4 then none else
  (byte v.2).bind fun c =>
    if c.1 % 2 ≠ 0 ∨ 64 ≤ c.1 ∨ c.1 / 8 % 4 = 3 ∨ (c.1 / 4 % 2 = 0 ∧ 8 ≤ c.1) then none else
    (short c.2).bind fun k =>
    (text k.2).bind fun n =>
      let q : Pk := { p with code := c.1, will := decide (c.1 / 4 % 2 = 1), clean := decide (c.1 / 2 % 2 = 1), keep := k.1, name := n.1 }
      if c.1 / 4 % 2 = 1 then
        (text n.2).bind fun t => (text t.2).bind fun x => if 1024 < x.1.length then none else some ({ q with topic := t.1, text := x.1 }, x.2)
      else some (q, n.2)
theorem take_len {n : Nat} {s a t : Bs} (h : take n s = some (a, t)) : s = a ++ t ∧ a.length = n := by
  unfold take at h
  split at h
  · simp only [Option.some.injEq, Prod.mk.injEq] at h
    obtain ⟨rfl, rfl⟩ := h
    exact ⟨(List.take_append_drop _ _).symm, by rw [List.length_take]; omega⟩
  · cases h
theorem byte_len {s t : Bs} {n : Nat} (h : byte s = some (n, t)) : ∃ b : UInt8, s = b :: t ∧ n = b.toNat := by
  cases s with
  | nil => cases h
  | cons b r =>
    simp only [byte, Option.some.injEq, Prod.mk.injEq] at h
    obtain ⟨rfl, rfl⟩ := h
    exact ⟨b, rfl, rfl⟩
theorem short_len {s t : Bs} {n : Nat} (h : short s = some (n, t)) : ∃ a b : UInt8, s = a :: b :: t ∧ n = a.toNat * 256 + b.toNat := by
  match s, h with
  | a :: b :: r, h =>
    simp only [short, Option.some.injEq, Prod.mk.injEq] at h
    obtain ⟨rfl, rfl⟩ := h
    exact ⟨a, b, rfl, rfl⟩
theorem text_len {s x t : Bs} (h : text s = some (x, t)) : ∃ a b : UInt8, s = a :: b :: (x ++ t) ∧ x.length = a.toNat * 256 + b.toNat := by
  unfold text at h
  cases h1 : short s with
  | none => rw [h1] at h; cases h
  | some y =>
    obtain ⟨n, r⟩ := y
    rw [h1] at h
    obtain ⟨a, b, rfl, rfl⟩ := short_len h1
    obtain ⟨rfl, h2⟩ := take_len h
    exact ⟨a, b, rfl, h2⟩
theorem id_len {s t : Bs} {n : Nat} (h : id s = some (n, t)) : ∃ a b : UInt8, s = a :: b :: t ∧ n = a.toNat * 256 + b.toNat ∧ 0 < n := by
  unfold id at h
  cases h1 : short s with
  | none => rw [h1] at h; cases h
  | some y =>
    obtain ⟨m, r⟩ := y
    rw [h1] at h
    simp only [Option.bind_some] at h
    split at h
    · simp only [Option.some.injEq, Prod.mk.injEq] at h
      obtain ⟨rfl, rfl⟩ := h
      obtain ⟨a, b, rfl, rfl⟩ := short_len h1
      exact ⟨a, b, rfl, rfl, by assumption⟩
    · cases h
/-- A name, where names are read. -/
def nameOf (k : Nat) (ns : List Bs) (s : Bs) : Option (List Bs × Bs) := if k ≠ 9 then (text s).bind fun x => some (ns ++ [x.1], x.2) else some (ns, s)
/-- A code, where codes are read. -/
def codeOf (k : Nat) (cs : List Int) (s : Bs) : Option (List Int × Bs) := if k ≠ 10 then (byte s).bind fun x => some (cs ++ [(x.1 : Int)], x.2) else some (cs, s)
theorem item_lt {k : Nat} {ns ns' : List Bs} {cs cs' : List Int} {s s1 s2 : Bs} (h1 : nameOf k ns s = some (ns', s1)) (h2 : codeOf k cs s1 = some (cs', s2)) : s2.length < s.length := by
  unfold nameOf at h1
  unfold codeOf at h2
  split at h1 <;> split at h2
  · cases ht : text s with
    | none => rw [ht] at h1; cases h1
    | some x =>
      obtain ⟨a, b, rfl, -⟩ := text_len ht
      rw [ht] at h1
      simp only [Option.bind_some, Option.some.injEq, Prod.mk.injEq] at h1
      obtain ⟨-, rfl⟩ := h1
      cases hb : byte x.2 with
      | none => rw [hb] at h2; cases h2
      | some y =>
        obtain ⟨n, r⟩ := y
        obtain ⟨b, hx, -⟩ := byte_len hb
        rw [hb] at h2
        simp only [Option.bind_some, Option.some.injEq, Prod.mk.injEq] at h2
        obtain ⟨-, rfl⟩ := h2
        simp only [List.length_cons, List.length_append]
        rw [hx]
        simp only [List.length_cons]
        omega
  · cases ht : text s with
    | none => rw [ht] at h1; cases h1
    | some x =>
      obtain ⟨a, b, rfl, -⟩ := text_len ht
      rw [ht] at h1
      simp only [Option.bind_some, Option.some.injEq, Prod.mk.injEq] at h1 h2
      obtain ⟨-, rfl⟩ := h1
      obtain ⟨-, rfl⟩ := h2
      simp only [List.length_cons, List.length_append]
      omega
  · simp only [Option.some.injEq, Prod.mk.injEq] at h1
    obtain ⟨-, rfl⟩ := h1
    cases hb : byte s with
    | none => rw [hb] at h2; cases h2
    | some y =>
      obtain ⟨n, r⟩ := y
      obtain ⟨b, rfl, -⟩ := byte_len hb
      rw [hb] at h2
      simp only [Option.bind_some, Option.some.injEq, Prod.mk.injEq] at h2
      obtain ⟨-, rfl⟩ := h2
      simp
  · omega
/-- The names and codes that follow. -/
def items (k : Nat) : Nat → List Bs → List Int → Bs → Option (List Bs × List Int)
  | 0, ns, cs, s => if s = [] then some (ns, cs) else none
  | m + 1, ns, cs, s => if s = [] then some (ns, cs) else
    (nameOf k ns s).bind fun a => (codeOf k cs a.2).bind fun b => if a.1.length ≤ 32 ∧ b.1.length ≤ 32 then items k m a.1 b.1 b.2 else none
/-- May a code stand there? -/
def codeOk (k : Nat) (c : Int) : Bool := decide (c ≤ 2 ∨ (k = 9 ∧ c = 128))
/-- What a packet's kind has. -/
def body (k f : Nat) (s : Bs) : Option Pk :=
  let p := Pk.new k f
  if k = 1 then (connect p s).bind fun x => if x.2 = [] then some x.1 else none
  else if k = 2 then
    (byte s).bind fun a => (byte a.2).bind fun c => if a.1 ≤ 1 ∧ c.1 ≤ 5 ∧ c.2 = [] then some { p with keep := a.1, code := c.1 } else none
  else if k = 3 then
    (text s).bind fun a =>
      if 0 < f / 2 % 4 then (id a.2).bind fun i => if i.2.length ≤ 1024 then some { p with topic := a.1, id := i.1, text := i.2 } else none
      else if a.2.length ≤ 1024 then some { p with topic := a.1, text := a.2 } else none
  else if k = 4 ∨ k = 5 ∨ k = 6 ∨ k = 7 ∨ k = 11 then (id s).bind fun i => if i.2 = [] then some { p with id := i.1 } else none
  else if k = 8 ∨ k = 10 ∨ k = 9 then
    (id s).bind fun i => if i.2 = [] then none else (items k i.2.length [] [] i.2).bind fun x =>
      if x.2.all (codeOk k) then some { p with id := i.1, names := x.1, codes := x.2 } else none
  else if s = [] then some p else none
/-- What the bytes behind the first tell of the length. -/
inductive Len where
  | bad
  | short
  | got (n w : Nat)
def len (s : Bs) : Nat → Nat → Nat → Len
  | 0, i, n => .bad
  | m + 1, i, n =>
    match s[i]? with
    | none => .short
    | some c =>
      let n' := n + c.toNat % 128 * 128 ^ i
      if 16384 < n' ∨ (2 ≤ i ∧ 128 ≤ c.toNat) then .bad
      else if c.toNat < 128 then (if i = 0 ∨ c.toNat ≠ 0 then .got n' (i + 1) else .bad)
      else len s m (i + 1) n'
/-- What is answered of bytes. -/
inductive Res where
  | more
  | proto
  | ok (p : Pk) (n : Nat)
def next (s : Bs) : Res :=
  match s with
  | [] => .more
  | h :: t =>
    if flagsOk (h.toNat / 16) (h.toNat % 16) = false then .proto else
    match len t 3 0 0 with
    | .bad => .proto
    | .short => .more
    | .got n w => if s.length < 1 + w + n then .more else
      match body (h.toNat / 16) (h.toNat % 16) ((s.drop (1 + w)).take n) with
      | none => .proto
      | some p => .ok p (1 + w + n)
/-! ### laying -/
def be2 (n : Int) : Bs := [UInt8.ofNat (n / 256 % 256).toNat, UInt8.ofNat (n % 256).toNat]
def b1 (n : Int) : UInt8 := UInt8.ofNat (n % 256).toNat
def put (s : Bs) : Bs := be2 s.length ++ s
def pairs : List Bs → List Int → Bs
  | [], [] => []
  | n :: ns, [] => put n ++ pairs ns []
  | [], c :: cs => b1 c :: pairs [] cs
  | n :: ns, c :: cs => put n ++ b1 c :: pairs ns cs
def rest (p : Pk) : Bs :=
  if p.kind = 1 then put mqtt ++ [4, b1 p.code] ++ be2 p.keep ++ put p.name ++ (if p.will then put p.topic ++ put p.text else [])
  else if p.kind = 2 then [b1 p.keep, b1 p.code]
  else if p.kind = 3 then put p.topic ++ (if 0 < p.flags / 2 % 4 then be2 p.id else []) ++ p.text
  else if p.kind = 4 ∨ p.kind = 5 ∨ p.kind = 6 ∨ p.kind = 7 ∨ p.kind = 11 then be2 p.id
  else if p.kind = 8 ∨ p.kind = 10 ∨ p.kind = 9 then be2 p.id ++ pairs p.names p.codes
  else []
/-- A length's bytes. -/
def var : Nat → Nat → Bs
  | 0, n => [UInt8.ofNat n]
  | m + 1, n => if n ≤ 127 then [UInt8.ofNat n] else UInt8.ofNat (n % 128 + 128) :: var m (n / 128)
/-- All of a packet's bytes. -/
def whole (p : Pk) : Bs := b1 (p.kind * 16 + p.flags) :: (var (rest p).length (rest p).length ++ rest p)
def small (p : Pk) : Bool := decide (1 ≤ p.kind ∧ p.kind ≤ 14 ∧ 0 ≤ p.flags ∧ p.flags ≤ 15 ∧ p.names.length ≤ 32 ∧ p.codes.length ≤ 32 ∧ p.name.length + p.text.length + p.topic.length ≤ 16384)
end Mp
end Go.Proofs.Ytnljmllkfmgclaa
