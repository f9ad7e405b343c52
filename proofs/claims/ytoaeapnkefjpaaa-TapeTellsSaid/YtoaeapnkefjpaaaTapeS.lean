/-
  THE TAPE, PLAIN: what the program's tape and the document's both come to. No program in sight.
  Conditions: none beyond what each lemma names.
-/
import Derived.Test.YtoaeapnkefjpaaaDrumS
import Derived.Test.YtoaeapnkefjpaaaSum
namespace Go.Proofs.Ytoaeapnkefjpaaa
open Go.RowKit
set_option linter.unusedVariables false
set_option linter.unusedSimpArgs false

/-- A piece within one row. -/
theorem rows_piece {α β : Type} {f : α → List β} {n : Nat} {L : List α} {k : Nat} {x : α} (h : ∀ x ∈ L, (f x).length = n) (hk : L[k]? = some x) {o m : Nat} (hm : o + m ≤ n) :
    ((L.flatMap f).drop (k * n + o)).take m = ((f x).drop o).take m := by
  apply List.ext_getElem?
  intro j
  rw [List.getElem?_take, List.getElem?_take]
  by_cases hj : j < m
  · rw [if_pos hj, if_pos hj, List.getElem?_drop, List.getElem?_drop]
    have := rows_get h hk (j := o + j) (by omega)
    rw [← this]
    congr 1
    omega
  · rw [if_neg hj, if_neg hj]

/-- What a tape is. -/
structure TS where
  lo : Nat
  hi : Nat
  pos : Nat
  count : Nat
  sick : Int
namespace TS
/-- How many bytes its stretch has. -/
def size (T : TS) : Nat := (T.hi - T.lo) * 256
/-- A tape as it should be, over a drum of n pages. -/
structure Ok (T : TS) (n : Nat) : Prop where
  lt : T.lo < T.hi
  le : T.hi ≤ n
  pos : T.pos ≤ T.size
  count : T.count ≤ T.pos
  sick : -9223372036854775808 ≤ T.sick ∧ T.sick ≤ 9223372036854775807
def size3 (n : Nat) : List UInt8 := [UInt8.ofNat (n / 65536 % 256), UInt8.ofNat (n / 256 % 256), UInt8.ofNat (n % 256)]
theorem size3_len (n : Nat) : (size3 n).length = 3 := rfl
/-- What stands ahead of a record, without its mark. -/
def framed (c : Nat) (r : List UInt8) : List UInt8 := size3 r.length ++ Sum.be8 (Sum.add (Sum.of c (size3 r.length)) r)
theorem framed_len (c : Nat) (r : List UInt8) : (framed c r).length = 11 := by unfold framed; rw [List.length_append, Sum.be8_length]; rfl
/-- The bytes of n pages from lo on. -/
def stretch (D : DS) (lo n : Nat) : List UInt8 := (List.range n).flatMap fun i => DS.look D.safe D.waits (lo + i)
theorem stretch_page {D : DS} (h : D.Ok) {lo n : Nat} (hn : lo + n ≤ D.safe.length) : ∀ i ∈ List.range n, (DS.look D.safe D.waits (lo + i)).length = 256 := fun i hi => DS.look_len h.page h.wait (by have := List.mem_range.1 hi; omega)
theorem stretch_len {D : DS} (h : D.Ok) {lo n : Nat} (hn : lo + n ≤ D.safe.length) : (stretch D lo n).length = n * 256 := by
  unfold stretch
  rw [rows_len (stretch_page h hn), List.length_range]
theorem stretch_piece {D : DS} (h : D.Ok) {lo n : Nat} (hn : lo + n ≤ D.safe.length) {a m : Nat} (ha : a / 256 < n) (hm : a % 256 + m ≤ 256) :
    ((stretch D lo n).drop a).take m = ((DS.look D.safe D.waits (lo + a / 256)).drop (a % 256)).take m := by
  have := rows_piece (stretch_page h hn) (k := a / 256) (x := a / 256) (by rw [List.getElem?_range ha]) (o := a % 256) (m := m) hm
  rw [← this]
  unfold stretch
  congr 2
  omega
/-- What stands at a place. -/
inductive Found where
  | no
  | bad (e : Int)
  | yes (r : List UInt8)
def lenAt (S : List UInt8) (a : Nat) : Nat := (Sum.num ((S.drop (a + 1)).take 3)).toNat
def found (S : List UInt8) (a c : Nat) : Found :=
  if S.length < a + 12 then .no
  else if S.getD a 0 = 0 then .no
  else if S.getD a 0 = 1 ∧ lenAt S a ≤ 65536 ∧ a + 12 + lenAt S a ≤ S.length then
    if framed c ((S.drop (a + 12)).take (lenAt S a)) = (S.drop (a + 1)).take 11 then .yes ((S.drop (a + 12)).take (lenAt S a)) else .bad 12
  else .bad 11
/-- What an opening comes to, from a place on: an error, or the records, the place, the count. -/
def opened (S : List UInt8) : Nat → Nat → Nat → List (List UInt8) → Int × List (List UInt8) × Nat × Nat
  | 0, a, c, acc => (0, acc, a, c)
  | k + 1, a, c, acc => match found S a c with
    | .no => (0, acc, a, c)
    | .bad e => (e, [], 0, 0)
    | .yes r => opened S k (a + 12 + r.length) (c + 1) (acc ++ [r])
theorem lenAt_lt (S : List UInt8) (a : Nat) : lenAt S a < 16777216 := by
  unfold lenAt
  have h := Sum.num_range ((S.drop (a + 1)).take 3)
  have h3 : ((S.drop (a + 1)).take 3).length ≤ 3 := List.length_take_le _ _
  have h4 : (256 : Int) ^ ((S.drop (a + 1)).take 3).length ≤ 256 ^ 3 := by
    generalize ((S.drop (a + 1)).take 3).length = k at *
    have : k = 0 ∨ k = 1 ∨ k = 2 ∨ k = 3 := by omega
    rcases this with rfl | rfl | rfl | rfl <;> decide
  have h5 : (256 : Int) ^ 3 = 16777216 := by decide
  rw [h5] at h4
  omega
theorem found_yes {S : List UInt8} {a c : Nat} {r : List UInt8} (h : found S a c = .yes r) : a + 12 + r.length ≤ S.length ∧ r.length ≤ 65536 ∧ r = (S.drop (a + 12)).take (lenAt S a) ∧ r.length = lenAt S a := by
  unfold found at h
  split at h
  · cases h
  · split at h
    · cases h
    · split at h
      · rename_i h1 h2 h3
        split at h
        · cases h
          have : ((S.drop (a + 12)).take (lenAt S a)).length = lenAt S a := by rw [List.length_take, List.length_drop]; omega
          exact ⟨by omega, by omega, rfl, this⟩
        · cases h
      · cases h

/-! ### laying a record -/
/-- k pages of bytes. -/
def pagesOf (b : List UInt8) (k : Nat) : List (List UInt8) := (List.range k).map fun i => (b.drop (256 * i)).take 256
/-- Pages written one behind the other. -/
def wr : DS → Nat → List (List UInt8) → Int × DS
  | D, _, [] => (0, D)
  | D, a, p :: ps => if (D.write a p).1 = 0 then wr (D.write a p).2 (a + 1) ps else D.write a p
/-- A record's bytes, without the mark, and a nought behind it, if there is room. -/
def body (T : TS) (r : List UInt8) : List UInt8 := 0 :: (framed T.count r ++ r) ++ (if T.pos + (12 + r.length) < T.size then [0] else [])
/-- What bytes make of the pages: those that stand ahead on the first page; noughts behind. -/
def padded (D : DS) (T : TS) (a : Nat) (b : List UInt8) : List UInt8 :=
  let all := ((stretch D T.lo (T.hi - T.lo)).drop (a / 256 * 256)).take (a % 256) ++ b
  all ++ List.replicate ((256 - all.length % 256) % 256) 0
def laid (D : DS) (T : TS) (a : Nat) (b : List UInt8) : Int × DS := wr D (T.lo + a / 256) (pagesOf (padded D T a b) ((padded D T a b).length / 256))
/-- The mark set. -/
def marked (D : DS) (T : TS) : List UInt8 := (DS.look D.safe D.waits (T.lo + T.pos / 256)).set (T.pos % 256) 1
def doIt (D : DS) (T : TS) (r : List UInt8) : Int × DS × TS :=
  if D.off then (20, D, { T with sick := 20 }) else
  let x1 := laid D T T.pos (body T r)
  if x1.1 ≠ 0 then (x1.1, x1.2, { T with sick := x1.1 }) else
  let x2 := x1.2.Flush
  if x2.1 ≠ 0 then (x2.1, x2.2, { T with sick := x2.1 }) else
  let x3 := x2.2.write (T.lo + T.pos / 256 : Nat) (marked x2.2 T)
  if x3.1 ≠ 0 then (x3.1, x3.2, { T with sick := x3.1 }) else
  let x4 := x3.2.Flush
  if x4.1 ≠ 0 then (x4.1, x4.2, { T with sick := x4.1 }) else
  (0, x4.2, { T with pos := T.pos + 12 + r.length, count := T.count + 1 })
def append (D : DS) (T : TS) (r : List UInt8) : Int × DS × TS :=
  if 65536 < r.length then (3, D, T) else if T.sick ≠ 0 then (T.sick, D, T) else if T.size < T.pos + 12 + r.length then (22, D, T) else doIt D T r
end TS
end Go.Proofs.Ytoaeapnkefjpaaa
