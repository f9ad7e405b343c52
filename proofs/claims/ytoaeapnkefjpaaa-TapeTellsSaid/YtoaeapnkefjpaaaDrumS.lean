/-
  THE DRUM, PLAIN: what the program's drum and the document's both come to. No program in sight.
  Conditions: none beyond what each lemma names.
-/
import Derived.Test.YtoaeapnkefjpaaaMem
import Derived.RowKit
namespace Go.Proofs.Ytoaeapnkefjpaaa
open Go.RowKit
set_option linter.unusedVariables false
set_option linter.unusedSimpArgs false

/-! ### rows of equally long pieces -/
section
variable {α β : Type} {f : α → List β} {n : Nat}
theorem rows_len : ∀ {L : List α}, (∀ x ∈ L, (f x).length = n) → (L.flatMap f).length = L.length * n
  | [], _ => by simp
  | x :: r, h => by
    rw [List.flatMap_cons, List.length_append, h x (by simp), rows_len (L := r) (fun y hy => h y (by simp [hy])), List.length_cons, Nat.succ_mul]
    omega
theorem rows_get : ∀ {L : List α} {k : Nat} {x : α}, (∀ x ∈ L, (f x).length = n) → L[k]? = some x → ∀ {j : Nat}, j < n → (L.flatMap f)[k * n + j]? = (f x)[j]?
  | [], k, x, _, hk, _, _ => by simp at hk
  | y :: r, 0, x, h, hk, j, hj => by
    simp only [List.getElem?_cons_zero, Option.some.injEq] at hk
    subst hk
    rw [List.flatMap_cons, Nat.zero_mul, Nat.zero_add, List.getElem?_append_left (by rw [h y (by simp)]; exact hj)]
  | y :: r, k + 1, x, h, hk, j, hj => by
    have e := h y (by simp)
    rw [List.flatMap_cons, List.getElem?_append_right (by rw [e, Nat.succ_mul]; omega), e]
    have : (k + 1) * n + j - n = k * n + j := by rw [Nat.succ_mul]; omega
    rw [this]
    exact rows_get (fun z hz => h z (by simp [hz])) (by simpa using hk) hj
theorem rows_patch : ∀ {L : List α} {k : Nat} {x y : α} {vs : List β} {m : Nat}, (∀ x ∈ L, (f x).length = n) → L[k]? = some x → vs.length = m → m ≤ n → f y = vs ++ (f x).drop m →
    (L.flatMap f).take (k * n) ++ vs ++ (L.flatMap f).drop (k * n + m) = (L.set k y).flatMap f
  | [], k, x, y, vs, m, _, hk, _, _, _ => by simp at hk
  | z :: r, 0, x, y, vs, m, h, hk, hv, hm, hy => by
    simp only [List.getElem?_cons_zero, Option.some.injEq] at hk
    subst hk
    have e := h z (by simp)
    rw [List.flatMap_cons, Nat.zero_mul, Nat.zero_add, List.take_zero, List.nil_append, List.drop_append_of_le_length (by omega), List.set_cons_zero, List.flatMap_cons, hy, List.append_assoc]
  | z :: r, k + 1, x, y, vs, m, h, hk, hv, hm, hy => by
    have e := h z (by simp)
    rw [List.set_cons_succ, List.flatMap_cons, List.flatMap_cons, ← rows_patch (fun u hu => h u (by simp [hu])) (by simpa using hk) hv hm hy]
    have e1 : (k + 1) * n = (f z).length + k * n := by rw [Nat.succ_mul, e]; omega
    rw [e1, List.take_append, Nat.add_assoc, List.drop_append]
    have e2 : (f z).length + k * n - (f z).length = k * n := by omega
    have e3 : (f z).length + (k * n + m) - (f z).length = k * n + m := by omega
    rw [e2, e3, List.take_of_length_le (by omega), List.drop_eq_nil_of_le (by omega), List.nil_append]
    simp [List.append_assoc]
end

/-- A page of noughts. -/
def page0 : List UInt8 := List.replicate 256 0
/-- What a drum is. -/
structure DS where
  safe : List (List UInt8)
  waits : List (Nat × List UInt8)
  off : Bool
  ops : Int
  armed : Int
  keep : Int

namespace DS
def inc (x : Int) : Int := wrap64 (x + 1)
def new (n : Nat) : DS := ⟨List.replicate n page0, [], false, 0, 0, 0⟩
/-- How many pages 'New' makes. -/
def clamp (n : Int) : Nat := (min (max n 1) 4096).toNat
/-- How much of a page is kept. -/
def part (k : Int) : Nat := (min (max k 0) 256).toNat
def lay1 (safe : List (List UInt8)) (at' : Nat) (n : Nat) (p : List UInt8) : List (List UInt8) := safe.set at' (p.take n ++ (safe.getD at' []).drop n)
def lay : List (List UInt8) → Int → List (Nat × List UInt8) → List (List UInt8)
  | safe, _, [] => safe
  | safe, k, (a, p) :: r => lay (lay1 safe a (part k) p) (k - part k) r
def rest : Int → List (Nat × List UInt8) → Int
  | k, [] => k
  | k, (_, _) :: r => rest (k - part k) r
def flush : List (List UInt8) → List (Nat × List UInt8) → List (List UInt8)
  | safe, [] => safe
  | safe, (a, p) :: r => flush (safe.set a p) r
def seen : List UInt8 → List (Nat × List UInt8) → Nat → List UInt8
  | pg, [], k => pg
  | pg, (a, p) :: r, k => seen (if a = k then p else pg) r k
def look (safe : List (List UInt8)) (ws : List (Nat × List UInt8)) (k : Nat) : List UInt8 := seen (safe.getD k []) ws k
def Off (D : DS) (k : Int) : DS := if D.off then D else { D with safe := lay D.safe k D.waits, waits := [], off := true, armed := 0 }
def On (D : DS) : DS := { D with off := false }
def Arm (D : DS) (n k : Int) : DS := { D with armed := max n 0, keep := k }
def op (D : DS) : DS :=
  let E := { D with ops := inc D.ops }
  if 0 < D.armed then (if D.armed - 1 = 0 then Off { E with armed := 0 } D.keep else { E with armed := D.armed - 1 }) else E
/-- Are what is handed in a place and a page? -/
def bad (D : DS) (a : Int) (n : Nat) : Bool := decide (a < 0) || decide ((D.safe.length : Int) ≤ a) || decide (n ≠ 256)
def write (D : DS) (a : Int) (p : List UInt8) : Int × DS :=
  if D.bad a p.length then (1, D) else if D.off then (20, D) else
    let E := op { D with waits := D.waits ++ [(a.toNat, p)] }
    if E.off then (20, E) else (0, E)
def Flush (D : DS) : Int × DS :=
  if D.off then (20, D) else
    let E := op D
    if E.off then (20, E) else (0, { E with safe := flush E.safe E.waits, waits := [] })
def read (D : DS) (a : Int) : Int × List UInt8 :=
  if a < 0 ∨ (D.safe.length : Int) ≤ a then (1, []) else if D.off then (20, []) else (0, look D.safe D.waits a.toNat)

/-- A drum as it should be. -/
structure Ok (D : DS) : Prop where
  n1 : 1 ≤ D.safe.length
  n2 : D.safe.length ≤ 4096
  page : ∀ p ∈ D.safe, p.length = 256
  wait : ∀ x ∈ D.waits, x.1 < D.safe.length ∧ x.2.length = 256
  ops : -9223372036854775808 ≤ D.ops ∧ D.ops ≤ 9223372036854775807
  armed : 0 ≤ D.armed ∧ D.armed ≤ 9223372036854775807
  keep : -9223372036854775808 ≤ D.keep ∧ D.keep ≤ 9223372036854775807

theorem part_le (k : Int) : part k ≤ 256 := by unfold part; omega
theorem clamp_le (n : Int) : 1 ≤ clamp n ∧ clamp n ≤ 4096 := by unfold clamp; omega
theorem lay1_len (safe : List (List UInt8)) (a n : Nat) (p : List UInt8) : (lay1 safe a n p).length = safe.length := by simp [lay1]
theorem lay1_page {safe : List (List UInt8)} {a n : Nat} {p : List UInt8} (h : ∀ q ∈ safe, q.length = 256) (ha : a < safe.length) (hp : p.length = 256) (hn : n ≤ 256) : ∀ q ∈ lay1 safe a n p, q.length = 256 := by
  intro q hq
  rcases List.mem_or_eq_of_mem_set hq with hq | rfl
  · exact h q hq
  · have e : safe.getD a [] = safe[a] := by simp [List.getD_eq_getElem?_getD, ha]
    rw [e]
    have := h safe[a] (List.getElem_mem ha)
    simp; omega
theorem lay_len : ∀ (safe : List (List UInt8)) (k : Int) (ws : List (Nat × List UInt8)), (lay safe k ws).length = safe.length
  | safe, _, [] => rfl
  | safe, k, (a, p) :: r => by rw [lay, lay_len, lay1_len]
theorem lay_page : ∀ {safe : List (List UInt8)} {k : Int} {ws : List (Nat × List UInt8)}, (∀ q ∈ safe, q.length = 256) → (∀ x ∈ ws, x.1 < safe.length ∧ x.2.length = 256) → ∀ q ∈ lay safe k ws, q.length = 256
  | safe, _, [], h, _ => h
  | safe, k, (a, p) :: r, h, hw => by
    have h1 := hw (a, p) (by simp)
    rw [lay]
    exact lay_page (lay1_page h h1.1 h1.2 (part_le k)) (fun x hx => by rw [lay1_len]; exact hw x (by simp [hx]))
theorem flush_len : ∀ (safe : List (List UInt8)) (ws : List (Nat × List UInt8)), (flush safe ws).length = safe.length
  | safe, [] => rfl
  | safe, (a, p) :: r => by rw [flush, flush_len, List.length_set]
theorem flush_page : ∀ {safe : List (List UInt8)} {ws : List (Nat × List UInt8)}, (∀ q ∈ safe, q.length = 256) → (∀ x ∈ ws, x.1 < safe.length ∧ x.2.length = 256) → ∀ q ∈ flush safe ws, q.length = 256
  | safe, [], h, _ => h
  | safe, (a, p) :: r, h, hw => by
    have h1 := hw (a, p) (by simp)
    rw [flush]
    refine flush_page (fun q hq => ?_) (fun x hx => by rw [List.length_set]; exact hw x (by simp [hx]))
    rcases List.mem_or_eq_of_mem_set hq with hq | rfl
    · exact h q hq
    · exact h1.2
theorem seen_len : ∀ {pg : List UInt8} {ws : List (Nat × List UInt8)} {k : Nat}, pg.length = 256 → (∀ x ∈ ws, x.2.length = 256) → (seen pg ws k).length = 256
  | pg, [], k, h, _ => h
  | pg, (a, p) :: r, k, h, hw => by
    rw [seen]
    refine seen_len ?_ (fun x hx => hw x (by simp [hx]))
    split
    · exact hw (a, p) (by simp)
    · exact h
theorem safe_len {safe : List (List UInt8)} (h : ∀ q ∈ safe, q.length = 256) {k : Nat} (hk : k < safe.length) : safe[k]? = some (safe.getD k []) ∧ (safe.getD k []).length = 256 := by
  have e : safe.getD k [] = safe[k] := by simp [List.getD_eq_getElem?_getD, hk]
  rw [e]
  exact ⟨List.getElem?_eq_getElem hk, h _ (List.getElem_mem hk)⟩
theorem look_len {safe : List (List UInt8)} {ws : List (Nat × List UInt8)} {k : Nat} (h : ∀ q ∈ safe, q.length = 256) (hw : ∀ x ∈ ws, x.1 < safe.length ∧ x.2.length = 256) (hk : k < safe.length) : (look safe ws k).length = 256 :=
  seen_len (safe_len h hk).2 (fun x hx => (hw x hx).2)
theorem seen_snoc : ∀ (pg : List UInt8) (ws : List (Nat × List UInt8)) (a : Nat) (p : List UInt8) (k : Nat), seen pg (ws ++ [(a, p)]) k = if a = k then p else seen pg ws k
  | pg, [], a, p, k => rfl
  | pg, (b, q) :: r, a, p, k => by rw [List.cons_append, seen, seen_snoc, seen]
theorem inc_range (x : Int) : -9223372036854775808 ≤ inc x ∧ inc x ≤ 9223372036854775807 := by
  unfold inc wrap64
  omega

theorem Ok.new (n : Int) : Ok (new (clamp n)) := by
  have := clamp_le n
  refine ⟨by simp [DS.new]; omega, by simp [DS.new]; omega, fun p hp => ?_, by simp [DS.new], by simp [DS.new], by simp [DS.new], by simp [DS.new]⟩
  simp only [DS.new, List.mem_replicate] at hp
  rw [hp.2]; exact List.length_replicate
theorem Ok.Off {D : DS} (h : Ok D) (k : Int) : Ok (D.Off k) := by
  unfold DS.Off
  split
  · exact h
  · exact ⟨by show 1 ≤ (lay _ _ _).length; rw [lay_len]; exact h.n1, by show (lay _ _ _).length ≤ _; rw [lay_len]; exact h.n2, lay_page h.page h.wait, by simp, h.ops, by simp, h.keep⟩
theorem Ok.On {D : DS} (h : Ok D) : Ok D.On := ⟨h.n1, h.n2, h.page, h.wait, h.ops, h.armed, h.keep⟩
theorem Ok.Arm {D : DS} (h : Ok D) {n k : Int} (hn : n ≤ 9223372036854775807) (hk : -9223372036854775808 ≤ k ∧ k ≤ 9223372036854775807) : Ok (D.Arm n k) :=
  ⟨h.n1, h.n2, h.page, h.wait, h.ops, by show 0 ≤ max n 0 ∧ max n 0 ≤ _; omega, hk⟩
theorem Ok.inc {D : DS} (h : Ok D) : Ok { D with ops := inc D.ops } := ⟨h.n1, h.n2, h.page, h.wait, inc_range _, h.armed, h.keep⟩
theorem Ok.armed' {D : DS} (h : Ok D) {x : Int} (hx : 0 ≤ x ∧ x ≤ 9223372036854775807) : Ok { D with armed := x } := ⟨h.n1, h.n2, h.page, h.wait, h.ops, hx, h.keep⟩
theorem Ok.op {D : DS} (h : Ok D) : Ok D.op := by
  unfold DS.op
  split
  · split
    · exact (h.inc.armed' (x := 0) (by simp)).Off _
    · exact h.inc.armed' (x := D.armed - 1) (by have := h.armed; omega)
  · exact h.inc
theorem Ok.push {D : DS} (h : Ok D) {a : Nat} {p : List UInt8} (ha : a < D.safe.length) (hp : p.length = 256) : Ok { D with waits := D.waits ++ [(a, p)] } :=
  ⟨h.n1, h.n2, h.page, fun x hx => by
    rcases List.mem_append.1 hx with hx | hx
    · exact h.wait x hx
    · obtain rfl := List.mem_singleton.1 hx; exact ⟨ha, hp⟩, h.ops, h.armed, h.keep⟩
theorem Ok.write {D : DS} (h : Ok D) (a : Int) (p : List UInt8) : Ok (D.write a p).2 := by
  unfold DS.write
  split
  · exact h
  · rename_i hb
    simp only [bad, Bool.or_eq_true, decide_eq_true_eq, not_or] at hb
    split
    · exact h
    · have := (h.push (a := a.toNat) (p := p) (by omega) (by omega)).op
      simp only []
      split <;> exact this
theorem Ok.Flush {D : DS} (h : Ok D) : Ok D.Flush.2 := by
  unfold DS.Flush
  split
  · exact h
  · have := h.op
    simp only []
    split
    · exact this
    · exact ⟨by show 1 ≤ (flush _ _).length; rw [flush_len]; exact this.n1, by show (flush _ _).length ≤ _; rw [flush_len]; exact this.n2, flush_page this.page this.wait, by simp, this.ops, this.armed, this.keep⟩
theorem lay_snoc : ∀ (safe : List (List UInt8)) (k : Int) (ws : List (Nat × List UInt8)) (a : Nat) (p : List UInt8), lay safe k (ws ++ [(a, p)]) = lay1 (lay safe k ws) a (part (rest k ws)) p
  | safe, k, [], a, p => rfl
  | safe, k, (b, q) :: r, a, p => by rw [List.cons_append, lay, lay_snoc, lay, rest]
theorem rest_snoc : ∀ (k : Int) (ws : List (Nat × List UInt8)) (a : Nat) (p : List UInt8), rest k (ws ++ [(a, p)]) = rest k ws - part (rest k ws)
  | k, [], a, p => rfl
  | k, (b, q) :: r, a, p => by rw [List.cons_append, rest, rest_snoc, rest]
theorem flush_snoc : ∀ (safe : List (List UInt8)) (ws : List (Nat × List UInt8)) (a : Nat) (p : List UInt8), flush safe (ws ++ [(a, p)]) = (flush safe ws).set a p
  | safe, [], a, p => rfl
  | safe, (b, q) :: r, a, p => by rw [List.cons_append, flush, flush_snoc, flush]
end DS
end Go.Proofs.Ytoaeapnkefjpaaa
