/-
  THE SUMS OF LAYER 2, IN PLAIN LEAN: two polynomial rests by the prime 2^31 - 1 over the bytes of a list. No program in sight.
  Conditions: none beyond what each lemma names.
-/
import Derived.Laws.BitsAllLaws
namespace Go.Proofs.Ytoaeapnkefjpaaa.Sum

theorem snoc_ind {α : Type} {P : List α → Prop} (h0 : P []) (h1 : ∀ a c, P a → P (a ++ [c])) (l : List α) : P l := by
  have : ∀ n (l : List α), l.length = n → P l := by
    intro n
    induction n with
    | zero => intro l hl; rw [List.eq_nil_of_length_eq_zero hl]; exact h0
    | succ n ih =>
      intro l hl
      have hne : l ≠ [] := by intro h; rw [h] at hl; simp at hl
      rw [← List.dropLast_concat_getLast hne]
      exact h1 _ _ (ih _ (by simp; omega))
  exact this _ l rfl
/-- One byte more. -/
def st (m x : Int) (c : UInt8) : Int := (m * x + (c.toNat : Int) + 1) % 2147483647
def hash (m x : Int) (l : List UInt8) : Int := l.foldl (st m) x
/-- The number that two halves make. -/
def fin (x y : Int) : Int := x * 2147483648 + y
def lo (s : Int) : Int := s % 2147483648 % 2147483647
def hi (s : Int) : Int := s / 2147483648 % 2147483648 % 2147483647
def add (s : Int) (l : List UInt8) : Int := fin (hash 257 (hi s) l) (hash 65599 (lo s) l)
def rest (seed : Int) : Int := seed % 2147483647
def start (seed : Int) : Int := fin (rest seed) ((rest seed + 1) % 2147483647)
def of (seed : Int) (l : List UInt8) : Int := add (start seed) l

theorem byte_lt (c : UInt8) : (c.toNat : Int) < 256 := by have := c.toNat_lt; omega

theorem st_range (m x : Int) (c : UInt8) : 0 ≤ st m x c ∧ st m x c < 2147483647 := by unfold st; omega
theorem hash_range (m : Int) (l : List UInt8) : ∀ x, 0 ≤ x → x < 2147483647 → 0 ≤ hash m x l ∧ hash m x l < 2147483647 := by
  induction l with
  | nil => intro x h0 h1; exact ⟨h0, h1⟩
  | cons c l ih => intro x _ _; exact ih _ (st_range m x c).1 (st_range m x c).2
theorem hash_nil (m x : Int) : hash m x [] = x := rfl
theorem hash_cons (m x : Int) (c : UInt8) (l : List UInt8) : hash m x (c :: l) = hash m (st m x c) l := rfl
theorem hash_append (m x : Int) (a b : List UInt8) : hash m x (a ++ b) = hash m (hash m x a) b := by simp [hash, List.foldl_append]
theorem hash_snoc (m x : Int) (a : List UInt8) (c : UInt8) : hash m x (a ++ [c]) = st m (hash m x a) c := by rw [hash_append]; rfl

theorem fin_inj {x y x' y' : Int} (h0 : 0 ≤ y) (h1 : y < 2147483648) (h2 : 0 ≤ y') (h3 : y' < 2147483648) (h : fin x y = fin x' y') : x = x' ∧ y = y' := by
  unfold fin at h; omega
theorem fin_range {x y : Int} (h0 : 0 ≤ x) (h1 : x < 2147483647) (h2 : 0 ≤ y) (h3 : y < 2147483647) : 0 ≤ fin x y ∧ fin x y < 4611686018427387904 := by
  unfold fin; omega
theorem hi_fin {x y : Int} (h0 : 0 ≤ x) (h1 : x < 2147483647) (h2 : 0 ≤ y) (h3 : y < 2147483647) : hi (fin x y) = x := by unfold hi fin; omega
theorem lo_fin {x y : Int} (h2 : 0 ≤ y) (h3 : y < 2147483647) : lo (fin x y) = y := by unfold lo fin; omega
theorem hi_range (s : Int) : 0 ≤ hi s ∧ hi s < 2147483647 := by unfold hi; omega
theorem lo_range (s : Int) : 0 ≤ lo s ∧ lo s < 2147483647 := by unfold lo; omega
theorem add_range (s : Int) (l : List UInt8) : 0 ≤ add s l ∧ add s l < 4611686018427387904 := by
  have a := hash_range 257 l (hi s) (hi_range s).1 (hi_range s).2
  have b := hash_range 65599 l (lo s) (lo_range s).1 (lo_range s).2
  exact fin_range a.1 a.2 b.1 b.2
theorem rest_range (s : Int) : 0 ≤ rest s ∧ rest s < 2147483647 := by unfold rest; omega
theorem start_range (s : Int) : 0 ≤ start s ∧ start s < 4611686018427387904 := by
  have a := rest_range s
  exact fin_range a.1 a.2 (by omega) (by omega)
theorem hi_start (s : Int) : hi (start s) = rest s := by
  have a := rest_range s
  exact hi_fin a.1 a.2 (by omega) (by omega)
theorem lo_start (s : Int) : lo (start s) = (rest s + 1) % 2147483647 := lo_fin (by omega) (by omega)

theorem hi_add (s : Int) (l : List UInt8) : hi (add s l) = hash 257 (hi s) l := by
  have a := hash_range 257 l (hi s) (hi_range s).1 (hi_range s).2
  have b := hash_range 65599 l (lo s) (lo_range s).1 (lo_range s).2
  exact hi_fin a.1 a.2 b.1 b.2
theorem lo_add (s : Int) (l : List UInt8) : lo (add s l) = hash 65599 (lo s) l := by
  have b := hash_range 65599 l (lo s) (lo_range s).1 (lo_range s).2
  exact lo_fin b.1 b.2
theorem add_append (s : Int) (a b : List UInt8) : add s (a ++ b) = add (add s a) b := by
  unfold add
  rw [show hi (fin (hash 257 (hi s) a) (hash 65599 (lo s) a)) = hash 257 (hi s) a from hi_add s a, show lo (fin (hash 257 (hi s) a) (hash 65599 (lo s) a)) = hash 65599 (lo s) a from lo_add s a, hash_append, hash_append]

/-! ### From unlike starts unlike sums -/
theorem st_inj257 {x y : Int} {c : UInt8} (hx : 0 ≤ x) (hx1 : x < 2147483647) (hy : 0 ≤ y) (hy1 : y < 2147483647) (h : st 257 x c = st 257 y c) : x = y := by unfold st at h; omega
theorem st_injR {x y : Int} {c : UInt8} (hx : 0 ≤ x) (hx1 : x < 2147483647) (hy : 0 ≤ y) (hy1 : y < 2147483647) (h : st 65599 x c = st 65599 y c) : x = y := by unfold st at h; omega
theorem hash_inj257 (l : List UInt8) : ∀ {x y : Int}, 0 ≤ x → x < 2147483647 → 0 ≤ y → y < 2147483647 → hash 257 x l = hash 257 y l → x = y := by
  induction l with
  | nil => intro x y _ _ _ _ h; exact h
  | cons c l ih =>
    intro x y hx hx1 hy hy1 h
    exact st_inj257 hx hx1 hy hy1 (ih (st_range 257 x c).1 (st_range 257 x c).2 (st_range 257 y c).1 (st_range 257 y c).2 h)
theorem hash_injR (l : List UInt8) : ∀ {x y : Int}, 0 ≤ x → x < 2147483647 → 0 ≤ y → y < 2147483647 → hash 65599 x l = hash 65599 y l → x = y := by
  induction l with
  | nil => intro x y _ _ _ _ h; exact h
  | cons c l ih =>
    intro x y hx hx1 hy hy1 h
    exact st_injR hx hx1 hy hy1 (ih (st_range 65599 x c).1 (st_range 65599 x c).2 (st_range 65599 y c).1 (st_range 65599 y c).2 h)

/-! ### One byte changed -/
theorem st_byte {m x : Int} {c d : UInt8} (h : st m x c = st m x d) : c = d := by
  have h1 := byte_lt c
  have h2 := byte_lt d
  unfold st at h
  have : (c.toNat : Int) = d.toNat := by generalize m * x = t at h; omega
  exact UInt8.toNat_inj.1 (by omega)
theorem tells257 (x : Int) (_ : 0 ≤ x) (_ : x < 2147483647) (a t : List UInt8) (c d : UInt8) (hcd : c ≠ d) : hash 257 x (a ++ c :: t) ≠ hash 257 x (a ++ d :: t) := by
  intro h
  rw [hash_append, hash_append, hash_cons, hash_cons] at h
  exact hcd (st_byte (hash_inj257 t (st_range _ _ _).1 (st_range _ _ _).2 (st_range _ _ _).1 (st_range _ _ _).2 h))
theorem tellsR (x : Int) (a t : List UInt8) (c d : UInt8) (hcd : c ≠ d) : hash 65599 x (a ++ c :: t) ≠ hash 65599 x (a ++ d :: t) := by
  intro h
  rw [hash_append, hash_append, hash_cons, hash_cons] at h
  exact hcd (st_byte (hash_injR t (st_range _ _ _).1 (st_range _ _ _).2 (st_range _ _ _).1 (st_range _ _ _).2 h))

/-! ### Two neighbours turned -/
theorem turns257 (x : Int) (a t : List UInt8) (c d : UInt8) (h : hash 257 x (a ++ c :: d :: t) = hash 257 x (a ++ d :: c :: t)) : c = d := by
  rw [hash_append, hash_append, hash_cons, hash_cons, hash_cons, hash_cons] at h
  have h3 := hash_inj257 t (st_range _ _ _).1 (st_range _ _ _).2 (st_range _ _ _).1 (st_range _ _ _).2 h
  have h1 := byte_lt c
  have h2 := byte_lt d
  unfold st at h3
  generalize hash 257 x a = u at h3
  have : (c.toNat : Int) = d.toNat := by omega
  exact UInt8.toNat_inj.1 (by omega)

/-! ### The walk's spellings -/
theorem and31 (x : Int) (h0 : 0 ≤ x) (h1 : x < 18446744073709551616) : Go.bits .and .u64 x 2147483647 = x % 2147483648 := by
  rw [u64_and x 2147483647 h0 h1 (by omega) (by omega)]
  have e : ((2147483647 : Int)).toNat = 2147483647 := rfl
  rw [e, nat_mask31]
  omega
theorem or31 (x y : Int) (h0 : 0 ≤ x) (h1 : x < 2147483648) (h2 : 0 ≤ y) (h3 : y < 2147483648) : Go.bits .or .u64 (x * 2147483648) y = fin x y := by
  rw [u64_or _ _ (by omega) (by omega) h2 (by omega)]
  have hj := nat_join 31 (x * 2147483648).toNat y.toNat (by omega) (by omega)
  rw [hj]
  unfold fin
  omega

/-! ### Eight bytes, the highest first -/
def dig (s : Int) (i : Nat) : UInt8 := UInt8.ofNat (s / 256 ^ i % 256).toNat
def digs (s : Int) (j : Nat) : List UInt8 := (List.range j).map fun t => dig s (7 - t)
def be8 (s : Int) : List UInt8 := digs s 8
theorem dig_val (s : Int) (i : Nat) : ((dig s i).toNat : Int) = s / 256 ^ i % 256 := by
  unfold dig
  have h0 := Int.emod_nonneg (s / 256 ^ i) (show (256 : Int) ≠ 0 by decide)
  have h1 := Int.emod_lt_of_pos (s / 256 ^ i) (show (0 : Int) < 256 by decide)
  generalize s / 256 ^ i % 256 = r at *
  rw [UInt8.toNat_ofNat_of_lt' (by simp [UInt8.size]; omega)]
  omega
theorem digs_succ (s : Int) (j : Nat) : digs s (j + 1) = digs s j ++ [dig s (7 - j)] := by simp [digs, List.range_succ]
theorem digs_length (s : Int) (j : Nat) : (digs s j).length = j := by simp [digs]
theorem be8_length (s : Int) : (be8 s).length = 8 := digs_length s 8

/-! ### The number that bytes are -/
def nst (x : Int) (c : UInt8) : Int := x * 256 + (c.toNat : Int)
def num (l : List UInt8) : Int := l.foldl nst 0
theorem num_snoc (a : List UInt8) (c : UInt8) : num (a ++ [c]) = nst (num a) c := by simp [num, List.foldl_append]
theorem num_range (l : List UInt8) : 0 ≤ num l ∧ num l < 256 ^ l.length := by
  refine snoc_ind (P := fun l => 0 ≤ num l ∧ num l < 256 ^ l.length) (by simp [num]) (fun a c ih => ?_) l
  rw [num_snoc]
  have := byte_lt c
  unfold nst
  rw [List.length_append, Int.pow_add]
  simp only [List.length_cons, List.length_nil, Int.pow_succ, Int.pow_zero]
  omega
theorem or8 (x : Int) (c : UInt8) (h0 : 0 ≤ x) (h1 : x < 72057594037927936) : Go.bits .or .u64 (x * 256) (c.toNat : Int) = nst x c := by
  have hb := byte_lt c
  rw [u64_or _ _ (by omega) (by omega) (by omega) (by omega)]
  have hj := nat_join 8 (x * 256).toNat (c.toNat : Int).toNat (by omega) (by simp; omega)
  rw [hj]
  unfold nst
  omega
end Go.Proofs.Ytoaeapnkefjpaaa.Sum
