/-
  PLAIN: what is answered of some bytes is answered of them with any others behind; what is read has just its bytes. Conditions: none (plain lemmas).
-/
import Derived.Test.YtnljmllkfmgclaaMpacS
namespace Go.Proofs.Ytnljmllkfmgclaa
set_option linter.unusedVariables false
set_option linter.unusedSimpArgs false
namespace Mp
theorem len_append (s t : Bs) : ∀ (m i n : Nat), len s m i n ≠ .short → len (s ++ t) m i n = len s m i n
  | 0, i, n, h => rfl
  | m + 1, i, n, h => by
    unfold len at h ⊢
    cases hc : s[i]? with
    | none => rw [hc] at h; exact absurd rfl h
    | some c =>
      have h2 : (s ++ t)[i]? = some c := by
        obtain ⟨hi, _⟩ := List.getElem?_eq_some_iff.1 hc
        rw [List.getElem?_append_left hi]; exact hc
      rw [hc] at h
      rw [h2]
      simp only at h ⊢
      split
      · rfl
      · rename_i h1
        rw [if_neg h1] at h
        split
        · rfl
        · rename_i h3; rw [if_neg h3] at h; exact len_append s t m (i + 1) _ h
theorem len_got (s : Bs) : ∀ (m i n a w : Nat), len s m i n = .got a w → i < w ∧ w ≤ i + m ∧ w ≤ s.length ∧ a ≤ 16384
  | 0, i, n, a, w, h => by cases h
  | m + 1, i, n, a, w, h => by
    unfold len at h
    cases hc : s[i]? with
    | none => rw [hc] at h; cases h
    | some c =>
      obtain ⟨hi, _⟩ := List.getElem?_eq_some_iff.1 hc
      rw [hc] at h
      simp only at h
      split at h
      · cases h
      · rename_i h1
        split at h
        · split at h
          · simp only [Len.got.injEq] at h
            omega
          · cases h
        · have := len_got s m (i + 1) _ a w h
          omega
theorem len_short (s : Bs) : ∀ (m i n : Nat), len s m i n = .short → s.length < i + m
  | 0, i, n, h => by cases h
  | m + 1, i, n, h => by
    unfold len at h
    cases hc : s[i]? with
    | none =>
      have := List.getElem?_eq_none_iff.1 hc
      omega
    | some c =>
      rw [hc] at h
      simp only at h
      split at h
      · cases h
      · split at h
        · split at h <;> cases h
        · have := len_short s m (i + 1) _ h
          omega
theorem len_take (s : Bs) (k : Nat) : ∀ (m i n a w : Nat), len s m i n = .got a w → w ≤ k → len (s.take k) m i n = .got a w
  | 0, i, n, a, w, h, hk => by cases h
  | m + 1, i, n, a, w, h, hk => by
    have hg := len_got s (m + 1) i n a w h
    unfold len at h ⊢
    have e : (s.take k)[i]? = s[i]? := List.getElem?_take_of_lt (by omega)
    rw [e]
    cases hc : s[i]? with
    | none => rw [hc] at h; cases h
    | some c =>
      rw [hc] at h
      simp only at h ⊢
      split at h
      · cases h
      · rename_i h1
        rw [if_neg h1]
        split at h
        · rename_i h2
          rw [if_pos h2]
          exact h
        · rename_i h2
          rw [if_neg h2]
          exact len_take s k m (i + 1) _ a w h hk
theorem next_append (s t : Bs) (h : next s ≠ .more) : next (s ++ t) = next s := by
  unfold next at h ⊢
  match s, h with
  | [], h => exact absurd rfl h
  | a :: r, h =>
    simp only [List.cons_append] at h ⊢
    split
    · rfl
    · rename_i h1
      rw [if_neg h1] at h
      cases hl : len r 3 0 0 with
      | bad =>
        rw [len_append r t 3 0 0 (by rw [hl]; intro e; cases e), hl]
      | short => rw [hl] at h; exact absurd rfl h
      | got n w =>
        rw [len_append r t 3 0 0 (by rw [hl]; intro e; cases e), hl]
        rw [hl] at h
        simp only at h ⊢
        by_cases hs : (a :: r).length < 1 + w + n
        · rw [if_pos hs] at h; exact absurd rfl h
        · have hs2 : ¬ (a :: (r ++ t)).length < 1 + w + n := by
            simp only [List.length_cons, List.length_append] at hs ⊢; omega
          rw [if_neg hs, if_neg hs2]
          have e : ((a :: (r ++ t)).drop (1 + w)).take n = ((a :: r).drop (1 + w)).take n := by
            rw [← List.cons_append, List.drop_append_of_le_length (by simp only [List.length_cons] at hs ⊢; omega), List.take_append_of_le_length (by rw [List.length_drop]; omega)]
          rw [e]
theorem next_ok {s : Bs} {p : Pk} {n : Nat} (h : next s = .ok p n) : ∃ (a : UInt8) (r : Bs) (m w : Nat), s = a :: r ∧ flagsOk (a.toNat / 16) (a.toNat % 16) = true ∧ len r 3 0 0 = .got m w ∧ n = 1 + w + m ∧ n ≤ s.length ∧ body (a.toNat / 16) (a.toNat % 16) ((s.drop (1 + w)).take m) = some p := by
  unfold next at h
  match s, h with
  | [], h => cases h
  | a :: r, h =>
    simp only at h
    split at h
    · cases h
    · rename_i h1
      cases hl : len r 3 0 0 with
      | bad => rw [hl] at h; cases h
      | short => rw [hl] at h; cases h
      | got m w =>
        rw [hl] at h
        simp only at h
        split at h
        · cases h
        · rename_i h2
          cases hb : body (a.toNat / 16) (a.toNat % 16) (((a :: r).drop (1 + w)).take m) with
          | none => rw [hb] at h; cases h
          | some x =>
            rw [hb] at h
            simp only [Res.ok.injEq] at h
            obtain ⟨rfl, rfl⟩ := h
            exact ⟨a, r, m, w, rfl, by simpa using h1, hl, rfl, by omega, hb⟩
theorem next_of {a : UInt8} {r : Bs} {m w : Nat} {p : Pk} (h1 : flagsOk (a.toNat / 16) (a.toNat % 16) = true) (hl : len r 3 0 0 = .got m w) (hs : 1 + w + m ≤ (a :: r).length) (hb : body (a.toNat / 16) (a.toNat % 16) (((a :: r).drop (1 + w)).take m) = some p) : next (a :: r) = .ok p (1 + w + m) := by
  unfold next
  simp only
  rw [if_neg (by rw [h1]; decide), hl]
  simp only
  rw [if_neg (by omega), hb]
theorem next_more_len {s : Bs} (h : next s = .more) : s.length < 16388 := by
  unfold next at h
  match s, h with
  | [], h => simp
  | a :: r, h =>
    simp only at h
    split at h
    · cases h
    · cases hl : len r 3 0 0 with
      | bad => rw [hl] at h; cases h
      | short =>
        have := len_short r 3 0 0 hl
        simp only [List.length_cons]; omega
      | got m w =>
        rw [hl] at h
        simp only at h
        have := len_got r 3 0 0 m w hl
        split at h
        · omega
        · split at h <;> cases h
theorem next_take {s : Bs} {p : Pk} {n : Nat} (h : next s = .ok p n) : next (s.take n) = .ok p n := by
  obtain ⟨a, r, m, w, rfl, h1, hl, rfl, hn, hb⟩ := next_ok h
  have hg := len_got r 3 0 0 m w hl
  have e : (a :: r).take (1 + w + m) = a :: r.take (w + m) := by
    rw [show 1 + w + m = (w + m) + 1 by omega, List.take_succ_cons]
  rw [e]
  refine next_of h1 (len_take r (w + m) 3 0 0 m w hl (by omega)) ?_ ?_
  · simp only [List.length_cons, List.length_take] at hn ⊢
    omega
  · rw [← e, List.drop_take, List.take_take, show min m (1 + w + m - (1 + w)) = m by omega]
    exact hb
/-! ### the bytes of what is read -/
theorem u8_ext {a b : UInt8} (h : a.toNat = b.toNat) : a = b := UInt8.toNat_inj.1 h
theorem u8_of (n : Nat) (b : UInt8) (h : n = b.toNat) : UInt8.ofNat n = b := by
  apply u8_ext
  rw [UInt8.toNat_ofNat', h]
  have := b.toNat_lt
  omega
theorem be2_of {n : Int} {a b : UInt8} (h : n = ((a.toNat * 256 + b.toNat : Nat) : Int)) : be2 n = [a, b] := by
  have ha := a.toNat_lt
  have hb := b.toNat_lt
  unfold be2
  rw [u8_of _ a (by omega), u8_of _ b (by omega)]
theorem b1_of {n : Int} {a : UInt8} (h : n = (a.toNat : Int)) : b1 n = a := by
  have ha := a.toNat_lt
  unfold b1
  rw [u8_of _ a (by omega)]
theorem put_of {s x t : Bs} (h : text s = some (x, t)) : s = put x ++ t ∧ x.length < 65536 := by
  obtain ⟨a, b, rfl, hl⟩ := text_len h
  have ha := a.toNat_lt
  have hb := b.toNat_lt
  unfold put
  rw [be2_of (a := a) (b := b) (by omega)]
  exact ⟨rfl, by omega⟩
theorem put_len (x : Bs) : (put x).length = 2 + x.length := by unfold put be2; simp only [List.length_append, List.length_cons, List.length_nil]
theorem byte_of {s t : Bs} {n : Nat} (h : byte s = some (n, t)) : s = b1 n :: t ∧ n < 256 := by
  obtain ⟨b, rfl, rfl⟩ := byte_len h
  rw [b1_of rfl]
  exact ⟨rfl, b.toNat_lt⟩
theorem short_of {s t : Bs} {n : Nat} (h : short s = some (n, t)) : s = be2 n ++ t ∧ n < 65536 := by
  obtain ⟨a, b, rfl, rfl⟩ := short_len h
  have ha := a.toNat_lt
  have hb := b.toNat_lt
  rw [be2_of rfl]
  exact ⟨rfl, by omega⟩
theorem id_of {s t : Bs} {n : Nat} (h : id s = some (n, t)) : s = be2 n ++ t ∧ n < 65536 ∧ 0 < n := by
  obtain ⟨a, b, rfl, rfl, h0⟩ := id_len h
  have ha := a.toNat_lt
  have hb := b.toNat_lt
  rw [be2_of rfl]
  exact ⟨rfl, by omega, h0⟩
theorem var_fuel : ∀ (n m m' : Nat), n ≤ m → n ≤ m' → var m n = var m' n := by
  intro n
  induction n using Nat.strongRecOn with
  | _ n ih =>
    intro m m' h h'
    match m, m' with
    | 0, 0 => rfl
    | 0, m' + 1 => unfold var; rw [if_pos (by omega)]
    | m + 1, 0 => conv => lhs; unfold var
                  rw [if_pos (by omega)]; rfl
    | m + 1, m' + 1 =>
      conv => lhs; unfold var
      conv => rhs; unfold var
      split
      · rfl
      · rw [ih (n / 128) (by omega) m m' (by omega) (by omega)]
theorem len_var (s : Bs) : ∀ (m i n a w : Nat), len s m i n = .got a w → n < 128 ^ i → ∃ q, a = n + q * 128 ^ i ∧ (s.drop i).take (w - i) = var q q ∧ (0 < i → 0 < q)
  | 0, i, n, a, w, h, hn => by cases h
  | m + 1, i, n, a, w, h, hn => by
    have hg := len_got s (m + 1) i n a w h
    unfold len at h
    cases hc : s[i]? with
    | none => rw [hc] at h; cases h
    | some c =>
      obtain ⟨hi, hci⟩ := List.getElem?_eq_some_iff.1 hc
      rw [hc] at h
      simp only at h
      have hd : s.drop i = c :: s.drop (i + 1) := by rw [← hci]; exact List.drop_eq_getElem_cons hi
      have hcl := c.toNat_lt
      split at h
      · cases h
      · rename_i h1
        split at h
        · rename_i h2
          split at h
          · rename_i h3
            simp only [Len.got.injEq] at h
            obtain ⟨rfl, rfl⟩ := h
            refine ⟨c.toNat % 128, rfl, ?_, fun h0 => by omega⟩
            rw [hd, show i + 1 - i = 1 by omega, List.take_succ_cons, List.take_zero]
            have e : c.toNat % 128 = c.toNat := by omega
            rw [e]
            cases hk : c.toNat with
            | zero => unfold var; rw [u8_of _ c hk.symm]
            | succ k => unfold var; rw [if_pos (by omega), u8_of _ c hk.symm]
          · cases h
        · rename_i h2
          have hn2 : n + c.toNat % 128 * 128 ^ i < 128 ^ (i + 1) := by
            have : c.toNat % 128 * 128 ^ i ≤ 127 * 128 ^ i := Nat.mul_le_mul_right _ (by omega)
            rw [Nat.pow_succ]
            omega
          obtain ⟨q, hq1, hq2, hq3⟩ := len_var s m (i + 1) _ a w h hn2
          have hg2 := len_got s m (i + 1) _ a w h
          have hq0 := hq3 (by omega)
          refine ⟨c.toNat % 128 + 128 * q, ?_, ?_, fun _ => by omega⟩
          · rw [hq1, Nat.add_mul, Nat.pow_succ, Nat.add_assoc]
            congr 2
            rw [Nat.mul_comm 128 q, Nat.mul_assoc, Nat.mul_comm (128 ^ i) 128]
          · rw [hd, show w - i = (w - (i + 1)) + 1 by omega, List.take_succ_cons, hq2]
            obtain ⟨k, hk⟩ : ∃ k, c.toNat % 128 + 128 * q = k + 1 := ⟨c.toNat % 128 + 128 * q - 1, by omega⟩
            rw [hk]
            conv => rhs; unfold var
            rw [if_neg (by omega), u8_of ((k + 1) % 128 + 128) c (by omega), show (k + 1) / 128 = q by omega]
            rw [var_fuel q q k (by omega) (by omega)]
theorem len_whole {s : Bs} {a w : Nat} (h : len s 3 0 0 = .got a w) : s.take w = var a a := by
  obtain ⟨q, h1, h2, -⟩ := len_var s 3 0 0 a w h (by decide)
  simp only [Nat.pow_zero, Nat.mul_one, Nat.zero_add] at h1
  subst h1
  exact h2
theorem items_pairs (k : Nat) (hk : k = 8 ∨ k = 10 ∨ k = 9) : ∀ (m : Nat) (ns : List Bs) (cs : List Int) (s : Bs) (ns' : List Bs) (cs' : List Int), items k m ns cs s = some (ns', cs') → ns.length ≤ 32 → cs.length ≤ 32 →
    ∃ ns2 cs2, ns' = ns ++ ns2 ∧ cs' = cs ++ cs2 ∧ pairs ns2 cs2 = s ∧ ns'.length ≤ 32 ∧ cs'.length ≤ 32 ∧ (k = 9 → ns2 = []) ∧ (k = 10 → cs2 = []) ∧ (k = 8 → ns2.length = cs2.length) ∧ (∀ x ∈ ns2, x.length ≤ s.length) ∧ ∀ c ∈ cs2, 0 ≤ c ∧ c < 256
  | 0, ns, cs, s, ns', cs', h, hn, hc => by
    unfold items at h
    split at h
    · rename_i h0
      simp only [Option.some.injEq, Prod.mk.injEq] at h
      obtain ⟨rfl, rfl⟩ := h
      exact ⟨[], [], by simp, by simp, by rw [h0]; simp [pairs], hn, hc, by simp, by simp, by simp, by simp, by simp⟩
    · cases h
  | m + 1, ns, cs, s, ns', cs', h, hn, hc => by
    unfold items at h
    split at h
    · rename_i h0
      simp only [Option.some.injEq, Prod.mk.injEq] at h
      obtain ⟨rfl, rfl⟩ := h
      exact ⟨[], [], by simp, by simp, by rw [h0]; simp [pairs], hn, hc, by simp, by simp, by simp, by simp, by simp⟩
    · cases h1 : nameOf k ns s with
      | none => rw [h1] at h; cases h
      | some x =>
        obtain ⟨nsx, s1⟩ := x
        rw [h1] at h
        simp only [Option.bind_some] at h
        cases h2 : codeOf k cs s1 with
        | none => rw [h2] at h; cases h
        | some y =>
          obtain ⟨csy, s2⟩ := y
          rw [h2] at h
          simp only [Option.bind_some] at h
          split at h
          · rename_i hle
            obtain ⟨ns2, cs2, e1, e2, e3, e4, e5, e6, e7, e8, e9, e10⟩ := items_pairs k hk m nsx csy s2 ns' cs' h hle.1 hle.2
            unfold nameOf at h1
            unfold codeOf at h2
            split at h1
            · rename_i k9
              cases ht : text s with
              | none => rw [ht] at h1; cases h1
              | some z =>
                obtain ⟨x, t⟩ := z
                rw [ht] at h1
                simp only [Option.bind_some, Option.some.injEq, Prod.mk.injEq] at h1
                obtain ⟨rfl, rfl⟩ := h1
                obtain ⟨hs, hxl⟩ := put_of ht
                have hsl : s.length = 2 + x.length + t.length := by rw [hs, List.length_append, put_len]
                split at h2
                · rename_i k10
                  cases hb : byte t with
                  | none => rw [hb] at h2; cases h2
                  | some z =>
                    obtain ⟨c, u⟩ := z
                    rw [hb] at h2
                    simp only [Option.bind_some, Option.some.injEq, Prod.mk.injEq] at h2
                    obtain ⟨rfl, rfl⟩ := h2
                    obtain ⟨hb1, hb2⟩ := byte_of hb
                    have htl : t.length = u.length + 1 := by rw [hb1]; rfl
                    refine ⟨x :: ns2, (c : Int) :: cs2, ?_, ?_, ?_, e4, e5, fun h => absurd h k9, fun h => absurd h k10, fun h => ?_, ?_, ?_⟩
                    · rw [e1]; simp
                    · rw [e2]; simp
                    · rw [pairs, e3, hs, hb1]
                    · have := e8 h; simp only [List.length_cons]; omega
                    · intro v hv
                      rcases List.mem_cons.1 hv with rfl | hv
                      · omega
                      · have := e9 v hv; omega
                    · intro v hv
                      rcases List.mem_cons.1 hv with rfl | hv
                      · omega
                      · exact e10 v hv
                · rename_i k10
                  have k10 : k = 10 := by simpa using k10
                  simp only [Option.some.injEq, Prod.mk.injEq] at h2
                  obtain ⟨rfl, rfl⟩ := h2
                  have e7' := e7 k10
                  subst e7'
                  refine ⟨x :: ns2, [], ?_, by rw [e2], ?_, e4, e5, fun h => absurd h k9, fun h => rfl, fun h => by omega, ?_, by simp⟩
                  · rw [e1]; simp
                  · rw [pairs, e3, hs]
                  · intro v hv
                    rcases List.mem_cons.1 hv with rfl | hv
                    · omega
                    · have := e9 v hv; omega
            · rename_i k9
              have k9 : k = 9 := by simpa using k9
              simp only [Option.some.injEq, Prod.mk.injEq] at h1
              obtain ⟨rfl, rfl⟩ := h1
              have e6' := e6 k9
              subst e6'
              split at h2
              · rename_i k10
                cases hb : byte s with
                | none => rw [hb] at h2; cases h2
                | some z =>
                  obtain ⟨c, u⟩ := z
                  rw [hb] at h2
                  simp only [Option.bind_some, Option.some.injEq, Prod.mk.injEq] at h2
                  obtain ⟨rfl, rfl⟩ := h2
                  obtain ⟨hb1, hb2⟩ := byte_of hb
                  refine ⟨[], (c : Int) :: cs2, by rw [e1], ?_, ?_, e4, e5, fun h => rfl, fun h => by omega, fun h => by omega, by simp, ?_⟩
                  · rw [e2]; simp
                  · rw [pairs, e3, hb1]
                  · intro v hv
                    rcases List.mem_cons.1 hv with rfl | hv
                    · omega
                    · exact e10 v hv
              · omega
          · cases h
/-- What is read of a kind's bytes has just these bytes, and everything in bounds. -/
structure Just (k f : Nat) (s : Bs) (p : Pk) : Prop where
  kind : p.kind = k
  flags : p.flags = f
  rest : rest p = s
  names : p.names.length ≤ 32
  codes : p.codes.length ≤ 32
  sum : p.name.length + p.text.length + p.topic.length ≤ s.length
  text : p.text.length ≤ 1024
  id : 0 ≤ p.id ∧ p.id < 65536
  keep : 0 ≤ p.keep ∧ p.keep < 65536
  code : 0 ≤ p.code ∧ p.code < 256
  nlen : ∀ x ∈ p.names, x.length ≤ s.length
  clen : ∀ c ∈ p.codes, 0 ≤ c ∧ c < 256
theorem connect_just {f : Nat} {s t : Bs} {p : Pk} (h : connect (Pk.new 1 f) s = some (p, t)) (ht : t = []) : Just 1 f s p := by
  unfold connect at h
  cases h1 : text s with
  | none => rw [h1] at h; cases h
  | some a =>
    obtain ⟨m, s1⟩ := a
    rw [h1] at h
    simp only [Option.bind_some] at h
    split at h
    · cases h
    rename_i hm
    have hm : m = mqtt := by simpa using hm
    subst hm
    obtain ⟨q1, -⟩ := put_of h1
    cases h2 : byte s1 with
    | none => rw [h2] at h; cases h
    | some v =>
      obtain ⟨v, s2⟩ := v
      rw [h2] at h
      simp only [Option.bind_some] at h
      split at h
      · cases h
      rename_i hv
      have hv : v = 4 := by simpa using hv
      subst hv
      obtain ⟨q2, -⟩ := byte_of h2
      have e4 : b1 ((4 : Nat) : Int) = 4 := rfl
      rw [e4] at q2
      cases h3 : byte s2 with
      | none => rw [h3] at h; cases h
      | some c =>
        obtain ⟨c, s3⟩ := c
        rw [h3] at h
        simp only [Option.bind_some] at h
        obtain ⟨q3, hc⟩ := byte_of h3
        split at h
        · cases h
        rename_i hok
        cases h4 : short s3 with
        | none => rw [h4] at h; cases h
        | some k =>
          obtain ⟨k, s4⟩ := k
          rw [h4] at h
          simp only [Option.bind_some] at h
          obtain ⟨q4, hk⟩ := short_of h4
          cases h5 : text s4 with
          | none => rw [h5] at h; cases h
          | some n =>
            obtain ⟨n, s5⟩ := n
            rw [h5] at h
            simp only [Option.bind_some] at h
            obtain ⟨q5, hn⟩ := put_of h5
            split at h
            · rename_i hw
              cases h6 : text s5 with
              | none => rw [h6] at h; cases h
              | some tp =>
                obtain ⟨tp, s6⟩ := tp
                rw [h6] at h
                simp only [Option.bind_some] at h
                obtain ⟨q6, htp⟩ := put_of h6
                cases h7 : text s6 with
                | none => rw [h7] at h; cases h
                | some x =>
                  obtain ⟨x, s7⟩ := x
                  rw [h7] at h
                  simp only [Option.bind_some] at h
                  obtain ⟨q7, hx⟩ := put_of h7
                  split at h
                  · cases h
                  rename_i hxl
                  simp only [Option.some.injEq, Prod.mk.injEq] at h
                  obtain ⟨rfl, rfl⟩ := h
                  subst ht
                  rw [List.append_nil] at q7
                  subst q7 q6 q5 q4 q3 q2 q1
                  refine ⟨rfl, rfl, ?_, by simp [Pk.new], by simp [Pk.new], ?_, by simpa using hxl, by simp [Pk.new], ?_, ?_, by simp [Pk.new], by simp [Pk.new]⟩
                  · simp [rest, Pk.new, hw]
                  · simp only [List.length_append, List.length_cons, put_len]
                    omega
                  · exact ⟨Int.natCast_nonneg _, by show (k : Int) < 65536; omega⟩
                  · exact ⟨Int.natCast_nonneg _, by show (c : Int) < 256; omega⟩
            · rename_i hw
              simp only [Option.some.injEq, Prod.mk.injEq] at h
              obtain ⟨rfl, rfl⟩ := h
              subst ht
              rw [List.append_nil] at q5
              subst q5 q4 q3 q2 q1
              refine ⟨rfl, rfl, ?_, by simp [Pk.new], by simp [Pk.new], ?_, by simp [Pk.new], by simp [Pk.new], ?_, ?_, by simp [Pk.new], by simp [Pk.new]⟩
              · simp [rest, Pk.new, hw]
              · simp only [List.length_append, List.length_cons, put_len, Pk.new, List.length_nil]
                omega
              · exact ⟨Int.natCast_nonneg _, by show (k : Int) < 65536; omega⟩
              · exact ⟨Int.natCast_nonneg _, by show (c : Int) < 256; omega⟩
theorem rest_new (k f : Nat) (h : ¬ k = 1) (h2 : ¬ k = 2) (h3 : ¬ k = 3) (h4 : ¬ (k = 4 ∨ k = 5 ∨ k = 6 ∨ k = 7 ∨ k = 11)) (h5 : ¬ (k = 8 ∨ k = 10 ∨ k = 9)) : rest (Pk.new k f) = [] := by
  unfold rest Pk.new
  simp only
  rw [if_neg (by omega), if_neg (by omega), if_neg (by omega), if_neg (by omega), if_neg (by omega)]
theorem body_just {k f : Nat} {s : Bs} {p : Pk} (h : body k f s = some p) : Just k f s p := by
  unfold body at h
  simp only at h
  split at h
  · rename_i hk
    subst hk
    cases hc : connect (Pk.new 1 f) s with
    | none => rw [hc] at h; cases h
    | some x =>
      obtain ⟨q, t⟩ := x
      rw [hc] at h
      simp only [Option.bind_some] at h
      split at h
      · rename_i ht
        simp only [Option.some.injEq] at h
        subst h
        exact connect_just hc ht
      · cases h
  rename_i hk1
  split at h
  · rename_i hk
    subst hk
    cases h1 : byte s with
    | none => rw [h1] at h; cases h
    | some a =>
      obtain ⟨a, s1⟩ := a
      rw [h1] at h
      simp only [Option.bind_some] at h
      obtain ⟨q1, ha⟩ := byte_of h1
      cases h2 : byte s1 with
      | none => rw [h2] at h; cases h
      | some c =>
        obtain ⟨c, s2⟩ := c
        rw [h2] at h
        simp only [Option.bind_some] at h
        obtain ⟨q2, hc⟩ := byte_of h2
        split at h
        · rename_i hx
          obtain ⟨hx1, hx2, rfl⟩ := hx
          simp only [Option.some.injEq] at h
          subst h q2 q1
          refine ⟨rfl, rfl, ?_, by simp [Pk.new], by simp [Pk.new], by simp [Pk.new], by simp [Pk.new], by simp [Pk.new], ?_, ?_, by simp [Pk.new], by simp [Pk.new]⟩
          · simp [rest, Pk.new]
          · exact ⟨Int.natCast_nonneg _, by show (a : Int) < 65536; omega⟩
          · exact ⟨Int.natCast_nonneg _, by show (c : Int) < 256; omega⟩
        · cases h
  rename_i hk2
  split at h
  · rename_i hk
    subst hk
    cases h1 : text s with
    | none => rw [h1] at h; cases h
    | some a =>
      obtain ⟨a, s1⟩ := a
      rw [h1] at h
      simp only [Option.bind_some] at h
      obtain ⟨q1, ha⟩ := put_of h1
      split at h
      · rename_i hq
        cases h2 : id s1 with
        | none => rw [h2] at h; cases h
        | some i =>
          obtain ⟨i, s2⟩ := i
          rw [h2] at h
          simp only [Option.bind_some] at h
          obtain ⟨q2, hi, hi0⟩ := id_of h2
          split at h
          · rename_i hx
            simp only [Option.some.injEq] at h
            subst h q2 q1
            refine ⟨rfl, rfl, ?_, by simp [Pk.new], by simp [Pk.new], ?_, hx, ?_, by simp [Pk.new], by simp [Pk.new], by simp [Pk.new], by simp [Pk.new]⟩
            · have hq' : (0 : Int) < (f : Int) / 2 % 4 := by omega
              simp [rest, Pk.new, hq']
            · simp only [List.length_append, put_len, Pk.new, List.length_nil]
              omega
            · exact ⟨Int.natCast_nonneg _, by show (i : Int) < 65536; omega⟩
          · cases h
      · rename_i hq
        split at h
        · rename_i hx
          simp only [Option.some.injEq] at h
          subst h q1
          refine ⟨rfl, rfl, ?_, by simp [Pk.new], by simp [Pk.new], ?_, hx, by simp [Pk.new], by simp [Pk.new], by simp [Pk.new], by simp [Pk.new], by simp [Pk.new]⟩
          · have hq' : ¬ (0 : Int) < (f : Int) / 2 % 4 := by omega
            simp [rest, Pk.new, hq']
          · simp only [List.length_append, put_len, Pk.new, List.length_nil]
            omega
        · cases h
  rename_i hk3
  split at h
  · rename_i hk
    cases h2 : id s with
    | none => rw [h2] at h; cases h
    | some i =>
      obtain ⟨i, s2⟩ := i
      rw [h2] at h
      simp only [Option.bind_some] at h
      obtain ⟨q2, hi, hi0⟩ := id_of h2
      split at h
      · rename_i hx
        subst hx
        simp only [Option.some.injEq] at h
        subst h q2
        refine ⟨rfl, rfl, ?_, by simp [Pk.new], by simp [Pk.new], by simp [Pk.new], by simp [Pk.new], ?_, by simp [Pk.new], by simp [Pk.new], by simp [Pk.new], by simp [Pk.new]⟩
        · unfold rest Pk.new
          simp only
          rw [if_neg (by omega), if_neg (by omega), if_neg (by omega), if_pos (by omega), List.append_nil]
        · exact ⟨Int.natCast_nonneg _, by show (i : Int) < 65536; omega⟩
      · cases h
  rename_i hk4
  split at h
  · rename_i hk
    cases h2 : id s with
    | none => rw [h2] at h; cases h
    | some i =>
      obtain ⟨i, s2⟩ := i
      rw [h2] at h
      simp only [Option.bind_some] at h
      obtain ⟨q2, hi, hi0⟩ := id_of h2
      split at h
      · cases h
      rename_i hs2
      cases h3 : items k s2.length [] [] s2 with
      | none => rw [h3] at h; cases h
      | some x =>
        obtain ⟨ns, cs⟩ := x
        rw [h3] at h
        simp only [Option.bind_some] at h
        split at h
        · simp only [Option.some.injEq] at h
          subst h
          obtain ⟨ns2, cs2, e1, e2, e3, e4, e5, e6, e7, e8, e9, e10⟩ := items_pairs k hk _ _ _ _ _ _ h3 (by simp) (by simp)
          rw [List.nil_append] at e1 e2
          subst e1 e2
          have hsl : s.length = 2 + s2.length := by rw [q2]; simp [be2]; omega
          refine ⟨rfl, rfl, ?_, e4, e5, by simp [Pk.new], by simp [Pk.new], ?_, by simp [Pk.new], by simp [Pk.new], ?_, e10⟩
          · unfold rest Pk.new
            simp only
            rw [if_neg (by omega), if_neg (by omega), if_neg (by omega), if_neg (by omega), if_pos (by omega), e3, q2]
          · exact ⟨Int.natCast_nonneg _, by show (i : Int) < 65536; omega⟩
          · intro x hx
            have := e9 x hx
            omega
        · cases h
  rename_i hk5
  split at h
  · rename_i hs
    simp only [Option.some.injEq] at h
    subst h hs
    refine ⟨rfl, rfl, rest_new k f hk1 hk2 hk3 hk4 hk5, by simp [Pk.new], by simp [Pk.new], by simp [Pk.new], by simp [Pk.new], by simp [Pk.new], by simp [Pk.new], by simp [Pk.new], by simp [Pk.new], by simp [Pk.new]⟩
  · cases h
/-- What is read: its bytes, its bounds. -/
theorem next_just {s : Bs} {p : Pk} {n : Nat} (h : next s = .ok p n) : whole p = s.take n ∧ 0 < n ∧ n ≤ s.length ∧ n ≤ 16388 ∧ ∃ (k f : Nat) (t : Bs), k ≤ 15 ∧ f ≤ 15 ∧ flagsOk k f = true ∧ t.length ≤ 16384 ∧ Just k f t p := by
  obtain ⟨a, r, m, w, rfl, h1, hl, rfl, hn, hb⟩ := next_ok h
  have hg := len_got r 3 0 0 m w hl
  have hj := body_just hb
  have ha := a.toNat_lt
  have htl : (((a :: r).drop (1 + w)).take m).length = m := by
    rw [List.length_take, List.length_drop]; omega
  refine ⟨?_, by omega, hn, by omega, _, _, _, by omega, by omega, h1, by rw [htl]; omega, hj⟩
  unfold whole
  rw [hj.rest, htl, ← len_whole hl, hj.kind, hj.flags, b1_of (a := a) (by omega)]
  rw [show 1 + w + m = (w + m) + 1 by omega, List.take_succ_cons, show 1 + w = w + 1 by omega, List.drop_succ_cons, List.take_add]
theorem flagsOk_kind {k f : Nat} (h : flagsOk k f = true) : 1 ≤ k ∧ k ≤ 14 := by
  unfold flagsOk at h
  split at h
  · omega
  · split at h
    · omega
    · have := of_decide_eq_true h
      omega
/-- Are two packets the same? -/
def same (a b : Pk) : Bool := decide (a.names = b.names) && decide (a.codes = b.codes) && decide (a.kind = b.kind) && decide (a.flags = b.flags) && decide (a.id = b.id) && decide (a.code = b.code) && decide (a.name = b.name) && decide (a.text = b.text) && decide (a.keep = b.keep) && decide (a.will = b.will) && decide (a.topic = b.topic) && decide (a.clean = b.clean)
theorem same_iff (a b : Pk) : same a b = true ↔ a = b := by
  constructor
  · intro h
    simp only [same, Bool.and_eq_true, decide_eq_true_eq] at h
    cases a
    cases b
    simp_all
  · rintro rfl
    simp [same]
/-- A packet's bytes, if it has some. -/
def enc (p : Pk) : Option Bs := if small p = true then match next (whole p) with
  | .ok x _ => if same x p = true then some (whole p) else none
  | _ => none
  else none
theorem enc_some {p : Pk} {b : Bs} (h : enc p = some b) : small p = true ∧ b = whole p ∧ next b = .ok p b.length := by
  unfold enc at h
  split at h
  · rename_i hs
    cases hn : next (whole p) with
    | more => rw [hn] at h; cases h
    | proto => rw [hn] at h; cases h
    | ok x n =>
      rw [hn] at h
      simp only at h
      split at h
      · rename_i hx
        have hx := (same_iff _ _).1 hx
        subst hx
        simp only [Option.some.injEq] at h
        subst h
        obtain ⟨e1, e2, e3, -⟩ := next_just hn
        have hl := congrArg List.length e1
        rw [List.length_take] at hl
        exact ⟨hs, rfl, by rw [hn]; congr 1; omega⟩
      · cases h
  · cases h
theorem small_of {s : Bs} {p : Pk} {n : Nat} (h : next s = .ok p n) : small p = true := by
  obtain ⟨-, -, -, -, k, f, t, hk, hf, hfl, ht, hj⟩ := next_just h
  have hkk := flagsOk_kind hfl
  unfold small
  refine decide_eq_true ?_
  rw [hj.kind, hj.flags]
  have := hj.names
  have := hj.codes
  have := hj.sum
  omega
theorem enc_of {p : Pk} {n : Nat} (h : next (whole p) = .ok p n) : enc p = some (whole p) := by
  unfold enc
  rw [if_pos (small_of h), h]
  simp only
  rw [if_pos ((same_iff p p).2 rfl)]
/-- What is read has just its bytes. -/
theorem enc_next {s : Bs} {p : Pk} {n : Nat} (h : next s = .ok p n) : enc p = some (s.take n) := by
  have h1 := (next_just h).1
  rw [← h1]
  refine enc_of (n := n) ?_
  rw [h1]
  exact next_take h
/-- Of a proper beginning bytes are missing. -/
theorem next_part {s : Bs} {p : Pk} (h : next s = .ok p s.length) (i : Nat) (hi : i < s.length) : next (s.take i) = .more := by
  cases hn : next (s.take i) with
  | more => rfl
  | proto =>
    have := next_append (s.take i) (s.drop i) (by rw [hn]; intro e; cases e)
    rw [List.take_append_drop, h, hn] at this
    cases this
  | ok x n =>
    have := next_append (s.take i) (s.drop i) (by rw [hn]; intro e; cases e)
    rw [List.take_append_drop, h, hn] at this
    cases this
    have h3 := (next_just hn).2.2.1
    rw [List.length_take] at h3
    omega
end Mp
end Go.Proofs.Ytnljmllkfmgclaa
