/-
  THE PROGRAM: Encode (9), what is refused at once; lemmas. Conditions: those that each contract names.
-/
import Derived.Test.YtnljmllkfmgclaaMpacPO
namespace Go.Proofs.Ytnljmllkfmgclaa
open Go.RowKit
set_option linter.unusedVariables false
set_option linter.unusedSimpArgs false

theorem or16 (k f : Nat) (hk : k < 16) (hf : f < 16) : Go.bits .or .i64 ((k : Int) * 16) (f : Int) = ((k * 16 + f : Nat) : Int) := by
  have : ∀ m n : Fin 16, Go.bits .or .i64 (((m.val : Nat) : Int) * 16) ((n.val : Nat) : Int) = ((m.val * 16 + n.val : Nat) : Int) := by decide +kernel
  exact this ⟨k, hk⟩ ⟨f, hf⟩
theorem or128 (n : Nat) : Go.bits .or .u8 ((n : Int) % 256) 128 = ((UInt8.ofNat (n % 128 + 128)).toNat : Int) := by
  have : ∀ m : Fin 256, Go.bits .or .u8 ((m.val : Nat) : Int) 128 = ((m.val % 128 + 128 : Nat) : Int) := by decide +kernel
  have h := this ⟨n % 256, by omega⟩
  simp only at h
  rw [show ((n : Int) % 256) = ((n % 256 : Nat) : Int) by omega, h, UInt8.toNat_ofNat_of_lt' (by simp [UInt8.size]; omega)]
  omega
namespace Mp
theorem var_small {n : Nat} (h : n ≤ 127) : var n n = [UInt8.ofNat n] := by
  cases n with
  | zero => rfl
  | succ k => unfold var; rw [if_pos h]
theorem var_big {n : Nat} (h : 127 < n) : var n n = UInt8.ofNat (n % 128 + 128) :: var (n / 128) (n / 128) := by
  cases n with
  | zero => omega
  | succ k =>
    conv => lhs; unfold var
    rw [if_neg (by omega), var_fuel ((k + 1) / 128) k ((k + 1) / 128) (by omega) (by omega)]
theorem var_len : ∀ (m n : Nat), (var m n).length ≤ n + 1
  | 0, n => by simp [var]
  | m + 1, n => by
    unfold var
    split
    · simp
    · have := var_len m (n / 128)
      simp only [List.length_cons]
      omega
def sum (ns : List Bs) : Nat := (ns.map List.length).sum
theorem sum_le {x : Bs} : ∀ {ns : List Bs}, x ∈ ns → x.length ≤ sum ns
  | n :: ns, h => by
    rcases List.mem_cons.1 h with rfl | h
    · simp [sum]
    · have := sum_le h
      simp only [sum, List.map_cons, List.sum_cons] at this ⊢
      omega
theorem pairs_sum : ∀ (ns : List Bs) (cs : List Int), (pairs ns cs).length = sum ns + 2 * ns.length + cs.length
  | [], [] => by simp [pairs, sum]
  | [], c :: cs => by
    have := pairs_sum [] cs
    simp only [pairs, List.length_cons, sum, List.map_nil, List.sum_nil, List.length_nil] at this ⊢
    omega
  | n :: ns, [] => by
    have h1 := pairs_sum ns []
    simp only [pairs, List.length_append, put_len, List.length_cons, List.length_nil, sum, List.map_cons, List.sum_cons] at h1 ⊢
    omega
  | n :: ns, c :: cs => by
    have h1 := pairs_sum ns cs
    simp only [pairs, List.length_append, put_len, List.length_cons, sum, List.map_cons, List.sum_cons] at h1 ⊢
    omega
theorem be2_len (n : Int) : (be2 n).length = 2 := rfl
theorem rest_len {p : Pk} (hb : p.name.length + p.text.length + p.topic.length ≤ 100000) (hn : p.names.length ≤ 32) (hc : p.codes.length ≤ 32) (hs : sum p.names ≤ 100000) : (rest p).length ≤ 200000 := by
  unfold rest
  split
  · have h1 : (put mqtt).length = 6 := rfl
    split <;> simp only [List.length_append, put_len, List.length_cons, List.length_nil, be2_len, h1] <;> omega
  · split
    · simp
    · split
      · split <;> simp only [List.length_append, put_len, List.length_cons, List.length_nil, be2_len] <;> omega
      · split
        · simp [be2_len]
        · split
          · simp only [List.length_append, be2_len, pairs_sum]
            omega
          · simp
theorem whole_len {p : Pk} (h : (rest p).length ≤ 200000) : (whole p).length ≤ 1000000 := by
  unfold whole
  have := var_len (rest p).length (rest p).length
  simp only [List.length_cons, List.length_append]
  omega
end Mp
/-- What Encode comes to. -/
def Encoded (w : World) (o : Option (List UInt8)) (e : Ending) (w' : World) : Prop :=
  Below w.heap.size w w' ∧ match o with
  | none => e = .returned (.tuple #[.slice none 0 0, I 1])
  | some b => ∃ v, e = .returned (.tuple #[v, I 0]) ∧ w'.ownsRow w.heap.size 5 1 v b.length (b.map B)
theorem pk_box {w : World} {P : Pk} {nv cv : Value} : PIn (w.alloc (.cells (pkCells P nv cv) 25)) w.heap.size P nv cv := heap_alloc_new w _
set_option maxRecDepth 100000 in
set_option maxHeartbeats 6400000 in
theorem enc_no (w : World) (v : Value) (P : Pk) (h : PkV w v P) (hs : Mp.small P = false) (hb : P.name.length + P.text.length + P.topic.length ≤ 100000000) : Calls Try.prog 9 #[v] w (Encoded w (Mp.enc P)) := by
  have he : Mp.enc P = none := by unfold Mp.enc; rw [hs]; rfl
  rw [he]
  have hs2 : ¬ (1 ≤ P.kind ∧ P.kind ≤ 14 ∧ 0 ≤ P.flags ∧ P.flags ≤ 15 ∧ P.names.length ≤ 32 ∧ P.codes.length ≤ 32 ∧ P.name.length + P.text.length + P.topic.length ≤ 16384) := of_decide_eq_false hs
  obtain ⟨⟨nv, cv, rfl, hn, hc⟩, bn, bc⟩ := h
  obtain ⟨an, cn, hnv, -⟩ := hn.form
  obtain ⟨ac, cc, hcv, -⟩ := hc.form
  rw [List.length_map] at hnv hcv
  have hp : PIn (w.alloc (.cells (pkCells P nv cv) 25)) w.heap.size P nv cv := pk_box
  have hB : Below w.heap.size w (w.alloc (.cells (pkCells P nv cv) 25)) := (Below.refl _ _).alloc (Nat.le_refl _) _
  obtain ⟨w1, hw1⟩ : ∃ w1, w1 = w.alloc (.cells (pkCells P nv cv) 25) := ⟨_, rfl⟩
  rw [← hw1] at hp hB
  have c0 : w1.cell? ⟨w.heap.size, 0, none⟩ = some (I P.kind) := hp.cell 0
  have c1 : w1.cell? ⟨w.heap.size, 1, none⟩ = some (I P.flags) := hp.cell 1
  have c4 : w1.cell? ⟨w.heap.size, 4, none⟩ = some (S P.name) := hp.cell 4
  have c5 : w1.cell? ⟨w.heap.size, 5, none⟩ = some (S P.text) := hp.cell 5
  have c8 : w1.cell? ⟨w.heap.size, 8, none⟩ = some (S P.topic) := hp.cell 8
  have c10 : w1.cell? ⟨w.heap.size, 10, none⟩ = some (.slice an P.names.length cn) := (hp.cell 10).trans (by rw [← hnv]; rfl)
  have c11 : w1.cell? ⟨w.heap.size, 11, none⟩ = some (.slice ac P.codes.length cc) := (hp.cell 11).trans (by rw [← hcv]; rfl)
  have s4 := str_size P.name
  have s5 := str_size P.text
  have s8 := str_size P.topic
  have HW := hid hw1
  have HB := hid hB
  have HS := hid hs2
  clear hw1 hB hnv hcv hn hc hp hs2 hs he
  by_cases d0 : P.kind < 1
  · have e0 : decide (P.kind < 1) = true := decide_eq_true d0
    clear d0
    go_enter Try.func9, Try.ntmps9
    go_upto_region 1 with (fail)
    rw [← HW.out]
    clear HW
    go_wp2
    go_ret2
    exact ⟨HB.out, rfl⟩
  have e0 : decide (P.kind < 1) = false := decide_eq_false d0
  by_cases d1 : 14 < P.kind
  · have e1 : decide (14 < P.kind) = true := decide_eq_true d1
    clear d0 d1
    go_enter Try.func9, Try.ntmps9
    go_upto_region 1 with (fail)
    rw [← HW.out]
    clear HW
    go_wp2
    go_ret2
    exact ⟨HB.out, rfl⟩
  have e1 : decide (14 < P.kind) = false := decide_eq_false d1
  by_cases d2 : P.flags < 0
  · have e2 : decide (P.flags < 0) = true := decide_eq_true d2
    clear d0 d1 d2
    go_enter Try.func9, Try.ntmps9
    go_upto_region 1 with (fail)
    rw [← HW.out]
    clear HW
    go_wp2
    go_ret2
    exact ⟨HB.out, rfl⟩
  have e2 : decide (P.flags < 0) = false := decide_eq_false d2
  by_cases d3 : 15 < P.flags
  · have e3 : decide (15 < P.flags) = true := decide_eq_true d3
    clear d0 d1 d2 d3
    go_enter Try.func9, Try.ntmps9
    go_upto_region 1 with (fail)
    rw [← HW.out]
    clear HW
    go_wp2
    go_ret2
    exact ⟨HB.out, rfl⟩
  have e3 : decide (15 < P.flags) = false := decide_eq_false d3
  by_cases d4 : 32 < P.names.length
  · have e4 : decide (32 < (P.names.length : Int)) = true := decide_eq_true (by omega)
    clear d0 d1 d2 d3 d4
    go_enter Try.func9, Try.ntmps9
    go_upto_region 1 with (fail)
    rw [← HW.out]
    clear HW
    go_wp2
    go_ret2
    exact ⟨HB.out, rfl⟩
  have e4 : decide (32 < (P.names.length : Int)) = false := decide_eq_false (by omega)
  by_cases d5 : 32 < P.codes.length
  · have e5 : decide (32 < (P.codes.length : Int)) = true := decide_eq_true (by omega)
    clear d0 d1 d2 d3 d4 d5
    go_enter Try.func9, Try.ntmps9
    go_upto_region 1 with (fail)
    rw [← HW.out]
    clear HW
    go_wp2
    go_ret2
    exact ⟨HB.out, rfl⟩
  have e5 : decide (32 < (P.codes.length : Int)) = false := decide_eq_false (by omega)
  have e6 : decide (16384 < (P.name.length : Int) + (P.text.length : Int) + (P.topic.length : Int)) = true := decide_eq_true (by have := HS.out; omega)
  clear d0 d1 d2 d3 d4 d5
  go_enter Try.func9, Try.ntmps9
  go_upto_region 1 with (fail)
  rw [← HW.out]
  clear HW
  go_wp2
  go_ret2
  exact ⟨HB.out, rfl⟩
end Go.Proofs.Ytnljmllkfmgclaa
