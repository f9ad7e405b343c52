/-
  GENERAL lemmas on memory, beside Mem and Reg. Conditions: those that each lemma names.
-/
import Derived.Test.YtnljmllkfmgclaaReg3
import Derived.Test.YtnljmllkfmgclaaRows
namespace Go.Proofs.Ytnljmllkfmgclaa
open Go.RowKit
set_option linter.unusedVariables false
set_option linter.unusedSimpArgs false

abbrev I (n : Int) : Value := .int .i64 n
abbrev S (l : List UInt8) : Value := .string (str l)
theorem frozen_row {w : World} {p : Nat} {cs : Array Value} {t : TypeId} (h : w.heap[p]? = some (.cells cs t (0, 0))) (i : Nat) : w.frozen? ⟨p, i, none⟩ = false := by simp [World.frozen?, h]
theorem own_mod {w w' : World} {base : Nat} {e : TypeId} {size n : Nat} {v : Value} {xs : List Value} (h : w.ownsRow base e size v n xs) (hb : ∀ k, v.ownBlock = some k → w'.heap[k]? = w.heap[k]?) : w'.ownsRow base e size v n xs := by
  refine ⟨h.1, ?_⟩
  rcases h.2 with h0 | ⟨g, cap, cur, rfl, hbg, hg, r⟩
  · exact .inl h0
  · exact .inr ⟨g, cap, cur, rfl, hbg, (hb g rfl).trans hg, r⟩
theorem own_form {w : World} {base : Nat} {e : TypeId} {size n : Nat} {v : Value} {xs : List Value} (h : w.ownsRow base e size v n xs) : ∃ ao cap, v = .slice ao n cap := by
  rcases h.2 with ⟨rfl, rfl⟩ | ⟨g, cap, cur, rfl, _⟩
  · exact ⟨_, _, rfl⟩
  · exact ⟨_, _, rfl⟩
theorem own_anew {w : World} {b b' : Nat} {e : TypeId} {size n : Nat} {v : Value} {xs : List Value} (h : w.ownsRow b e size v n xs) (hb : ∀ k, v.ownBlock = some k → b' ≤ k) : w.ownsRow b' e size v n xs := by
  refine ⟨h.1, ?_⟩
  rcases h.2 with h0 | ⟨g, cap, cur, rfl, _, r⟩
  · exact .inl h0
  · exact .inr ⟨g, cap, cur, rfl, hb g rfl, r⟩
theorem own_sees' {w : World} {base : Nat} {e : TypeId} {v : Value} {l : List UInt8} {n : Nat} (h : w.ownsRow base e 1 v n (l.map B)) (hn : l.length = n) : Sees w v l := own_sees (own_len h hn.symm rfl)
theorem Mod.set {own : Nat → Prop} {w : World} {a : Addr} {u : Value} (h : own a.block) : Mod own w (w.setCell a u) :=
  ⟨rfl, rfl, rfl, by simp, fun k _ hk => heap_setCell_other w a k u (fun e => hk (e ▸ h))⟩
theorem Mod.setRow {own : Nat → Prop} {w : World} {g : Nat} {cs : Array Value} (h : own g) : Mod own w (w.setRow g cs) :=
  ⟨rfl, rfl, rfl, by simp, fun k _ hk => setRow_other w g k cs (fun e => hk (e ▸ h))⟩
theorem Mod.alloc {own : Nat → Prop} {w : World} (o : Obj) : Mod own w (w.alloc o) := Mod.of_below own ((Below.refl _ _).alloc (Nat.le_refl _) o)
theorem Mod.drew {own : Nat → Prop} (w : World) : Mod own w w.drew := ⟨rfl, rfl, rfl, Nat.le_refl _, fun _ _ _ => rfl⟩
theorem ret_int {k : IntKind} {a b : Int} (h : a = b) : Ending.returned (.int k a) = .returned (.int k b) := by rw [h]
theorem ret_str {a b : List UInt8} (h : a = b) : Ending.returned (S a) = .returned (S b) := by rw [h]
theorem byte_bd (c : UInt8) : 0 ≤ (c.toNat : Int) ∧ (c.toNat : Int) ≤ 255 := by have := c.toNat_lt; omega
theorem str_extract (l : List UInt8) (i j : Nat) : (str l).extract i j = str ((l.drop i).take (j - i)) := by
  apply ByteArray.ext
  apply Array.ext'
  simp [str, ByteArray.data_extract, List.extract_eq_take_drop, Array.toList_extract]
theorem str_inj {a b : List UInt8} (h : str a = str b) : a = b := by
  have := congrArg ByteArray.toList h
  rwa [str_toList, str_toList] at this
theorem str_append (a b : List UInt8) : str a ++ str b = str (a ++ b) := by
  apply ByteArray.ext
  apply Array.ext'
  simp [str]
theorem str_of (s : ByteArray) : s = str s.data.toList := by
  apply ByteArray.ext
  apply Array.ext'
  rfl
theorem Sees.form0 {w : World} {v : Value} {l : List UInt8} (h : Sees w v l) : ∃ ao cap, v = .slice ao l.length cap ∧ l.length ≤ 9223372036854775807 := by
  obtain ⟨ao, c, rfl, h1, h2, h3⟩ := h
  unfold maxLen at h2
  exact ⟨ao, c, rfl, by omega⟩
/-- Bytes of a text's constant, just laid. -/
theorem Sees.lit (w : World) (l : List UInt8) (fr : Nat × Nat) (hl : l.length ≤ maxLen) : Sees (w.alloc (.cells (l.map B).toArray 5 fr)) (.slice (some ⟨w.heap.size, 0, none⟩) l.length l.length) l := by
  refine ⟨_, _, rfl, Nat.le_refl _, hl, fun _ => ⟨_, 0, rfl, fun i c hi => ?_⟩⟩
  rw [cell_of_row _ _ _ _ _ fr (heap_alloc_new w _), Nat.zero_add]
  simp [hi]
/-- The values that a slice of values of one cell each holds. -/
def SeesV (w : World) (v : Value) (xs : List Value) : Prop :=
  ∃ ao cap, v = .slice ao xs.length cap ∧ xs.length ≤ cap ∧ cap ≤ maxLen ∧ (0 < xs.length → ∃ g off, ao = some ⟨g, off, none⟩ ∧ ∀ i u, xs[i]? = some u → w.cell? ⟨g, off + i, none⟩ = some u)
theorem SeesV.keep {w w' : World} {v : Value} {xs : List Value} (h : SeesV w v xs) (hk : ∀ k, v.ownBlock = some k → w'.heap[k]? = w.heap[k]?) : SeesV w' v xs := by
  obtain ⟨ao, cap, rfl, h1, h2, h3⟩ := h
  refine ⟨ao, cap, rfl, h1, h2, fun hp => ?_⟩
  obtain ⟨g, off, rfl, hc⟩ := h3 hp
  exact ⟨g, off, rfl, fun i u hi => (World.cell?_of_block (hk g rfl)).trans (hc i u hi)⟩
theorem SeesV.below {w w' : World} {v : Value} {xs : List Value} (h : SeesV w v xs) (hb : Below w.heap.size w w') : SeesV w' v xs := by
  obtain ⟨ao, cap, rfl, h1, h2, h3⟩ := h
  refine ⟨ao, cap, rfl, h1, h2, fun hp => ?_⟩
  obtain ⟨g, off, rfl, hc⟩ := h3 hp
  exact ⟨g, off, rfl, fun i u hi => (hb.cell (block_lt_of_cell (hc i u hi))).trans (hc i u hi)⟩
theorem SeesV.nil (w : World) : SeesV w (.slice none 0 0) [] := ⟨none, 0, rfl, Nat.le_refl _, Nat.zero_le _, fun h => absurd h (by simp)⟩
theorem SeesV.form {w : World} {v : Value} {xs : List Value} (h : SeesV w v xs) : ∃ ao cap, v = .slice ao xs.length cap ∧ xs.length ≤ 9223372036854775807 := by
  obtain ⟨ao, c, rfl, h1, h2, h3⟩ := h
  unfold maxLen at h2
  exact ⟨ao, c, rfl, by omega⟩
theorem own_seesV {w : World} {base : Nat} {e : TypeId} {v : Value} {n : Nat} {xs : List Value} (h : w.ownsRow base e 1 v n xs) (hn : xs.length = n) : SeesV w v xs := by
  subst hn
  rcases h.2 with ⟨rfl, h0⟩ | ⟨g, cap, cur, rfl, hb, hg, hnc, hcm, hcs, ht⟩
  · have : xs = [] := List.eq_nil_of_length_eq_zero h0
    subst this
    exact SeesV.nil w
  · refine ⟨_, cap, rfl, hnc, hcm, fun _ => ⟨g, 0, rfl, fun i u hi => ?_⟩⟩
    rw [Nat.zero_add]
    exact own_cell h hi
/-- A call that panics. -/
theorem wpK_callp {P : Program} {ops : Array Oper} {Q : Exit → Act → World → Prop} {R : World → World → Prop} {o : Oper} {rest : List (Oper × Nat)} {a : Act} {w : World} {k : Nat} {f : FuncId} {fn : Func} (hf : P.funcs[f]? = some fn) (hname : (fn.name == "runtime.NumGoroutine") = false) (hb : fn.body.isSome = true) {xs : Array Operand} {ts : Array TypeId} (hop : o.op = .call { callee := .value (.func f), args := xs, argTypes := ts })
    (hw : Region.wanted o (yielded ops a.tmps) = true) (args : Array Value) (hargs : xs.map a.eval = args)
    (h : Calls P f args w fun e w' => ∃ chain, e = .panicked chain ∧ Q (.panic chain) a w') : wpK P ops Q R ((o, k + 1) :: rest) a w := by
  unfold wpK
  rw [if_pos hw]
  have he := enters hf hname hb args w
  have hrun : (execOp a.eval o).run P w = .ok (.enter f args) w := by
    unfold execOp
    simp [hop, resolve, Deferred.ofValue, invoke, Act.eval, hargs, he]
  unfold Oper.wp
  rw [hrun, Oper.upon_enter]
  refine h.mono fun e w'' hh => ?_
  obtain ⟨chain, rfl, hk⟩ := hh
  exact hk
end Go.Proofs.Ytnljmllkfmgclaa
