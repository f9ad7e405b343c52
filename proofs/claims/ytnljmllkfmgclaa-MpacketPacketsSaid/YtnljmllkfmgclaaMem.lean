/-
  WORDS FOR MEMORY, for the walks of this seat: what a slice of bytes reads, what a call may have changed. Over any program.
  Conditions: none beyond what each lemma names.
-/
import Derived.WalkKit
import Derived.Maps.AppendAt
import Derived.Laws.BytesArg
namespace Go.Proofs.Ytnljmllkfmgclaa
open Go.RowKit
set_option linter.unusedVariables false
set_option linter.unusedSimpArgs false

/-- A fact laid behind 'Hid': the walk doesn't rewrite by it. -/
theorem hid {p : Prop} (h : p) : Hid p := h
/-- A byte, as a cell holds it. -/
abbrev B (c : UInt8) : Value := .int .u8 (c.toNat : Int)

/-- w' is w but for the blocks of 'own' and new ones. -/
structure Mod (own : Nat → Prop) (w w' : World) : Prop where
  os : w'.os = w.os
  tape : w'.tape = w.tape
  output : w'.output = w.output
  size : w.heap.size ≤ w'.heap.size
  block : ∀ k, k < w.heap.size → ¬ own k → w'.heap[k]? = w.heap[k]?

theorem Mod.refl (own : Nat → Prop) (w : World) : Mod own w w := ⟨rfl, rfl, rfl, Nat.le_refl _, fun _ _ _ => rfl⟩
theorem Mod.trans {own : Nat → Prop} {a b c : World} (h : Mod own a b) (k : Mod own b c) : Mod own a c :=
  ⟨k.os.trans h.os, k.tape.trans h.tape, k.output.trans h.output, Nat.le_trans h.size k.size, fun i hi ho => (k.block i (Nat.lt_of_lt_of_le hi h.size) ho).trans (h.block i hi ho)⟩
/-- The second step may change more, if that is new, or own. -/
theorem Mod.then {own own' : Nat → Prop} {a b c : World} (h : Mod own a b) (k : Mod own' b c) (hs : ∀ i, i < a.heap.size → own' i → own i) : Mod own a c :=
  ⟨k.os.trans h.os, k.tape.trans h.tape, k.output.trans h.output, Nat.le_trans h.size k.size, fun i hi ho => (k.block i (Nat.lt_of_lt_of_le hi h.size) (fun e => ho (hs i hi e))).trans (h.block i hi ho)⟩
theorem Mod.mono {own own' : Nat → Prop} {a b : World} (h : Mod own a b) (hs : ∀ i, i < a.heap.size → own i → own' i) : Mod own' a b :=
  ⟨h.os, h.tape, h.output, h.size, fun i hi ho => h.block i hi (fun e => ho (hs i hi e))⟩
theorem Mod.of_below {a b : World} (own : Nat → Prop) (h : Below a.heap.size a b) : Mod own a b := ⟨h.os, h.tape, h.output, h.size, fun k hk _ => h.block k hk⟩
theorem Mod.below {own : Nat → Prop} {a b : World} (h : Mod own a b) {n : Nat} (hn : n ≤ a.heap.size) (hs : ∀ i, i < n → ¬ own i) : Below n a b := ⟨h.os, h.tape, h.output, h.size, fun k hk => h.block k (Nat.lt_of_lt_of_le hk hn) (hs k hk)⟩
theorem Mod.cell {own : Nat → Prop} {a b : World} (h : Mod own a b) {p : Addr} {v : Value} (hv : a.cell? p = some v) (ho : ¬ own p.block) : b.cell? p = some v :=
  (World.cell?_of_block (w := a) (h.block p.block (block_lt_of_cell hv) ho)).trans hv

theorem add_off (g off j : Nat) : (⟨g, off, none⟩ : Addr).add j = ⟨g, off + j, none⟩ := by unfold Addr.add; split <;> simp_all
/-- A slice of bytes that reads l. -/
def Sees (w : World) (v : Value) (l : List UInt8) : Prop :=
  ∃ ao cap, v = .slice ao l.length cap ∧ l.length ≤ cap ∧ cap ≤ maxLen ∧ (0 < l.length → ∃ g off, ao = some ⟨g, off, none⟩ ∧ ∀ i c, l[i]? = some c → w.cell? ⟨g, off + i, none⟩ = some (B c))

theorem Sees.keep {w w' : World} {v : Value} {l : List UInt8} (h : Sees w v l) (hk : ∀ k, v.ownBlock = some k → w'.heap[k]? = w.heap[k]?) : Sees w' v l := by
  obtain ⟨ao, cap, rfl, h1, h2, h3⟩ := h
  refine ⟨ao, cap, rfl, h1, h2, fun hp => ?_⟩
  obtain ⟨g, off, rfl, hc⟩ := h3 hp
  exact ⟨g, off, rfl, fun i c hi => (World.cell?_of_block (w := w) (a := ⟨g, off + i, none⟩) (hk g rfl)).trans (hc i c hi)⟩
theorem Sees.nil (w : World) : Sees w (.slice none 0 0) [] := ⟨none, 0, rfl, Nat.le_refl _, Nat.zero_le _, fun h => absurd h (by simp)⟩
theorem Sees.below {w w' : World} {v : Value} {l : List UInt8} (h : Sees w v l) (hb : Below w.heap.size w w') : Sees w' v l := by
  obtain ⟨ao, cap, rfl, h1, h2, h3⟩ := h
  refine ⟨ao, cap, rfl, h1, h2, fun hp => ?_⟩
  obtain ⟨g, off, rfl, hc⟩ := h3 hp
  exact ⟨g, off, rfl, fun i c hi => (hb.cell (p := ⟨g, off + i, none⟩) (block_lt_of_cell (hc i c hi))).trans (hc i c hi)⟩
/-- A slice of bytes that came in. -/
theorem sees_in {w : World} {a : Option Addr} {len cap : Nat} {zs : List Int} (h : (a = none ∧ len = 0 ∧ cap = 0 ∧ zs = []) ∨
    ∃ x, a = some x ∧ len ≤ cap ∧ cap ≤ maxLen ∧ zs.length = cap ∧ (∀ i, i < zs.length → w.cell? (x.add i) = some (.int .u8 (zs.getD i 0))) ∧ ∀ n ∈ zs, (Lit.int .u8 n).wf = true) :
    ∃ l : List UInt8, l.length = len ∧ Sees w (.slice a len cap) l := by
  rcases h with ⟨rfl, rfl, rfl, rfl⟩ | ⟨x, rfl, hl, hm, hz, hc, hw⟩
  · exact ⟨[], rfl, Sees.nil w⟩
  · have hlen : ((zs.take len).map fun n => UInt8.ofNat n.toNat).length = len := by simp; omega
    refine ⟨(zs.take len).map fun n => UInt8.ofNat n.toNat, hlen, some x, cap, by rw [hlen], by omega, hm, fun hp => ?_⟩
    rw [hlen] at hp
    obtain ⟨g, off, spot⟩ := x
    have h0 := hc 0 (by omega)
    have hs : spot = none := by simpa [Addr.add] using World.cell?_spot h0
    subst hs
    refine ⟨g, off, rfl, fun i c hi => ?_⟩
    have hil : i < len := by have := (List.getElem?_eq_some_iff.1 hi).1; omega
    have hci := hc i (by omega)
    rw [add_off] at hci
    rw [hci]
    have hzi : zs[i]? = some (zs.getD i 0) := by rw [List.getElem?_eq_getElem (by omega), List.getD_eq_getElem?_getD, List.getElem?_eq_getElem (by omega)]; rfl
    rw [List.getElem?_map, List.getElem?_take, if_pos hil, hzi] at hi
    simp only [Option.map_some, Option.some.injEq] at hi
    subst hi
    have hwf := hw _ (List.mem_of_getElem? hzi)
    generalize zs.getD i 0 = n at *
    simp only [Lit.wf, IntKind.min, IntKind.max, IntKind.signed, IntKind.bits, Bool.and_eq_true, decide_eq_true_eq] at hwf
    have h1 : 0 ≤ n ∧ n ≤ 255 := by simpa using hwf
    have e : ((UInt8.ofNat n.toNat).toNat : Int) = n := by rw [UInt8.toNat_ofNat_of_lt' (by simp [UInt8.size]; omega)]; omega
    show some (Value.int .u8 n) = some (.int .u8 ((UInt8.ofNat n.toNat).toNat : Int))
    rw [e]
/-- Its first cells. -/
theorem Sees.open {w : World} {v : Value} {l : List UInt8} (h : Sees w v l) : (l = [] ∧ ∃ ao cap, v = .slice ao 0 cap ∧ cap ≤ maxLen) ∨
    ∃ g off cap, 0 < l.length ∧ v = .slice (some ⟨g, off, none⟩) l.length cap ∧ l.length ≤ cap ∧ cap ≤ maxLen ∧ (∀ i c, l[i]? = some c → w.cell? ⟨g, off + i, none⟩ = some (B c)) := by
  obtain ⟨ao, cap, rfl, h1, h2, h3⟩ := h
  by_cases hl : 0 < l.length
  · obtain ⟨g, off, rfl, hc⟩ := h3 hl
    exact .inr ⟨g, off, cap, hl, rfl, h1, h2, hc⟩
  · have : l = [] := List.eq_nil_of_length_eq_zero (by omega)
    subst this
    exact .inl ⟨rfl, ao, cap, rfl, h2⟩

/-! ### append, of whatever source -/
/-- What append reads of its source: m elements of so many cells. -/
def Src (w : World) (size : Nat) (x : Value) (m : Nat) (news : List Value) : Prop :=
  ∃ ao c, x = .slice ao m c ∧ news.length = m * size ∧ (∀ u ∈ news, u.oneCell' = true) ∧ (0 < m → ∃ ad, ao = some ad ∧ ∀ j u, news[j]? = some u → w.cell? (ad.add j) = some u)
theorem Sees.src {w : World} {v : Value} {l : List UInt8} (h : Sees w v l) : Src w 1 v l.length (l.map B) := by
  obtain ⟨ao, cap, rfl, h1, h2, h3⟩ := h
  refine ⟨ao, cap, rfl, by simp, fun u hu => by obtain ⟨c, _, rfl⟩ := List.mem_map.1 hu; rfl, fun hp => ?_⟩
  obtain ⟨g, off, rfl, hc⟩ := h3 hp
  refine ⟨_, rfl, fun j u hj => ?_⟩
  rw [add_off]
  rw [List.getElem?_map] at hj
  cases hl : l[j]? with
  | none => rw [hl] at hj; cases hj
  | some c => rw [hl] at hj; simp only [Option.map_some, Option.some.injEq] at hj; subst hj; exact hc j c hl
theorem Src.head {w : World} {g off cap m : Nat} {l : List UInt8} (hc : ∀ i c, l[i]? = some c → w.cell? ⟨g, off + i, none⟩ = some (B c)) (hm : m ≤ l.length) : Src w 1 (.slice (some ⟨g, off, none⟩) m cap) m ((l.map B).take m) := by
  refine ⟨_, cap, rfl, by simp; omega, fun u hu => by obtain ⟨c, _, rfl⟩ := List.mem_map.1 (List.mem_of_mem_take hu); rfl, fun _ => ⟨_, rfl, fun j u hj => ?_⟩⟩
  rw [add_off]
  rw [List.getElem?_take] at hj
  split at hj
  · rw [List.getElem?_map] at hj
    cases hl : l[j]? with
    | none => rw [hl] at hj; cases hj
    | some c => rw [hl] at hj; simp only [Option.map_some, Option.some.injEq] at hj; subst hj; exact hc j c hl
  · cases hj
/-- One element that was just laid in a block of its own. -/
theorem Src.new (w : World) (size : Nat) (e : TypeId) (news : List Value) (hl : news.length = size) (h1 : ∀ u ∈ news, u.oneCell' = true) : Src (w.alloc (.cells news.toArray e)) size (.slice (some ⟨w.heap.size, 0, none⟩) 1 1) 1 news := by
  refine ⟨_, _, rfl, by omega, h1, fun _ => ⟨_, rfl, fun j u hj => ?_⟩⟩
  rw [add_off, Nat.zero_add, cell_of_row _ _ _ _ _ _ (heap_alloc_new w _)]
  simpa using hj

theorem Src.keep {w w' : World} {size : Nat} {x : Value} {m : Nat} {news : List Value} (h : Src w size x m news) (hk : ∀ k, x.ownBlock = some k → k < w.heap.size → w'.heap[k]? = w.heap[k]?) : Src w' size x m news := by
  obtain ⟨ao, c, rfl, h1, h2, h3⟩ := h
  refine ⟨ao, c, rfl, h1, h2, fun hp => ?_⟩
  obtain ⟨ad, rfl, hc⟩ := h3 hp
  refine ⟨ad, rfl, fun j u hj => ?_⟩
  have := hc j u hj
  have hb := block_lt_of_cell this
  have e : (ad.add j).block = ad.block := by unfold Addr.add; split <;> rfl
  exact (World.cell?_of_block (w := w) (hk _ (by rw [e]; rfl) hb)).trans this

/-- append: SOME value that owns the longer row. -/
theorem run_app {P : Program} (w : World) (base : Nat) (t ty e : TypeId) (z : Value) (size bytes : Nat) (ht : P.underlying t = some (.slice e)) (hinfo : (P.info? e).map (fun i => (i.zero, i.size, i.bytes)) = some (some z, size, bytes))
    (hzs : z.cells.size = size) (hsz : 0 < size) (v : Value) (n : Nat) (xs : List Value) (hown : w.ownsRow base e size v n xs) (x : Value) (m : Nat) (news : List Value) (hs : Src w size x m news)
    (h63 : n + m ≤ maxLen) (hbytes : (n + m) * bytes ≤ 140737488355328) (hbase : base ≤ w.heap.size) :
    ∃ v' w', (Builtin.append_ #[t, t] ty #[v, x]).run P w = .ok v' w' ∧ w'.ownsRow base e size v' (n + m) (xs ++ news) ∧ w.grownBy w' v.ownBlock ∧ (v'.ownBlock = v.ownBlock ∨ v'.ownBlock = some w.heap.size) := by
  obtain ⟨i, hi, hz0, hz1, hz2⟩ := info_parts hinfo
  obtain ⟨ao, c, rfl, hl, h1, hc⟩ := hs
  by_cases hm : 0 < m
  · obtain ⟨ad, rfl, hcc⟩ := hc hm
    obtain ⟨v', w', hr, h2, h3, -, h5⟩ := run_append_own_at (P := P) w base t ty e i z size bytes ht hi hz0 hz1 hz2 hzs hsz v n xs hown ad m c news hl hcc h1 h63 hbytes hbase
    exact ⟨v', w', hr, h2, h3, h5⟩
  · obtain rfl : m = 0 := by omega
    obtain rfl : news = [] := List.eq_nil_of_length_eq_zero (by simpa using hl)
    have hf : (Builtin.firstCells i.size 0 (.slice ao 0 c)).run P w = .ok #[] w := by
      cases ao <;> simp [Builtin.firstCells, loadCells, loadCellsFrom]
    refine ⟨v, w, ?_, by simpa using hown, ⟨rfl, rfl, rfl, Nat.le_refl _, fun _ _ _ => rfl⟩, .inl rfl⟩
    rcases hown.2 with ⟨rfl, rfl⟩ | ⟨g, cap, cur, rfl, hbg, hg, hnc, hcm, hcs, htake⟩
    · simp [Builtin.append_, run_underlying ht, sizeOf, typeInfo, hi, Builtin.lenOf, hf]
    · simp [Builtin.append_, run_underlying ht, sizeOf, typeInfo, hi, Builtin.lenOf, hf, hnc, storeCells]

/-- For a walk: at an append in a plain region. -/
theorem wpList_app {P : Program} {ops : Array Oper} {rest : List Oper} {o : Oper} {a : Act} {w : World} {Q : Exit → Act → World → Prop} (hgd : o.guard = none) (s x : Operand) (t : TypeId)
    (ho : o.op = .call { callee := .builtin .append, args := #[s, x], argTypes := #[t, t] })
    (base : Nat) (e : TypeId) (z : Value) (size bytes : Nat) (ht : P.underlying t = some (.slice e)) (hinfo : (P.info? e).map (fun i => (i.zero, i.size, i.bytes)) = some (some z, size, bytes))
    (hzs : z.cells.size = size) (hsz : 0 < size) (n : Nat) (xs : List Value) (m : Nat) (news : List Value)
    (hown : w.ownsRow base e size (a.eval s) n xs) (hs : Src w size (a.eval x) m news) (h63 : n + m ≤ maxLen) (hbytes : (n + m) * bytes ≤ 140737488355328) (hbase : base ≤ w.heap.size)
    (h : ∀ v' w', w'.ownsRow base e size v' (n + m) (xs ++ news) → w.grownBy w' (a.eval s).ownBlock → (v'.ownBlock = (a.eval s).ownBlock ∨ v'.ownBlock = some w.heap.size) → wpList P ops Q rest (a.put o.dst v') w') : wpList P ops Q (o :: rest) a w := by
  refine wpList_plain hgd fun K hK => ?_
  obtain ⟨v', w', hr, h2, h3, h4⟩ := run_app (P := P) w base t o.type e z size bytes ht hinfo hzs hsz _ n xs hown _ m news hs h63 hbytes hbase
  unfold Oper.wp execOp
  simp only [ho, resolve, invoke, builtin, Sem.run_bind, Sem.run_pure, Result.andThen_ok, List.map_toArray, List.map_cons, List.map_nil, hr]
  exact hK _ _ (h v' w' h2 h3 h4)

/-- The text of bytes. -/
def str (l : List UInt8) : ByteArray := ⟨l.toArray⟩
theorem str_list (l : List UInt8) : (str l).data.toList = l := rfl
theorem toList_loop (s : ByteArray) : ∀ (n i : Nat) (r : List UInt8), s.size - i = n → ByteArray.toList.loop s i r = r.reverse ++ s.data.toList.drop i := by
  intro n
  induction n with
  | zero =>
    intro i r h
    unfold ByteArray.toList.loop
    have h2 : ¬ i < s.size := by omega
    rw [if_neg h2, List.drop_of_length_le (by rw [Array.length_toList]; show s.size ≤ i; omega), List.append_nil]
  | succ n ih =>
    intro i r h
    unfold ByteArray.toList.loop
    have h2 : i < s.size := by omega
    have h3 : i < s.data.toList.length := by rw [Array.length_toList]; exact h2
    rw [if_pos h2, ih (i + 1) _ (by omega), List.drop_eq_getElem_cons h3]
    have e : s.get! i = s.data.toList[i] := by
      have e1 : s.get! i = s.data.getD i default := rfl
      rw [e1, Array.getD_eq_getD_getElem?, Array.getElem?_eq_getElem h2]
      simp
    simp [e]
theorem str_toList (l : List UInt8) : (str l).toList = l := by
  show ByteArray.toList.loop (str l) 0 [] = l
  rw [toList_loop _ _ 0 [] rfl]
  rfl
theorem str_size (l : List UInt8) : (str l).size = l.length := by simp [str, ByteArray.size]
theorem run_str {P : Program} {w : World} {src dst e : TypeId} (hs : P.underlying src = some (.slice e)) (he : P.underlying e = some (.int .u8)) (hd : P.underlying dst = some .string) {v : Value} {l : List UInt8} (hv : Sees w v l) :
    (convert src dst v).run P w = .ok (.string (str l)) w := by
  obtain ⟨ao, cap, rfl, h1, h2, h3⟩ := hv
  by_cases hl : 0 < l.length
  · obtain ⟨g, off, rfl, hc⟩ := h3 hl
    have h := run_convert_bytes_arg (P := P) w src e hs he g off l.length cap (l.map fun c => (c.toNat : Int)) (by simp) (fun i hi => by
      rw [hc i _ (List.getElem?_eq_getElem hi)]
      simp [List.getD_eq_getElem?_getD, List.getElem?_eq_getElem hi]) dst hd
    rw [h]
    have e : strOfNums (l.map fun c => (c.toNat : Int)) = str l := by
      unfold strOfNums str
      rw [List.map_map]
      congr 2
      refine (List.map_congr_left (fun c _ => ?_)).trans (List.map_id l)
      simp
    rw [e]
  · obtain rfl : l = [] := List.eq_nil_of_length_eq_zero (by omega)
    cases ao with
    | none => exact run_convert_bytes_nil w src e hs he _ _ dst hd
    | some a => 
      rw [run_convert_bytes_string w src dst e _ _ _ hs he hd]
      have hl0 : (loadCells a ([] : List UInt8).length).run P w = .ok (([] : List Int).map (Value.int .u8)).toArray w := by simp [loadCells, loadCellsFrom]
      have h := run_bytesToString (P := P) w a ([] : List UInt8).length cap [] hl0
      rw [h]
      rfl
/-- For a walk: '[]byte' to 'string', the operation told by its slot. -/
theorem wpList_str {P : Program} {ops : Array Oper} {rest : List Oper} {o : Oper} {a : Act} {w : World} {Q : Exit → Act → World → Prop} (N : Tmp) (hN : o.dst = some N) (src dst : TypeId) (x : Operand) (ho : o.op = .convert src dst x)
    (hw : Region.wanted o (yielded ops a.tmps) = true) (e : TypeId) (hs : P.underlying src = some (.slice e)) (he : P.underlying e = some (.int .u8)) (hd : P.underlying dst = some .string) (l : List UInt8) (hv : Sees w (a.eval x) l)
    (h : wpList P ops Q rest (a.put (some N) (.string (str l))) w) : wpList P ops Q (o :: rest) a w := by
  refine wpList_step fun K hK => ?_
  rw [if_pos hw]
  unfold Oper.wp execOp
  simp only [ho, Sem.run_bind, run_str hs he hd hv, Result.andThen_ok, Sem.run_pure, Oper.upon_value, hN]
  exact hK _ _ h

/-- A row of bytes of one's own, seen. -/
theorem own_sees {w : World} {base : Nat} {e : TypeId} {v : Value} {l : List UInt8} (h : w.ownsRow base e 1 v l.length (l.map B)) : Sees w v l := by
  obtain ⟨h1, h2⟩ := h
  rcases h2 with ⟨rfl, h0⟩ | ⟨g, cap, cur, rfl, hb, hg, hn, hc, hcs, ht⟩
  · obtain rfl : l = [] := List.eq_nil_of_length_eq_zero h0
    exact Sees.nil w
  · refine ⟨_, cap, rfl, hn, hc, fun _ => ⟨g, 0, rfl, fun i c hi => ?_⟩⟩
    rw [cell_of_row w g _ cur e (0, 0) hg, Nat.zero_add]
    have hil : i < l.length := (List.getElem?_eq_some_iff.1 hi).1
    have : (cur.toList.take (l.length * 1))[i]? = some (B c) := by rw [ht, List.getElem?_map, hi]; rfl
    rw [List.getElem?_take, if_pos (by omega)] at this
    simpa using this
theorem own_lt {w : World} {base : Nat} {e : TypeId} {size n : Nat} {v : Value} {xs : List Value} (h : w.ownsRow base e size v n xs) : ∀ k, v.ownBlock = some k → base ≤ k ∧ k < w.heap.size := h.lt
/-- What a call answers: a row of bytes of its own, all old memory as it was. -/
def Fresh (w : World) (l : List UInt8) (e : Ending) (w' : World) : Prop := ∃ v, e = .returned v ∧ w'.ownsRow w.heap.size 5 1 v l.length (l.map B) ∧ Below w.heap.size w w'
end Go.Proofs.Ytnljmllkfmgclaa
