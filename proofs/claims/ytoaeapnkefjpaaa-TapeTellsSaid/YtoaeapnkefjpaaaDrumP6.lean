/-
  THE PROGRAM'S DRUM, sixth file: slices.Clone, Read, New. Conditions: those that each contract names.
-/
import Derived.Test.YtoaeapnkefjpaaaDrumP5
import Derived.Lib.SliceRun
namespace Go.Proofs.Ytoaeapnkefjpaaa
open Go.RowKit
set_option linter.unusedVariables false
set_option linter.unusedSimpArgs false

set_option maxRecDepth 100000 in
set_option maxHeartbeats 800000 in
theorem clone_any (w : World) (v : Value) (l : List UInt8) (hv : Sees w v l) (hl : 0 < l.length) (hl2 : l.length ≤ 1099511627776) : Calls Try.prog 94 #[v] w (Fresh w l) := by
  obtain ⟨g, off, cap, rfl⟩ := hv.form hl
  have HV := hid hv
  clear hv
  have hnil : ∀ w, (binOp .eql 23 (.slice (some ⟨g, off, none⟩) l.length cap) (.slice none 0 0)).run Try.prog w = .ok (.bool false) w := fun w => Lib.run_eql_slice_nil w 23 5 _ _ _ _ _ Try.underlying23
  go_enter Try.func94, Try.ntmps94
  go_wp2_with (at_builtin; refine wpList_app rfl (.tmp 5) (.tmp 6) 23 rfl w.heap.size 5 (.int .u8 0) 1 1 Try.underlying23 info5 rfl (by decide) 0 [] l.length (l.map B) ?own ?src ?h63 ?hb (by simp) ?_)
  case own => exact World.ownsRow_made w #[] 0 (Nat.le_refl _) (Nat.zero_le _) rfl
  case src => exact (HV.out.below ((Below.refl _ _).alloc (Nat.le_refl _) _)).src
  case h63 => unfold maxLen; omega
  case hb => omega
  intro v1 w1 hown hgrow hat
  go_wp2
  go_ret
  exact ⟨v1, rfl, by simpa using hown, ((Below.refl _ _).alloc (Nat.le_refl _) _).grown hgrow (by simp) (fun k hk => by cases hk; exact Nat.le_refl _)⟩

/-- What a call answers: a row of bytes of its own and a number, all old memory as it was. -/
def Fresh2 (w : World) (l : List UInt8) (c : Int) (e : Ending) (w' : World) : Prop := ∃ v, e = .returned (.tuple #[v, I c]) ∧ w'.ownsRow w.heap.size 5 1 v l.length (l.map B) ∧ Below w.heap.size w w'
theorem Fresh2.none (w : World) (c : Int) : Fresh2 w [] c (.returned (.tuple #[.slice none 0 0, I c])) w := ⟨_, rfl, World.ownsRow_nil _ _ _ _, Below.refl _ _⟩

set_option maxRecDepth 100000 in
set_option maxHeartbeats 800000 in
theorem read_bad (w : World) (p : Nat) (own : Nat → Prop) (D : DS) (a : Int) (h : DrumAt w p own D) (ha : -9223372036854775808 ≤ a ∧ a ≤ 9223372036854775807) (hb : a < 0 ∨ (D.safe.length : Int) ≤ a) :
    Calls Try.prog 58 #[.pointer (some ⟨p, 0, none⟩), I a] w (Fresh2 w [] 1) := by
  obtain ⟨s, wv, h⟩ := h
  have c0 := h.c0
  have hn := h.ok.n2
  clear h
  by_cases h1 : a < 0
  · clear hb
    go_enter Try.func58, Try.ntmps58
    go_wp2
    go_ret2
    exact Fresh2.none w 1
  have h2 : (D.safe.length : Int) ≤ a := by omega
  clear hb
  go_enter Try.func58, Try.ntmps58
  go_wp2
  go_ret2
  exact Fresh2.none w 1
set_option maxRecDepth 100000 in
set_option maxHeartbeats 800000 in
theorem read_off (w : World) (p : Nat) (own : Nat → Prop) (D : DS) (a : Nat) (h : DrumAt w p own D) (ha : a < D.safe.length) (ho : D.off = true) :
    Calls Try.prog 58 #[.pointer (some ⟨p, 0, none⟩), I a] w (Fresh2 w [] 20) := by
  obtain ⟨s, wv, h⟩ := h
  have c0 := h.c0
  have c2 := h.c2
  rw [ho] at c2
  have hn := h.ok.n2
  clear h
  go_enter Try.func58, Try.ntmps58
  go_wp2
  go_ret2
  exact Fresh2.none w 20
theorem below_row {n g : Nat} {a b : World} (h : Below n a b) (hg : n ≤ g) (cs : Array Value) : Below n a (b.setRow g cs) :=
  ⟨h.os, h.tape, h.output, by simpa using h.size, fun k hk => (setRow_other b g k cs (by omega)).trans (h.block k hk)⟩
theorem zsize125 : Try.zeroCells125.size = 256 := by kernel_rfl
theorem page_range {w : World} {s : Nat} {safe : List (List UInt8)} {t : TypeId} (hs : w.heap[s]? = some (.cells (safe.flatMap pageCells).toArray t (0, 0))) (hp : ∀ q ∈ safe, q.length = 256) {k : Nat} {pg : List UInt8} (hk : safe[k]? = some pg) : w.rangeAt s (k * 256) (pageCells pg) := by
  intro j v hv
  have hl := hp pg (List.mem_of_getElem? hk)
  have hj : j < 256 := by have := (List.getElem?_eq_some_iff.1 hv).1; rwa [pageCells_len hl] at this
  rw [cell_of_row w s _ _ _ _ hs]
  simp only [List.getElem?_toArray]
  rw [rows_get (fun q hq => pageCells_len (hp q hq)) hk hj, hv]
set_option maxRecDepth 100000 in
set_option maxHeartbeats 1600000 in
theorem read_on (w : World) (p : Nat) (own : Nat → Prop) (D : DS) (a : Nat) (h : DrumAt w p own D) (ha : a < D.safe.length) (ho : D.off = false) :
    Calls Try.prog 58 #[.pointer (some ⟨p, 0, none⟩), I a] w (Fresh2 w (DS.look D.safe D.waits a) 0) := by
  obtain ⟨s, wv, h⟩ := h
  obtain ⟨ao, cap, rfl⟩ := own_form h.hw
  have c0 := h.c0
  have c1 := h.c1
  have c2 := h.c2
  rw [ho] at c2
  have hn := h.ok.n2
  obtain ⟨hpg0, hpl0⟩ := DS.safe_len h.ok.page ha
  have hlook : DS.look D.safe D.waits a = DS.seen (D.safe.getD a []) D.waits a := rfl
  rw [hlook]
  clear hlook
  generalize D.safe.getD a [] = pg0 at *
  have hr0 := hid (page_range h.hs h.ok.page hpg0)
  have hst : ∀ (w' : World) (l : List UInt8), l.length = 256 → (storeCells ⟨w'.heap.size, 0, none⟩ (pageCells l) 0).run Try.prog (w'.alloc (.cells Try.zeroCells125 125)) = .ok () (w'.alloc (.cells (pageCells l).toArray 125)) := fun w' l hl => by
    have := run_storeCells_new (P := Try.prog) w' 125 Try.zeroCells125 (pageCells l).toArray (by simp [pageCells_len hl, z125]) (zsize125.trans (by simp [pageCells_len hl])) (all_oneCell_toArray pageCells_one)
    simpa using this
  have hst0 := hst w pg0 hpl0
  have hsz0 := pageCells_len hpl0
  have hz0 := hid (show (Try.prog.info? 125).map (·.size) = some (pageCells pg0).length by rw [hsz0]; exact z125)
  have c1' : (w.alloc (.cells (pageCells pg0).toArray 125)).cell? ⟨p, 1, none⟩ = some (.slice ao D.waits.length cap) := ((Below.refl _ _).alloc (Nat.le_refl _) _).cell (block_lt_of_cell c1) |>.trans c1
  have HH := hid h
  have HP0 := hid hpl0
  clear h hst hpg0 hpl0 c1
  go_enter Try.func58, Try.ntmps58
  go_wp2_with (show wpList _ _ _ ({ dst := some 35, op := _, type := _, pos := _, after := _, guard := _ } :: _) _ _; refine wpList_load_mid rfl 125 (.tmp 34) rfl s (a * 256) rfl (pageCells pg0) _ hr0.out Try.underlying125 rfl hz0.out ?_)
  clear hst0 c2 c0 hsz0 hz0 c1'
  go_loopw [41] (fun i wr => ∃ (j : Nat), j ≤ D.waits.length ∧ i = I j ∧ Hid (wr.heap[w.heap.size]? = some (.cells (pageCells (DS.seen pg0 (D.waits.take j) a)).toArray 125 (0, 0))) ∧ Hid (Below w.heap.size w wr)) (fun i _ => D.waits.length - (intOf i).toNat)
  case atStart => exact ⟨0, Nat.zero_le _, rfl, hid (heap_alloc_new w _), hid ((Below.refl _ _).alloc (Nat.le_refl _) _)⟩
  case round =>
    obtain ⟨j, hj, rfl, hS, hM⟩ := hrel
    have h := HH.out.keep (fun k hk => hM.out.block k (HH.out.lt k hk)) hM.out.size
    have hsl := DS.seen_len (k := a) HP0.out (fun x hx => (HH.out.ok.wait x (List.mem_of_mem_take hx)).2 : ∀ x ∈ D.waits.take j, x.2.length = 256)
    by_cases hlt : j < D.waits.length
    · obtain ⟨x0, hx0⟩ : ∃ x0, D.waits[j]? = some x0 := ⟨_, List.getElem?_eq_getElem hlt⟩
      obtain ⟨g, cap', hv, hnc, hcm, -, hg⟩ := own_slice h.hw (by omega)
      unfold maxLen at hcm
      simp only [Value.slice.injEq] at hv
      obtain ⟨rfl, -, -⟩ := hv
      have HX0 := hid hx0
      have hrange := hid (wait_cell h.hw (fun y hy => (h.ok.wait y hy).2) hx0)
      have hx2 := (h.ok.wait x0 (List.mem_of_getElem? hx0)).2
      have hst : ∀ w' : World, (storeCells ⟨w'.heap.size, 0, none⟩ (waitCells x0) 0).run Try.prog (w'.alloc (.cells Try.zeroCells127 127)) = .ok () (w'.alloc (.cells (waitCells x0).toArray 127)) := fun w' => by
        have := run_storeCells_new (P := Try.prog) w' 127 Try.zeroCells127 (waitCells x0).toArray (by simp [waitCells_len hx2, z127]) (zsize127.trans (by simp [waitCells_len hx2])) (all_oneCell_toArray waitCells_one)
        simpa using this
      have hwl := waitCells_len hx2
      have hz := hid (show (Try.prog.info? 127).map (·.size) = some (waitCells x0).length by rw [waitCells_len hx2]; exact z127)
      obtain ⟨a0, pg⟩ := x0
      have hb1 : (wr.alloc (.cells (waitCells (a0, pg)).toArray 127)).heap[wr.heap.size]? = some (.cells (waitCells (a0, pg)).toArray 127 (0, 0)) := heap_alloc_new _ _
      have hc0 : (wr.alloc (.cells (waitCells (a0, pg)).toArray 127)).cell? ⟨wr.heap.size, 0, none⟩ = some (.int .i64 a0) := by rw [cell_of_row _ _ _ _ _ _ hb1]; rfl
      have hpg : pg.length = 256 := hx2
      have hld := run_load_data hb1 hpg
      have HB1 := hid hb1
      have HLD := hid hld
      have ha0 := (h.ok.wait _ (List.mem_of_getElem? hx0)).1
      have hn2 := h.ok.n2
      have hS6 : (wr.alloc (.cells (waitCells (a0, pg)).toArray 127)).heap[w.heap.size]? = some (.cells (pageCells (DS.seen pg0 (D.waits.take j) a)).toArray 125 (0, 0)) := (((Below.refl _ _).alloc (Nat.le_refl _) _).block _ (Array.getElem?_eq_some_iff.1 hS.out).1).trans hS.out
      have HS6 := hid hS6
      have hst6 := hid (run_store_row hS6 hpg hsl)
      have HX2 := hid hx2
      have HPG := hid hpg
      have HSL := hid hsl
      clear hx0 h hx2 hb1 hld hS6 hpg hsl
      by_cases hat : a0 = a
      · subst hat
        go_wp2_with (first | (show wpList _ _ _ ({ dst := some 44, op := _, type := _, pos := _, after := _, guard := _ } :: _) _ _; refine wpList_load_mid rfl 127 (.tmp 43) rfl g (j * 257) rfl (waitCells (a0, pg)) _ hrange.out Try.underlying127 rfl hz.out ?_) | (show wpList _ _ _ ({ dst := some 50, op := _, type := _, pos := _, after := _, guard := _ } :: _) _ _; refine wpList_load_by rfl (.tmp 49) rfl (.pointer (some ⟨wr.heap.size, 1, none⟩)) rfl HLD.out ?_) | (show wpList _ _ _ ({ dst := none, op := Op.store _ (.tmp 6) _, type := _, pos := _, after := _, guard := _ } :: _) _ _; refine wpList_store_by rfl (.tmp 6) (.tmp 50) rfl rfl (.pointer (some ⟨w.heap.size, 0, none⟩)) (.agg (pageCells pg).toArray) rfl rfl hst6.out ?_))
        go_roundw
        case rel =>
          refine ⟨j + 1, by omega, by go_num, ?_, ?_⟩
          · rw [List.take_add_one, HX0.out, Option.toList_some, DS.seen_snoc, if_pos rfl]
            exact hid (setRow_heap _ _ _ _ _ _ HS6.out)
          · exact hid (below_row (hM.out.alloc hM.out.size _) (Nat.le_refl _) _)
        case measure => simp [intOf]; omega
      · have hat' : ¬ (a0 : Int) = (a : Int) := by omega
        go_wp2_with (show wpList _ _ _ ({ dst := some 44, op := _, type := _, pos := _, after := _, guard := _ } :: _) _ _; refine wpList_load_mid rfl 127 (.tmp 43) rfl g (j * 257) rfl (waitCells (a0, pg)) _ hrange.out Try.underlying127 rfl hz.out ?_)
        go_roundw
        case rel =>
          refine ⟨j + 1, by omega, by go_num, ?_, ?_⟩
          · rw [List.take_add_one, HX0.out, Option.toList_some, DS.seen_snoc, if_neg hat]
            exact HS6
          · exact hid (hM.out.alloc hM.out.size _)
        case measure => simp [intOf]; omega
    · have hj' : j = D.waits.length := by omega
      subst hj'
      have hS' := hS.out
      rw [List.take_length] at hS' hsl
      have hv : Sees wr (.slice (some ⟨w.heap.size, 0, none⟩) 256 256) (DS.seen pg0 D.waits a) := by
        refine ⟨_, 256, by rw [hsl], by omega, by unfold maxLen; omega, fun _ => ⟨_, 0, rfl, fun i c hi => ?_⟩⟩
        rw [cell_of_row _ _ _ _ _ _ hS', Nat.zero_add]
        simp [pageCells, hi]
      have HV := hid hv
      have hall : ∀ w', (Instr.sliceAt 125 (.pointer (some ⟨w.heap.size, 0, none⟩)) none none none).run Try.prog w' = .ok (.slice (some ⟨w.heap.size, 0, none⟩) 256 256) w' := fun w' => run_sl_arr_all _ _ _
      have HSL := hid hsl
      clear h hS' hv hsl
      go_wp2_with (go_at_call 94; refine (clone_any _ _ _ HV.out (by rw [HSL.out]; omega) (by rw [HSL.out]; omega)).mono ?_; rintro e w5 ⟨v5, rfl, hA, hB⟩; have HA := hid hA; have HB := hid hB; clear hA hB)
      go_ret2
      refine ⟨v5, rfl, ⟨HA.out.1, ?_⟩, hM.out.trans (HB.out.mono hM.out.size)⟩
      rcases HA.out.2 with h0 | ⟨g, cap, cur, h1, h2, h3⟩
      · exact .inl h0
      · exact .inr ⟨g, cap, cur, h1, Nat.le_trans hM.out.size h2, h3⟩
theorem read_any (w : World) (p : Nat) (own : Nat → Prop) (D : DS) (a : Int) (h : DrumAt w p own D) (ha : -9223372036854775808 ≤ a ∧ a ≤ 9223372036854775807) :
    Calls Try.prog 58 #[.pointer (some ⟨p, 0, none⟩), I a] w (Fresh2 w (D.read a).2 (D.read a).1) := by
  unfold DS.read
  by_cases hb : a < 0 ∨ (D.safe.length : Int) ≤ a
  · rw [if_pos hb]
    exact read_bad w p own D a h ha hb
  · rw [if_neg hb]
    obtain ⟨n, rfl⟩ : ∃ n : Nat, a = n := ⟨a.toNat, by omega⟩
    by_cases ho : D.off = true
    · rw [if_pos ho]
      exact read_off w p own D n h (by omega) ho
    · rw [if_neg ho, Int.toNat_natCast]
      exact read_on w p own D n h (by omega) (by simpa using ho)
theorem read_nil (w : World) (a : Int) : Calls Try.prog 58 #[.pointer none, I a] w fun e w' => e = .returned (.tuple #[.slice none 0 0, I 2]) ∧ w = w' := by
  go_enter Try.func58, Try.ntmps58
  go_wp2
  go_ret2
  exact ⟨rfl, rfl⟩
theorem info125 : (Try.prog.info? 125).map (fun i => (i.zero, i.size, i.bytes)) = some (some (.agg Try.zeroCells125), 256, 256) := by kernel_rfl
theorem get_bang (C : List Value) (j : Nat) (h : j < C.length) : C.toArray[j]! = C[j] := by
  rw [getElem!_pos _ _ (by simpa using h)]
  simp
theorem made_rows {n m : Nat} (f : List UInt8 → List Value) (p0 : List UInt8) (C : Array Value) (hz : C = (f p0).toArray) (h0 : (f p0).length = m) (hm : 0 < m) : madeCells C (n * m) = ((List.replicate n p0).flatMap f).toArray := by
  subst hz
  apply Array.ext_getElem?
  intro i
  have hall : ∀ q ∈ List.replicate n p0, (f q).length = m := fun q hq => by rw [(List.mem_replicate.1 hq).2]; exact h0
  by_cases hi : i < n * m
  · have hn : i / m < n := (Nat.div_lt_iff_lt_mul hm).2 hi
    have e : i / m * m + i % m = i := by rw [Nat.mul_comm]; exact Nat.div_add_mod i m
    have hg := rows_get hall (k := i / m) (x := p0) (by rw [List.getElem?_replicate, if_pos hn]) (j := i % m) (Nat.mod_lt _ hm)
    rw [e] at hg
    simp only [List.getElem?_toArray]
    rw [hg]
    have hm' : i % m < (f p0).length := by rw [h0]; exact Nat.mod_lt _ hm
    have e2 : (madeCells (f p0).toArray (n * m))[i]? = some ((f p0).toArray[i % (f p0).toArray.size]!) := by
      unfold madeCells
      simp [hi]
    rw [e2, List.getElem?_eq_getElem hm', List.size_toArray, h0, get_bang _ _ hm']
  · rw [Array.getElem?_eq_none (by rw [size_madeCells]; omega), List.getElem?_toArray, List.getElem?_eq_none (by rw [rows_len hall, List.length_replicate]; omega)]
theorem made_pages (n : Nat) : madeCells (Value.agg Try.zeroCells125).cells (n * 256) = ((List.replicate n page0).flatMap pageCells).toArray :=
  made_rows pageCells page0 _ zero125 (pageCells_len List.length_replicate) (by decide)
set_option maxRecDepth 100000 in
set_option maxHeartbeats 800000 in
theorem new_any (w : World) (n : Int) (hn : -9223372036854775808 ≤ n ∧ n ≤ 9223372036854775807) :
    Calls Try.prog 36 #[I n] w fun e w' => ∃ p own, e = .returned (.pointer (some ⟨p, 0, none⟩)) ∧ DrumAt w' p own (DS.new (DS.clamp n)) ∧ (∀ k, own k → w.heap.size ≤ k) ∧ Below w.heap.size w w' := by
  obtain ⟨m, hm⟩ : ∃ m : Nat, m = DS.clamp n := ⟨_, rfl⟩
  have hm' : (m : Int) = min (max n 1) 4096 := by rw [hm]; unfold DS.clamp; omega
  have km : ∀ (ats : Array TypeId) (ty : TypeId) (w : World), (Builtin.min_ ats ty #[.int .i64 (max n 1), .int .i64 4096]).run Try.prog w = .ok (.int .i64 m) w := fun ats ty w => by rw [hm']; exact run_min ats ty _ _ w
  have kM : ∀ (ats : Array TypeId) (ty : TypeId) (w : World), (Builtin.max_ ats ty #[.int .i64 n, .int .i64 1]).run Try.prog w = .ok (.int .i64 (max n 1)) w := fun ats ty w => run_max ats ty n 1 w
  obtain ⟨i, hi, hz, hs, hb⟩ := info_parts info125
  have hmk := run_makeSlice (P := Try.prog) w 109 125 i _ Try.underlying109 hi hz .i64 .i64 m m (by omega) (by omega) (by rw [hs]; omega) (by rw [hb]; omega) (by omega)
  rw [hs] at hmk
  simp only [Int.toNat_natCast, made_pages] at hmk
  have hok := DS.Ok.new n
  rw [← hm] at hok ⊢
  have HM := hid hm'
  have HOK := hid hok
  clear hi hz hs hb hm hm' hok
  go_enter Try.func36, Try.ntmps36
  go_wp2
  go_ret
  obtain ⟨w1, hw1⟩ : ∃ w1, w1 = w.alloc (.cells (List.flatMap pageCells (List.replicate m page0)).toArray 125) := ⟨_, rfl⟩
  have hz1 : w1.heap.size = w.heap.size + 1 := by rw [hw1]; simp
  have hs1 : w1.heap[w.heap.size]? = some (.cells (List.flatMap pageCells (List.replicate m page0)).toArray 125 (0, 0)) := by rw [hw1]; exact heap_alloc_new w _
  have hb1 : Below w.heap.size w w1 := by rw [hw1]; exact (Below.refl _ _).alloc (Nat.le_refl _) _
  rw [← hw1, ← hz1]
  have hb2 : ∀ o : Obj, Below w1.heap.size w1 (w1.alloc o) := fun o => (Below.refl _ _).alloc (Nat.le_refl _) o
  refine ⟨w1.heap.size, fun k => k = w.heap.size ∨ k = w1.heap.size, rfl, ⟨w.heap.size, .slice none 0 0, HOK.out, .inr rfl, .inl rfl, fun k hk => (by cases hk), by omega, fun k hk => by simp; omega, ?_, ?_, World.ownsRow_nil _ _ _ _⟩, fun k hk => by omega, hb1.trans ((hb2 _).mono (by omega))⟩
  · rw [heap_alloc_new w1]
    have e : (DS.new m).safe.length = m := List.length_replicate
    rw [e]
    rfl
  · rw [(hb2 _).block _ (by omega)]
    exact hs1
end Go.Proofs.Ytoaeapnkefjpaaa
