/-
  THE PROGRAM: Next, of bytes. Conditions: those that each contract names.
-/
import Derived.Test.YtnljmllkfmgclaaMpacPG
import Derived.Test.YtnljmllkfmgclaaMpacL
namespace Go.Proofs.Ytnljmllkfmgclaa
open Go.RowKit
set_option linter.unusedVariables false
set_option linter.unusedSimpArgs false

theorem res11 (d : Tmp) (v : Value) (tmps : Array Value) (hd : d ∉ [2, 3, 4]) : results Try.f11 (tmps.setIfInBounds d v) = results Try.f11 tmps := by
  have h2 : ¬ d = 2 := by intro e; subst e; simp at hd
  have h3 : ¬ d = 3 := by intro e; subst e; simp at hd
  have h4 : ¬ d = 4 := by intro e; subst e; simp at hd
  simp [results, Try.results11, Array.getElem?_setIfInBounds_ne h2, Array.getElem?_setIfInBounds_ne h3, Array.getElem?_setIfInBounds_ne h4]
theorem hq11 {ops : Array Oper} {R : Ending → World → Prop} (hck : (ops.all fun o => o.dst.all fun d => ![2, 3, 4].contains d) = true) (i : Nat) (oi : Oper) (hi : ops[i]? = some oi) (c : List PanicEntry) (a : Act) (v : Value) (w : World) (h : bodyPostD Try.prog Try.f11 R (.panic c) (Act.put a oi.dst v) w) : bodyPostD Try.prog Try.f11 R (.panic c) a w :=
  door_ops [2, 3, 4] res11 hck i oi hi c a v w h
theorem and15 (c : UInt8) : Go.bits .and .u8 (c.toNat : Int) 15 = ((c.toNat % 16 : Nat) : Int) := by
  have : ∀ m : Fin 256, Go.bits .and .u8 ((m.val : Nat) : Int) 15 = ((m.val % 16 : Nat) : Int) := by decide +kernel
  exact this ⟨c.toNat, c.toNat_lt⟩
/-- The three named results, as they lie. -/
structure Three (w wa : World) (b : Nat) (P : Pk) (nv cv x y : Value) : Prop where
  pk : PIn wa b P nv cv
  n : wa.heap[b + 1]? = some (.cells #[x] 3 (0, 0))
  e : wa.heap[b + 1 + 1]? = some (.cells #[y] 29 (0, 0))
  below : Below b w wa
  size : b + 3 ≤ wa.heap.size
theorem Three.mod {w wa wb : World} {b : Nat} {P : Pk} {nv cv x y : Value} {own : Nat → Prop} (h : Three w wa b P nv cv x y) (hm : Mod own wa wb) (ho : ∀ k, k < b + 3 → ¬ own k) : Three w wb b P nv cv x y := by
  have hs := h.size
  exact ⟨h.pk.keep (hm.block b (by omega) (ho b (by omega))), (hm.block (b + 1) (by omega) (ho _ (by omega))).trans h.n, (hm.block (b + 1 + 1) (by omega) (ho _ (by omega))).trans h.e, h.below.trans (hm.below (by omega) (fun i hi => ho i (by omega))), Nat.le_trans hs hm.size⟩
theorem Three.drew {w wa : World} {b : Nat} {P : Pk} {nv cv x y : Value} (h : Three w wa b P nv cv x y) : Three w wa.drew b P nv cv x y := h.mod (own := fun _ => False) (Mod.drew wa) (fun _ _ => id)
theorem Three.out {w wa : World} {b : Nat} {P : Pk} {nv cv x y : Value} (h : Three w wa b P nv cv x y) {tmps : Array Value} {O : Mp.Res} (hb : b = w.heap.size) (h2 : tmps[2]?.getD undef = .pointer (some ⟨b, 0, none⟩)) (h3 : tmps[3]?.getD undef = .pointer (some ⟨b + 1, 0, none⟩)) (h4 : tmps[4]?.getD undef = .pointer (some ⟨b + 1 + 1, 0, none⟩)) (ho : O = .proto) :
    bodyPostD Try.prog Try.f11 (Nexted w O) (Exit.panic gave) { tmps := tmps, defers := [{ target := .fn (.func 20) #[.pointer (some ⟨b, 0, none⟩), .pointer (some ⟨b + 1, 0, none⟩), .pointer (some ⟨b + 1 + 1, 0, none⟩)], args := #[] }] } wa := by
  refine door_gave h2 h3 h4 h.pk h.n h.e rfl rfl (by omega) (by omega) (by omega) fun w' hm => ?_
  subst ho
  have hs := h.size
  exact ⟨hb ▸ h.below.trans (hm.below (by omega) (fun i hi hh => by omega)), rfl⟩
theorem Three.store {w wa : World} {b : Nat} {P : Pk} {nv cv x y : Value} (h : Three w wa b P nv cv x y) (hb : b = w.heap.size) (P' : Pk) (nv' cv' : Value) : Three w (wa.setCells b 0 (pkCells P' nv' cv').toList) b P' nv' cv' x y := by
  have hs := h.size
  have hm : Mod (fun k => k = b) wa (wa.setCells b 0 (pkCells P' nv' cv').toList) := Mod.setCells (own := fun k => k = b) rfl _ _ _
  exact ⟨h.pk.stored _ _ _, (hm.block (b + 1) (by omega) (by omega)).trans h.n, (hm.block (b + 1 + 1) (by omega) (by omega)).trans h.e, h.below.trans (hm.below (by omega) (fun i hi => by omega)), Nat.le_trans hs hm.size⟩
theorem Three.setN {w wa : World} {b : Nat} {P : Pk} {nv cv x y : Value} (h : Three w wa b P nv cv x y) (u : Value) : Three w (wa.setCell ⟨b + 1, 0, none⟩ u) b P nv cv u y := by
  have hs := h.size
  have hm : Mod (fun k => k = b + 1) wa (wa.setCell ⟨b + 1, 0, none⟩ u) := Mod.set rfl
  exact ⟨h.pk.keep (hm.block b (by omega) (by omega)), set_one h.n rfl u, (hm.block (b + 1 + 1) (by omega) (by omega)).trans h.e, h.below.trans (hm.below (by omega) (fun i hi => by omega)), Nat.le_trans hs hm.size⟩
theorem Three.setE {w wa : World} {b : Nat} {P : Pk} {nv cv x y : Value} (h : Three w wa b P nv cv x y) (u : Value) : Three w (wa.setCell ⟨b + 1 + 1, 0, none⟩ u) b P nv cv x u := by
  have hs := h.size
  have hm : Mod (fun k => k = b + 1 + 1) wa (wa.setCell ⟨b + 1 + 1, 0, none⟩ u) := Mod.set rfl
  exact ⟨h.pk.keep (hm.block b (by omega) (by omega)), (hm.block (b + 1) (by omega) (by omega)).trans h.n, set_one h.e rfl u, h.below.trans (hm.below (by omega) (fun i hi => by omega)), Nat.le_trans hs hm.size⟩
theorem Three.cn {w wa : World} {b : Nat} {P : Pk} {nv cv x y : Value} (h : Three w wa b P nv cv x y) : wa.cell? ⟨b + 1, 0, none⟩ = some x := by rw [cell_of_row wa _ _ _ _ _ h.n]; rfl
theorem Three.ce {w wa : World} {b : Nat} {P : Pk} {nv cv x y : Value} (h : Three w wa b P nv cv x y) : wa.cell? ⟨b + 1 + 1, 0, none⟩ = some y := by rw [cell_of_row wa _ _ _ _ _ h.e]; rfl
theorem Three.ret {w wa : World} {b : Nat} {P : Pk} {nv cv x y : Value} (h : Three w wa b P nv cv x y) {tmps : Array Value} {R : Ending → World → Prop} (h2 : tmps[2]?.getD undef = .pointer (some ⟨b, 0, none⟩)) (h3 : tmps[3]?.getD undef = .pointer (some ⟨b + 1, 0, none⟩)) (h4 : tmps[4]?.getD undef = .pointer (some ⟨b + 1 + 1, 0, none⟩))
    (hR : R (.returned (.tuple #[.agg (pkCells P nv cv), x, y])) wa) :
    bodyPostD Try.prog Try.f11 R Exit.ret { tmps := tmps, defers := [{ target := .fn (.func 20) #[.pointer (some ⟨b, 0, none⟩), .pointer (some ⟨b + 1, 0, none⟩), .pointer (some ⟨b + 1 + 1, 0, none⟩)], args := #[] }] } wa :=
  door_ret h2 h3 h4 h.pk h.cn h.ce hR
theorem Three.body {w wa wb : World} {b r : Nat} {P P' : Pk} {nv cv nv' cv' x y : Value} (h : Three w wa b P nv cv x y) (hb : b = w.heap.size) (hr : b + 3 ≤ r) (hm : Mod (fun k => k = r ∨ k = b) wa wb) (hp : PIn wb b P' nv' cv') : Three w wb b P' nv' cv' x y := by
  have hs := h.size
  exact ⟨hp, (hm.block (b + 1) (by omega) (by omega)).trans h.n, (hm.block (b + 1 + 1) (by omega) (by omega)).trans h.e, h.below.trans (hm.below (by omega) (fun i hi => by omega)), Nat.le_trans hs hm.size⟩
/-- The way out where bytes are missing: what is stored ahead. -/
theorem Three.more {w wa : World} {b : Nat} {P : Pk} {nv cv x y : Value} (h : Three w wa b P nv cv x y) (hb : b = w.heap.size) (u v : Value) : Three w (((wa.setCells b 0 (pkCells Pk.zero nil0 nil0).toList).setCell ⟨b + 1, 0, none⟩ u).setCell ⟨b + 1 + 1, 0, none⟩ v) b Pk.zero nil0 nil0 u v := ((h.store hb _ _ _).setN u).setE v
theorem own_setCells {base : Nat} {e : TypeId} {size n : Nat} {v : Value} {xs : List Value} {b : Nat} : ∀ {vs : List Value} {o : Nat} {w : World}, w.ownsRow base e size v n xs → (∀ k, v.ownBlock = some k → k ≠ b) → (w.setCells b o vs).ownsRow base e size v n xs
  | [], _, _, h, _ => h
  | u :: r, o, w, h, hb => own_setCells (vs := r) (o := o + 1) (own_setCell_other (a := ⟨b, o, none⟩) h (fun e => hb _ e rfl) u) hb
set_option maxRecDepth 100000 in
set_option maxHeartbeats 3200000 in
theorem next_cons (w : World) (h : UInt8) (t : List UInt8) (hs : t.length ≤ 1048575) : Calls Try.prog 11 #[S (h :: t)] w (Nexted w (Mp.next (h :: t))) := by
  obtain ⟨O, hO⟩ : ∃ O, O = Mp.next (h :: t) := ⟨_, rfl⟩
  rw [← hO]
  unfold Mp.next at hO
  simp only at hO
  have HO := hid hO
  clear hO
  have hmf := closes
  have he := str_full (h :: t) (by simp)
  have hz : (str (h :: t)).size = t.length + 1 := str_size _
  have g0 : ∀ hh, (str (h :: t))[0]'hh = h := fun _ => rfl
  have e15 := and15 h
  have hh := h.toNat_lt
  go_enter_defers Try.func11, Try.ntmps11
  go_wp2_with fail
  obtain ⟨wa, hwa⟩ : ∃ wa, wa = ((w.alloc (.cells #[.int .i64 0, .int .i64 0, .int .i64 0, .int .i64 0, .string { data := #[] }, .string { data := #[] }, .int .i64 0, .bool false, .string { data := #[] }, .bool false, .slice none 0 0, .slice none 0 0] 25)).alloc (.cells #[.int .i64 0] 3)).alloc (.cells #[.int .i64 0] 29) := ⟨_, rfl⟩
  rw [← hwa]
  have hT : Three w wa w.heap.size Pk.zero nil0 nil0 (I 0) (I 0) := by
    rw [hwa]
    have hb3 := born3 w Pk.zero nil0 nil0 (I 0) (I 0)
    exact ⟨hb3.1, hb3.2.1, hb3.2.2.1, hb3.2.2.2.1, Nat.le_of_eq hb3.2.2.2.2.symm⟩
  obtain ⟨b, hb⟩ : ∃ b, b = w.heap.size := ⟨_, rfl⟩
  rw [← hb] at hT ⊢
  have HT := hid hT.drew
  clear hT hwa
  refine wp_region_order' Ext [] [(0,0),(1,0),(2,0),(3,0),(4,0),(5,0),(6,0),(7,0),(8,0),(9,0)] _ (by kernel_rfl) rfl Ext.refl Ext.trans (by kernel_rfl) (by simp only [pick, List.getElem?_toArray, List.getElem?_cons_zero, List.getElem?_cons_succ]; rfl) (fun i oi hi c a v w h => hq11 (by kernel_rfl) i oi hi c a v w h) ?_
  refine wpK_q (v := ?_) (a' := ?_) (by rfl) (fun w' hR => ?_) ?_ ?_
  rotate_left 2
  · go_simp; with_reducible rfl
  · simp only [Act.put, List.setIfInBounds_toArray, List.set_cons_zero, List.set_cons_succ]; rfl
  refine wpK_q (v := ?_) (a' := ?_) (by rfl) (fun w' hR => ?_) ?_ ?_
  rotate_left 2
  · go_simp; with_reducible rfl
  · simp only [Act.put, List.setIfInBounds_toArray, List.set_cons_zero, List.set_cons_succ]; rfl
  refine wpK_q (v := ?_) (a' := ?_) (by rfl) (fun w' hR => ?_) ?_ ?_
  rotate_left 2
  · go_simp; with_reducible rfl
  · simp only [Act.put, List.setIfInBounds_toArray, List.set_cons_zero, List.set_cons_succ]; rfl
  refine wpK_q (v := ?_) (a' := ?_) (by rfl) (fun w' hR => ?_) ?_ ?_
  rotate_left 2
  · go_simp; with_reducible rfl
  · simp only [Act.put, List.setIfInBounds_toArray, List.set_cons_zero, List.set_cons_succ]; rfl
  refine wpK_q (v := ?_) (a' := ?_) (by rfl) (fun w' hR => ?_) ?_ ?_
  rotate_left 2
  · go_simp; with_reducible rfl
  · simp only [Act.put, List.setIfInBounds_toArray, List.set_cons_zero, List.set_cons_succ]; rfl
  refine wpK_q (v := ?_) (a' := ?_) (by rfl) (fun w' hR => ?_) ?_ ?_
  rotate_left 2
  · go_simp; with_reducible rfl
  · simp only [Act.put, List.setIfInBounds_toArray, List.set_cons_zero, List.set_cons_succ]; rfl
  refine wpK_q (v := ?_) (a' := ?_) (by rfl) (fun w' hR => ?_) ?_ ?_
  rotate_left 2
  · go_simp; with_reducible rfl
  · simp only [Act.put, List.setIfInBounds_toArray, List.set_cons_zero, List.set_cons_succ]; rfl
  refine wpK_q (v := ?_) (a' := ?_) (by rfl) (fun w' hR => ?_) ?_ ?_
  rotate_left 2
  · go_simp; with_reducible rfl
  · simp only [Act.put, List.setIfInBounds_toArray, List.set_cons_zero, List.set_cons_succ]; rfl
  refine wpK_q (v := ?_) (a' := ?_) (by rfl) (fun w' hR => ?_) ?_ ?_
  rotate_left 2
  · go_simp; with_reducible rfl
  · simp only [Act.put, List.setIfInBounds_toArray, List.set_cons_zero, List.set_cons_succ]; rfl
  refine wpK_q (v := ?_) (a' := ?_) (by rfl) (fun w' hR => ?_) ?_ ?_
  rotate_left 2
  · go_simp; with_reducible rfl
  · simp only [Act.put, List.setIfInBounds_toArray, List.set_cons_zero, List.set_cons_succ]; rfl
  refine wpK_done ?_
  have q1 : IntKind.i64.wrap ((h.toNat : Int) / 16) = ((h.toNat / 16 : Nat) : Int) := by rw [IntWalk.i64_in _ (by omega)]; omega
  have q2 : IntKind.i64.wrap ((h.toNat : Int) % 16) = ((h.toNat % 16 : Nat) : Int) := by rw [IntWalk.i64_in _ (by omega)]; omega
  have hk : h.toNat / 16 < 16 := by omega
  have hf : h.toNat % 16 < 16 := by omega
  rw [q1, q2]
  generalize h.toNat / 16 = k at *
  generalize h.toNat % 16 = f at *
  generalize wa.drew = wb at *
  have HB := hid hb
  clear q1 q2 e15 hb hh g0
  have HF := hid (flags_any wb k f hk hf)
  cases hfl : Mp.flagsOk k f with
  | false =>
    rw [hfl] at HF
    rw [if_pos hfl] at HO
    clear hfl
    go_wp2_with (first | (go_at_call 22; refine HF.out.mono ?_; rintro e w2 ⟨rfl, rfl⟩) | (go_at_call 21; refine (unless_no _).mono ?_; rintro e w2 ⟨rfl, rfl⟩) | fail)
    exact HT.out.out HB.out rfl rfl rfl HO.out
  | true =>
    rw [hfl] at HF
    rw [if_neg (by rw [hfl]; decide)] at HO
    have hkk := Mp.flagsOk_kind hfl
    have e1 : (str (h :: t)).extract 1 (t.length + 1) = str t := by rw [str_extract]; simp
    have HL := hid (length_any wb t (by omega))
    clear hfl
    cases hl : Mp.len t 3 0 0 with
    | bad =>
      rw [hl] at HL HO
      clear hl
      go_wp2_with (first | (go_at_call 22; refine HF.out.mono ?_; rintro e w2 ⟨rfl, rfl⟩) | (go_at_call 21; refine (unless_ok _).mono ?_; rintro e w2 ⟨rfl, rfl⟩) | (go_at_call 23; refine HL.out.mono ?_; rintro e w2 ⟨rfl, rfl⟩) | fail)
      exact HT.out.out HB.out rfl rfl rfl HO.out
    | short =>
      rw [hl] at HL HO
      clear hl
      have HS := hid (HT.out.pk.store (P' := Pk.zero) (nv' := nil0) (cv' := nil0) rfl rfl)
      have hst := HT.out.store HB.out Pk.zero nil0 nil0
      have HM := hid (HT.out.more HB.out (I 0) (I 41))
      have hcn := hst.cn
      have hce := hst.ce
      have hfn := frozen_row hst.n 0
      have hfe := frozen_row hst.e 0
      generalize wb.setCells b 0 (pkCells Pk.zero nil0 nil0).toList = w5 at *
      clear hst
      go_wp2_with (first | (go_at_call 22; refine HF.out.mono ?_; rintro e w2 ⟨rfl, rfl⟩) | (go_at_call 21; refine (unless_ok _).mono ?_; rintro e w2 ⟨rfl, rfl⟩) | (go_at_call 23; refine HL.out.mono ?_; rintro e w2 ⟨rfl, rfl⟩) | (show wpList _ _ _ ({ dst := none, op := Op.store _ (.tmp 2) _, type := _, pos := _, after := _, guard := _ } :: _) _ _; refine wpList_store_by rfl (.tmp 2) (.tmp 43) rfl rfl (.pointer (some ⟨b, 0, none⟩)) (.agg (pkCells Pk.zero nil0 nil0)) rfl rfl HS.out ?_) | fail)
      rw [HO.out]
      exact HM.out.ret rfl rfl rfl ⟨HB.out ▸ HM.out.below, rfl⟩
    | got n wd =>
      rw [hl] at HL HO
      have hg := Mp.len_got t 3 0 0 n wd hl
      have hwd : ((wd : Int) == 0) = false := by rw [beq_eq_false_iff_ne]; omega
      replace HO : Hid (O = if (h :: t).length < 1 + wd + n then .more else match Mp.body k f (((h :: t).drop (1 + wd)).take n) with | none => .proto | some p => .ok p (1 + wd + n)) := HO
      clear hl
      by_cases hlt : (h :: t).length < 1 + wd + n
      · rw [if_pos hlt] at HO
        simp only [List.length_cons] at hlt
        have hd : decide ((t.length : Int) + 1 < 1 + (wd : Int) + (n : Int)) = true := decide_eq_true (by omega)
        clear hlt
        have HS := hid (HT.out.pk.store (P' := Pk.zero) (nv' := nil0) (cv' := nil0) rfl rfl)
        have hst := HT.out.store HB.out Pk.zero nil0 nil0
        have HM := hid (HT.out.more HB.out (I 0) (I 41))
        have hcn := hst.cn
        have hce := hst.ce
        have hfn := frozen_row hst.n 0
        have hfe := frozen_row hst.e 0
        generalize wb.setCells b 0 (pkCells Pk.zero nil0 nil0).toList = w5 at *
        clear hst
        go_wp2_with (first | (go_at_call 22; refine HF.out.mono ?_; rintro e w2 ⟨rfl, rfl⟩) | (go_at_call 21; refine (unless_ok _).mono ?_; rintro e w2 ⟨rfl, rfl⟩) | (go_at_call 23; refine HL.out.mono ?_; rintro e w2 ⟨rfl, rfl⟩) | (show wpList _ _ _ ({ dst := none, op := Op.store _ (.tmp 2) _, type := _, pos := _, after := _, guard := _ } :: _) _ _; refine wpList_store_by rfl (.tmp 2) (.tmp 43) rfl rfl (.pointer (some ⟨b, 0, none⟩)) (.agg (pkCells Pk.zero nil0 nil0)) rfl rfl HS.out ?_) | fail)
        rw [HO.out]
        exact HM.out.ret rfl rfl rfl ⟨HB.out ▸ HM.out.below, rfl⟩
      · rw [if_neg hlt] at HO
        simp only [List.length_cons] at hlt
        have hd : decide ((t.length : Int) + 1 < 1 + (wd : Int) + (n : Int)) = false := decide_eq_false (by omega)
        have HS := hid (HT.out.pk.store (P' := Pk.new k f) (nv' := nil0) (cv' := nil0) rfl rfl)
        have HST := hid (HT.out.store HB.out (Pk.new k f) nil0 nil0)
        generalize wb.setCells b 0 (pkCells (Pk.new k f) nil0 nil0).toList = w5 at *
        obtain ⟨x, hx⟩ : ∃ x, x = ((h :: t).drop (1 + wd)).take n := ⟨_, rfl⟩
        have hex : (str (h :: t)).extract (1 + wd) (1 + wd + n) = str x := by rw [str_extract, hx, show 1 + wd + n - (1 + wd) = n by omega]
        rw [← hx] at HO
        have hxl : x.length ≤ 1048576 := by rw [hx, List.length_take]; omega
        have HXL := hid hxl
        have hsl : ∀ w' : World, (Instr.slice 9 (S (h :: t)) (some (.int .i64 (1 + (wd : Int)))) (some (.int .i64 (1 + (wd : Int) + (n : Int)))) none).run Try.prog w' = .ok (S x) w' := fun w' => by
          have h1 := run_slice_string (P := Try.prog) w' 9 (str (h :: t)) .i64 .i64 (1 + (wd : Int)) (1 + (wd : Int) + (n : Int)) Try.underlying9 (by omega) (by omega) (by rw [hz]; omega)
          rw [h1, show (1 + (wd : Int)).toNat = 1 + wd by omega, show (1 + (wd : Int) + (n : Int)).toNat = 1 + wd + n by omega, hex]
        clear hx hex hxl
        go_wp2_with (first | (go_at_call 22; refine HF.out.mono ?_; rintro e w2 ⟨rfl, rfl⟩) | (go_at_call 21; refine (unless_ok _).mono ?_; rintro e w2 ⟨rfl, rfl⟩) | (go_at_call 23; refine HL.out.mono ?_; rintro e w2 ⟨rfl, rfl⟩) | (show wpList _ _ _ ({ dst := none, op := Op.store _ (.tmp 2) _, type := _, pos := _, after := _, guard := _ } :: _) _ _; refine wpList_store_by rfl (.tmp 2) (.tmp 46) rfl rfl (.pointer (some ⟨b, 0, none⟩)) (.agg (pkCells (Pk.new k f) nil0 nil0)) rfl rfl HS.out ?_) | fail)
        have hne : w5.heap.size ≠ b := by have := HST.out.size; omega
        have HT6 : Hid (Three w (w5.alloc (.cells #[S x] 51)) b (Pk.new k f) nil0 nil0 (I 0) (I 0)) := hid (HST.out.mod (own := fun _ => False) (Mod.alloc _) (fun _ _ => id))
        have hrb : b + 3 ≤ w5.heap.size := HST.out.size
        have HRD : Hid (RdIn (w5.alloc (.cells #[S x] 51)) w5.heap.size x) := hid ⟨HXL.out, heap_alloc_new w5 _⟩
        generalize w5.alloc (.cells #[S x] 51) = w6 at *
        generalize w5.heap.size = r at *
        refine (body_any w6 r b k f x hkk hf HRD.out HT6.out.pk hne).mono ?_
        intro e w7 hgb
        obtain ⟨hm, hgb⟩ := hgb
        cases hbd : Mp.body k f x with
        | none =>
          rw [hbd] at hgb HO
          obtain ⟨rfl, P', nv', cv', hp'⟩ := hgb
          exact (HT6.out.body HB.out hrb hm hp').out HB.out rfl rfl rfl HO.out
        | some P =>
          rw [hbd] at hgb HO
          obtain ⟨rfl, nv, cv, hp', hn', hc'⟩ := hgb
          have HT7 := hid (HT6.out.body HB.out hrb hm hp')
          have h6 : b ≤ w6.heap.size := by have := HT6.out.size; omega
          have hnv : nv.oneCell' = true := by obtain ⟨_, _, rfl⟩ := own_form hn'; rfl
          have hcv : cv.oneCell' = true := by obtain ⟨_, _, rfl⟩ := own_form hc'; rfl
          have HLD := hid hp'.load
          have HST7 := hid (hp'.store (P' := P) (nv' := nv) (cv' := cv) hnv hcv)
          have HT8 := hid (HT7.out.store HB.out P nv cv)
          have HN8 := hid (own_setCells (vs := (pkCells P nv cv).toList) (o := 0) hn' (fun k hk => by have := (own_lt hn' k hk).1; have := HT6.out.size; omega : ∀ k, nv.ownBlock = some k → k ≠ b))
          have HC8 := hid (own_setCells (vs := (pkCells P nv cv).toList) (o := 0) hc' (fun k hk => by have := (own_lt hc' k hk).1; have := HT6.out.size; omega : ∀ k, cv.ownBlock = some k → k ≠ b))
          clear hm hp' hbd hsl hlt hd hwd hz he
          generalize w7.setCells b 0 (pkCells P nv cv).toList = w8 at *
          have hcn := HT8.out.cn
          have hce := HT8.out.ce
          have hfn := frozen_row HT8.out.n 0
          have hfe := frozen_row HT8.out.e 0
          go_wp2_with (first | (show wpList _ _ _ ({ dst := some 59, op := _, type := _, pos := _, after := _, guard := _ } :: _) _ _; refine wpList_load_by rfl (.tmp 2) rfl (.pointer (some ⟨b, 0, none⟩)) rfl HLD.out ?_) | (show wpList _ _ _ ({ dst := none, op := Op.store _ (.tmp 2) _, type := _, pos := _, after := _, guard := _ } :: _) _ _; refine wpList_store_by rfl (.tmp 2) (.tmp 59) rfl rfl (.pointer (some ⟨b, 0, none⟩)) (.agg (pkCells P nv cv)) rfl rfl HST7.out ?_) | fail)
          rw [HO.out]
          have hT9 := (HT8.out.setN (I (1 + (wd : Int) + (n : Int)))).setE (I 0)
          have hbb := HB.out
          have hb6 : b + 3 ≤ w6.heap.size := HT6.out.size
          have hgn : ∀ k, nv.ownBlock = some k → w6.heap.size ≤ k := fun k hk => (own_lt HN8.out k hk).1
          have hgc : ∀ k, cv.ownBlock = some k → w6.heap.size ≤ k := fun k hk => (own_lt HC8.out k hk).1
          refine hT9.ret rfl rfl rfl ⟨hbb ▸ hT9.below, nv, cv, ?_, ?_, ?_⟩
          · rw [show ((1 + wd + n : Nat) : Int) = 1 + (wd : Int) + (n : Int) by omega]
          · exact own_anew (own_setCell_other (own_setCell_other HN8.out (fun e => by have := hgn _ e; simp only at this; omega) _) (fun e => by have := hgn _ e; simp only at this; omega) _) (fun k hk => by have := hgn k hk; omega)
          · exact own_anew (own_setCell_other (own_setCell_other HC8.out (fun e => by have := hgc _ e; simp only at this; omega) _) (fun e => by have := hgc _ e; simp only at this; omega) _) (fun k hk => by have := hgc k hk; omega)
/-- Next, of any bytes. -/
theorem next_any (w : World) (s : List UInt8) (hs : s.length ≤ 1048576) : Calls Try.prog 11 #[S s] w (Nexted w (Mp.next s)) := by
  cases s with
  | nil => exact next_nil w
  | cons h t =>
    simp only [List.length_cons] at hs
    exact next_cons w h t (by omega)
end Go.Proofs.Ytnljmllkfmgclaa
