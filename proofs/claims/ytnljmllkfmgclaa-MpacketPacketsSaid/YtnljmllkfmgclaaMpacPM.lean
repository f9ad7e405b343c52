/-
  THE PROGRAM: rest (14), of the kind 1. Conditions: those that each contract names.
-/
import Derived.Test.YtnljmllkfmgclaaMpacPL
namespace Go.Proofs.Ytnljmllkfmgclaa
open Go.RowKit
set_option linter.unusedVariables false
set_option linter.unusedSimpArgs false

/-- What the bytes grow to: an own row, all else as it was. -/
structure Grown (w w2 : World) (b : Nat) (P : Pk) (nv cv : Value) (v : Value) (l : List UInt8) : Prop where
  row : w2.ownsRow (b + 1) 5 1 v l.length (l.map B)
  pk : PIn w2 b P nv cv
  below : Below b w w2
  lt : b < w2.heap.size
theorem Grown.keep {w w2 w3 : World} {b : Nat} {P : Pk} {nv cv v v' : Value} {l l' : List UInt8} (h : Grown w w2 b P nv cv v l) (hb : Below (b + 1) w2 w3) (ho : w3.ownsRow (b + 1) 5 1 v' l'.length (l'.map B)) : Grown w w3 b P nv cv v' l' :=
  ⟨ho, h.pk.keep (hb.block b (by omega)), h.below.trans (hb.mono (by omega)), Nat.lt_of_lt_of_le h.lt hb.size⟩
theorem Grown.drew {w w2 : World} {b : Nat} {P : Pk} {nv cv v : Value} {l : List UInt8} (h : Grown w w2 b P nv cv v l) : Grown w w2.drew b P nv cv v l :=
  h.keep (Below.drew (Below.refl _ _)) (own_below h.row (Below.drew (Below.refl _ _)))
/-- A text put behind it. -/
theorem Grown.put {w w2 : World} {b : Nat} {P : Pk} {nv cv v : Value} {l : List UInt8} (h : Grown w w2 b P nv cv v l) (s : List UInt8) (hl : l.length + s.length ≤ 1000000000) :
    Calls Try.prog 26 #[v, S s] w2 fun e w3 => ∃ v', e = .returned v' ∧ Grown w w3 b P nv cv v' (l ++ Mp.put s) ∧ KeepOne b w2 w3 :=
  (puts_any w2 (b + 1) v l s h.row h.lt hl).mono fun e w3 ⟨v', he, ho, hb⟩ => ⟨v', he, h.keep hb ho, hb.block b (by omega), hb.size⟩
theorem Rest.grown {w w2 : World} {P : Pk} {nv cv : Value} (h : Rest w w2 P nv cv) : Grown w w2 w.heap.size P nv cv (.slice none 0 0) [] :=
  ⟨World.ownsRow_nil _ _ _ _, h.pk, h.below, by have := h.size; omega⟩
theorem Rest.id {w w2 : World} {P : Pk} {nv cv : Value} (h : Rest w w2 P nv cv) : Grown w w2 w.heap.size P nv cv (.slice (some ⟨w.heap.size + 1, 0, none⟩) 2 2) (Mp.be2 P.id) :=
  ⟨h.idr, h.pk, h.below, by have := h.size; omega⟩
/-- Bytes just laid, appended. -/
theorem Grown.app {w w2 : World} {b : Nat} {P : Pk} {nv cv v : Value} {l : List UInt8} (h : Grown w w2 b P nv cv v l) (m : List UInt8) (x : Value) (hs : Sees w2 x m) (hl : l.length + m.length ≤ 1000000000) (ty : TypeId) :
    ∃ v' w3, (Builtin.append_ #[28, 28] ty #[v, x]).run Try.prog w2 = .ok v' w3 ∧ Grown w w3 b P nv cv v' (l ++ m) ∧ KeepOne b w2 w3 := by
  obtain ⟨v', w3, hr, ho, hg, -⟩ := run_app (P := Try.prog) w2 (b + 1) 28 ty 5 _ 1 1 Try.underlying28 info5 rfl (by decide) v l.length (l.map B) h.row x m.length (m.map B) hs.src (by unfold maxLen; omega) (by omega) h.lt
  have hb : Below (b + 1) w2 w3 := below_grown hg h.lt (fun k hk => (own_lt h.row k hk).1)
  exact ⟨v', w3, hr, h.keep hb (own_len ho (by simp) (by simp)), hb.block b (by omega), hb.size⟩
theorem Grown.alloc {w w2 : World} {b : Nat} {P : Pk} {nv cv v : Value} {l : List UInt8} (h : Grown w w2 b P nv cv v l) (o : Obj) : Grown w (w2.alloc o) b P nv cv v l :=
  have hb : Below (b + 1) w2 (w2.alloc o) := (Below.refl _ _).alloc h.lt _
  h.keep hb (own_mod h.row (fun k hk => Below.heap_alloc w2 o k (own_lt h.row k hk).2))
theorem Grown.fresh {w w2 : World} {b : Nat} {P : Pk} {nv cv v : Value} {l L : List UInt8} (h : Grown w w2 b P nv cv v l) (hb : b = w.heap.size) (hl : l = L) : w2.ownsRow w.heap.size 5 1 v L.length (L.map B) ∧ Below w.heap.size w w2 := by
  subst hl hb
  exact ⟨own_anew h.row (fun k hk => by have := (own_lt h.row k hk).1; omega), h.below⟩
theorem KeepOne.alloc {b : Nat} {w : World} (o : Obj) (h : b < w.heap.size) : KeepOne b w (w.alloc o) := ⟨Below.heap_alloc w o b h, by simp⟩
set_option maxRecDepth 100000 in
set_option maxHeartbeats 6400000 in
theorem rest_1 (w : World) (v : Value) (P : Pk) (h : PkV w v P) (hk : P.kind = 1) (hb : P.name.length + P.text.length + P.topic.length ≤ 100000000) : Calls Try.prog 14 #[v] w (Fresh w (Mp.rest P)) := by
  obtain ⟨⟨nv, cv, rfl, hn, hc⟩, bn, bc⟩ := h
  have hr : Mp.rest P = Mp.put Mp.mqtt ++ [4, Mp.b1 P.code] ++ Mp.be2 P.keep ++ Mp.put P.name ++ (if P.will then Mp.put P.topic ++ Mp.put P.text else []) := by
    unfold Mp.rest
    rw [if_pos hk]
  obtain ⟨L, hL⟩ : ∃ L, L = Mp.rest P := ⟨_, rfl⟩
  rw [← hL]
  have HL := hid (hL.trans hr)
  clear hL hr
  have hS := rest_start hn hc
  have e1 := b1_wrap (P.id / 256)
  have e2 := b1_wrap P.id
  generalize Mp.b1 (P.id / 256) = a at *
  generalize Mp.b1 P.id = c at *
  obtain ⟨w1, hw1⟩ : ∃ w1, w1 = w.alloc (.cells (pkCells P nv cv) 25) := ⟨_, rfl⟩
  obtain ⟨w2, hw2⟩ : ∃ w2, w2 = w1.alloc (.cells #[B a, B c] 5) := ⟨_, rfl⟩
  have c2 : w1.cell? ⟨w.heap.size, 2, none⟩ = some (I P.id) := by rw [hw1, cell_of_row _ _ _ _ _ _ (heap_alloc_new w _)]; rfl
  have hz : w1.heap.size = w.heap.size + 1 := by rw [hw1]; simp
  rw [← hw1, ← hw2] at hS
  have c0 : w2.cell? ⟨w.heap.size, 0, none⟩ = some (I P.kind) := hS.pk.cell 0
  have HW1 := hid hw1
  have HW2 := hid hw2
  have HS := hid hS
  clear hw1 hw2 hS
  have HG := hid HS.out.grown.drew
  rw [hk] at c0
  clear hk
  go_enter Try.func14, Try.ntmps14
  go_upto_region 2 with (fail)
  rw [← HW1.out]
  go_upto_region 3 with (fail)
  rw [← HW2.out]
  clear c2 e1 e2 hz HW1 HW2
  obtain ⟨b, hbb⟩ : ∃ b, b = w.heap.size := ⟨_, rfl⟩
  rw [← hbb] at HG c0 ⊢
  have HBB := hid hbb
  clear hbb
  go_wp2_with fail
  have e3 := b1_wrap P.code
  have e4 := b1_wrap (P.keep / 256)
  have e5 := b1_wrap P.keep
  have k3 : ∀ w', KeepOne b w2.drew w' → w'.cell? ⟨b, 3, none⟩ = some (I P.code) := fun w' hh => by rw [World.cell?_of_block hh.1]; exact HG.out.pk.cell 3
  have k6 : ∀ w', KeepOne b w2.drew w' → w'.cell? ⟨b, 6, none⟩ = some (I P.keep) := fun w' hh => by rw [World.cell?_of_block hh.1]; exact HG.out.pk.cell 6
  refine wp_region_fork (KeepOne b) [] [(1,0),(2,0),(3,0),(4,0),(5,0),(6,0),(7,0),(8,0),(9,0),(10,0)] (0,0) (11,0) [(11,1),(12,1),(13,0)] [(0,1),(12,1),(13,0)] _ _ _ _ _ (by kernel_rfl) KeepOne.refl KeepOne.trans (by kernel_rfl) (by simp only [pick, List.getElem?_toArray, List.getElem?_cons_zero, List.getElem?_cons_succ]; rfl) rfl rfl (by simp only [pick, List.getElem?_toArray, List.getElem?_cons_zero, List.getElem?_cons_succ]; rfl) (by simp only [pick, List.getElem?_toArray, List.getElem?_cons_zero, List.getElem?_cons_succ]; rfl) (fun c a d v w h => by cases d <;> exact h) ?_
  generalize w2.drew = wd at *
  refine wpK_q (v := ?_) (a' := ?_) (by rfl) (fun w' hR => ?_) ?_ ?_
  rotate_left 2
  · go_simp; with_reducible rfl
  · simp only [Act.put, List.setIfInBounds_toArray, List.set_cons_zero, List.set_cons_succ]; rfl
  refine wpK_q (v := ?_) (a' := ?_) (by rfl) (fun w' hR => ?_) ?_ ?_
  rotate_left 2
  · go_simp; with_reducible rfl
  · simp only [Act.put, List.setIfInBounds_toArray, List.set_cons_zero, List.set_cons_succ]; rfl
  refine wpK_q (v := ?_) (a' := ?_) (by rfl) (fun w' hR => ?_) ?_ ?_
  rotate_left 2
  · go_simp; with_reducible rfl
  · simp only [Act.put, List.setIfInBounds_toArray, List.set_cons_zero, List.set_cons_succ]; rfl
  refine wpK_q (v := ?_) (a' := ?_) (by rfl) (fun w' hR => ?_) ?_ ?_
  rotate_left 2
  · go_simp; with_reducible rfl
  · simp only [Act.put, List.setIfInBounds_toArray, List.set_cons_zero, List.set_cons_succ]; rfl
  refine wpK_q (v := ?_) (a' := ?_) (by rfl) (fun w' hR => ?_) ?_ ?_
  rotate_left 2
  · go_simp; with_reducible rfl
  · simp only [Act.put, List.setIfInBounds_toArray, List.set_cons_zero, List.set_cons_succ]; rfl
  refine wpK_q (v := ?_) (a' := ?_) (by rfl) (fun w' hR => ?_) ?_ ?_
  rotate_left 2
  · go_simp; with_reducible rfl
  · simp only [Act.put, List.setIfInBounds_toArray, List.set_cons_zero, List.set_cons_succ]; rfl
  refine wpK_q (v := ?_) (a' := ?_) (by rfl) (fun w' hR => ?_) ?_ ?_
  rotate_left 2
  · go_simp; with_reducible rfl
  · simp only [Act.put, List.setIfInBounds_toArray, List.set_cons_zero, List.set_cons_succ]; rfl
  refine wpK_q (v := ?_) (a' := ?_) (by rfl) (fun w' hR => ?_) ?_ ?_
  rotate_left 2
  · go_simp; with_reducible rfl
  · simp only [Act.put, List.setIfInBounds_toArray, List.set_cons_zero, List.set_cons_succ]; rfl
  refine wpK_q (v := ?_) (a' := ?_) (by rfl) (fun w' hR => ?_) ?_ ?_
  rotate_left 2
  · go_simp; with_reducible rfl
  · simp only [Act.put, List.setIfInBounds_toArray, List.set_cons_zero, List.set_cons_succ]; rfl
  refine wpK_q (v := ?_) (a' := ?_) (by rfl) (fun w' hR => ?_) ?_ ?_
  rotate_left 2
  · go_simp; with_reducible rfl
  · simp only [Act.put, List.setIfInBounds_toArray, List.set_cons_zero, List.set_cons_succ]; rfl
  refine wpK_done (thenQ_normal ⟨?_, ?_⟩)
  · skip
    refine wpK_call Try.func26 (by kernel_rfl) rfl rfl (by rfl) #[(.slice none 0 0), (.string { data := #[77, 81, 84, 84] })] (by simp only [List.map_toArray, List.map_cons, List.map_nil]; rfl) ?_
    refine (HG.out.put Mp.mqtt (by decide)).mono ?_
    rintro e w4 ⟨v4, rfl, hg4, hk4⟩
    refine ⟨v4, rfl, fun _ => hk4, ?_⟩
    refine wpK_v (v := .slice (some ⟨w4.heap.size, 0, none⟩) 4 4) (w' := w4.alloc (.cells #[.int .u8 4, .int .u8 ((Mp.b1 P.code).toNat : Int), .int .u8 ((Mp.b1 (P.keep / 256)).toNat : Int), .int .u8 ((Mp.b1 P.keep).toNat : Int)] 5)) (by rfl) (by go_simp) (fun _ => KeepOne.alloc _ hg4.lt) (by simp only [Act.put, List.setIfInBounds_toArray, List.set_cons_zero, List.set_cons_succ]; rfl) ?_
    have hs5 := Sees.lit w4 [4, Mp.b1 P.code, Mp.b1 (P.keep / 256), Mp.b1 P.keep] (0, 0) (by simp [maxLen])
    obtain ⟨v6, w6, hr6, hg6, hk6⟩ := (hg4.alloc (.cells #[.int .u8 4, .int .u8 ((Mp.b1 P.code).toNat : Int), .int .u8 ((Mp.b1 (P.keep / 256)).toNat : Int), .int .u8 ((Mp.b1 P.keep).toNat : Int)] 5)).app [4, Mp.b1 P.code, Mp.b1 (P.keep / 256), Mp.b1 P.keep] _ hs5 (show 10 ≤ 1000000000 by decide) 28
    refine wpK_v (by rfl) (exec_append rfl _ (by simp only [List.map_toArray, List.map_cons, List.map_nil]; rfl) hr6) (fun _ => hk6) (by simp only [Act.put, List.setIfInBounds_toArray, List.set_cons_zero, List.set_cons_succ]; rfl) ?_
    refine wpK_q (v := ?_) (a' := ?_) (by rfl) (fun w' hR => ?_) ?_ ?_
    rotate_left 2
    · go_simp; with_reducible rfl
    · simp only [Act.put, List.setIfInBounds_toArray, List.set_cons_zero, List.set_cons_succ]; rfl
    refine wpK_done ?_
    have HG6 := hid hg6
    clear hr6 hk6 hg6 hs5 hk4 hg4 HG k3 k6 e3 e4 e5
    have hpk := HG6.out.pk
    have hl6 : (([] : List UInt8) ++ Mp.put Mp.mqtt ++ [4, Mp.b1 P.code, Mp.b1 (P.keep / 256), Mp.b1 P.keep]).length = 10 := rfl
    have he6 : ([] : List UInt8) ++ Mp.put Mp.mqtt ++ [4, Mp.b1 P.code, Mp.b1 (P.keep / 256), Mp.b1 P.keep] = Mp.put Mp.mqtt ++ [4, Mp.b1 P.code] ++ Mp.be2 P.keep := rfl
    rw [← he6] at HL
    generalize ([] : List UInt8) ++ Mp.put Mp.mqtt ++ [4, Mp.b1 P.code, Mp.b1 (P.keep / 256), Mp.b1 P.keep] = l6 at *
    have HL6 := hid hl6
    have c4 : w6.cell? ⟨b, 4, none⟩ = some (S P.name) := hpk.cell 4
    clear hpk he6 hl6
    cases hw : P.will with
    | false =>
      rw [hw, if_neg (by decide)] at HL
      have HW := hid hw
      clear hw
      go_wp2_with (first | (go_at_call 26; refine (HG6.out.put P.name (by have := HL6.out; omega)).mono ?_; rintro e w7 ⟨v7, rfl, hg7, -⟩; have HG7 := hid hg7; have c7 := hg7.pk.cell 7; rw [show (pkCells P nv cv)[7]? = some (.bool P.will) from rfl, HW.out] at c7; clear hg7) | fail)
      go_ret
      exact ⟨v7, rfl, HG7.out.fresh HBB.out (by rw [HL.out, List.append_nil])⟩
    | true =>
      rw [hw, if_pos rfl] at HL
      have HW := hid hw
      clear hw
      go_wp2_with (first | (go_at_call 26; refine (HG6.out.put P.name (by have := HL6.out; omega)).mono ?_; rintro e w7 ⟨v7, rfl, hg7, -⟩; have HG7 := hid hg7; have c7 := hg7.pk.cell 7; rw [show (pkCells P nv cv)[7]? = some (.bool P.will) from rfl, HW.out] at c7; clear hg7) | fail)
      have HG8 := hid HG7.out.drew
      have k8 : ∀ w', KeepOne b w7.drew w' → w'.cell? ⟨b, 8, none⟩ = some (S P.topic) := fun w' hh => by rw [World.cell?_of_block hh.1]; exact HG8.out.pk.cell 8
      have k5 : ∀ w', KeepOne b w7.drew w' → w'.cell? ⟨b, 5, none⟩ = some (S P.text) := fun w' hh => by rw [World.cell?_of_block hh.1]; exact HG8.out.pk.cell 5
      clear HG6 HG7 c4 c7
      refine wp_region_order (KeepOne b) [] [(0,0),(1,0),(2,0),(4,0),(5,0),(3,1),(6,1),(7,0)] _ (by kernel_rfl) rfl KeepOne.refl KeepOne.trans (by kernel_rfl) (by simp only [pick, List.getElem?_toArray, List.getElem?_cons_zero, List.getElem?_cons_succ]; rfl) (fun c a d v w h => by cases d <;> exact h) ?_
      generalize w7.drew = w8 at *
      refine wpK_q (v := ?_) (a' := ?_) (by rfl) (fun w' hR => ?_) ?_ ?_
      rotate_left 2
      · go_simp; with_reducible rfl
      · simp only [Act.put, List.setIfInBounds_toArray, List.set_cons_zero, List.set_cons_succ]; rfl
      refine wpK_q (v := ?_) (a' := ?_) (by rfl) (fun w' hR => ?_) ?_ ?_
      rotate_left 2
      · go_simp; with_reducible rfl
      · simp only [Act.put, List.setIfInBounds_toArray, List.set_cons_zero, List.set_cons_succ]; rfl
      refine wpK_q (v := ?_) (a' := ?_) (by rfl) (fun w' hR => ?_) ?_ ?_
      rotate_left 2
      · go_simp; with_reducible rfl
      · simp only [Act.put, List.setIfInBounds_toArray, List.set_cons_zero, List.set_cons_succ]; rfl
      refine wpK_q (v := ?_) (a' := ?_) (by rfl) (fun w' hR => ?_) ?_ ?_
      rotate_left 2
      · go_simp; with_reducible rfl
      · simp only [Act.put, List.setIfInBounds_toArray, List.set_cons_zero, List.set_cons_succ]; rfl
      refine wpK_q (v := ?_) (a' := ?_) (by rfl) (fun w' hR => ?_) ?_ ?_
      rotate_left 2
      · go_simp; with_reducible rfl
      · simp only [Act.put, List.setIfInBounds_toArray, List.set_cons_zero, List.set_cons_succ]; rfl
      refine wpK_call Try.func26 (by kernel_rfl) rfl rfl (by rfl) #[v7, S P.topic] (by simp only [List.map_toArray, List.map_cons, List.map_nil]; rfl) ?_
      refine (HG8.out.put P.topic (by have := HL6.out; simp only [List.length_append, Mp.put_len]; omega)).mono ?_
      rintro e w9 ⟨v9, rfl, hg9, hk9⟩
      refine ⟨v9, rfl, fun _ => hk9, ?_⟩
      refine wpK_call Try.func26 (by kernel_rfl) rfl rfl (by rfl) #[v9, S P.text] (by simp only [List.map_toArray, List.map_cons, List.map_nil]; rfl) ?_
      refine (hg9.put P.text (by have := HL6.out; simp only [List.length_append, Mp.put_len]; omega)).mono ?_
      rintro e w10 ⟨v10, rfl, hg10, hk10⟩
      refine ⟨v10, rfl, fun _ => hk10, ?_⟩
      refine wpK_q (v := ?_) (a' := ?_) (by rfl) (fun w' hR => ?_) ?_ ?_
      rotate_left 2
      · go_simp; with_reducible rfl
      · simp only [Act.put, List.setIfInBounds_toArray, List.set_cons_zero, List.set_cons_succ]; rfl
      refine wpK_done ?_
      have HG10 := hid hg10
      clear hg9 hk9 hg10 hk10 k8 k5 HG8
      go_wp2_with fail
      go_ret
      exact ⟨v10, rfl, HG10.out.fresh HBB.out (by rw [HL.out]; simp only [List.append_assoc])⟩
  · skip
    have hlt := HG.out.lt
    refine wpK_v (v := .slice (some ⟨wd.heap.size, 0, none⟩) 4 4) (w' := wd.alloc (.cells #[.int .u8 4, .int .u8 ((Mp.b1 P.code).toNat : Int), .int .u8 ((Mp.b1 (P.keep / 256)).toNat : Int), .int .u8 ((Mp.b1 P.keep).toNat : Int)] 5)) (by rfl) (by go_simp) (fun _ => KeepOne.alloc _ hlt) (by simp only [Act.put, List.setIfInBounds_toArray, List.set_cons_zero, List.set_cons_succ]; rfl) ?_
    have hs5 := Sees.lit wd [4, Mp.b1 P.code, Mp.b1 (P.keep / 256), Mp.b1 P.keep] (0, 0) (by simp [maxLen])
    have hgb := HG.out.alloc (.cells #[.int .u8 4, .int .u8 ((Mp.b1 P.code).toNat : Int), .int .u8 ((Mp.b1 (P.keep / 256)).toNat : Int), .int .u8 ((Mp.b1 P.keep).toNat : Int)] 5)
    replace hs5 : Sees (wd.alloc (.cells #[.int .u8 4, .int .u8 ((Mp.b1 P.code).toNat : Int), .int .u8 ((Mp.b1 (P.keep / 256)).toNat : Int), .int .u8 ((Mp.b1 P.keep).toNat : Int)] 5)) (.slice (some ⟨wd.heap.size, 0, none⟩) 4 4) [4, Mp.b1 P.code, Mp.b1 (P.keep / 256), Mp.b1 P.keep] := hs5
    generalize wd.alloc (.cells #[.int .u8 4, .int .u8 ((Mp.b1 P.code).toNat : Int), .int .u8 ((Mp.b1 (P.keep / 256)).toNat : Int), .int .u8 ((Mp.b1 P.keep).toNat : Int)] 5) = wb at *
    refine wpK_call Try.func26 (by kernel_rfl) rfl rfl (by rfl) #[(.slice none 0 0), (.string { data := #[77, 81, 84, 84] })] (by simp only [List.map_toArray, List.map_cons, List.map_nil]; rfl) ?_
    refine (puts_any wb wb.heap.size (.slice none 0 0) [] Mp.mqtt (World.ownsRow_nil _ _ _ _) (Nat.le_refl _) (by decide)).mono ?_
    rintro e w4 ⟨v4, rfl, ho4, hb4⟩
    have hg4 : Grown w w4 b P nv cv v4 ([] ++ Mp.put Mp.mqtt) := hgb.keep (hb4.mono hgb.lt) (own_anew ho4 (fun k hk => Nat.le_trans hgb.lt (own_lt ho4 k hk).1))
    refine ⟨v4, rfl, fun _ => ⟨hb4.block b hgb.lt, hb4.size⟩, ?_⟩
    obtain ⟨v6, w6, hr6, hg6, hk6⟩ := hg4.app [4, Mp.b1 P.code, Mp.b1 (P.keep / 256), Mp.b1 P.keep] _ (hs5.below hb4) (show 10 ≤ 1000000000 by decide) 28
    refine wpK_v (by rfl) (exec_append rfl _ (by simp only [List.map_toArray, List.map_cons, List.map_nil]; rfl) hr6) (fun _ => hk6) (by simp only [Act.put, List.setIfInBounds_toArray, List.set_cons_zero, List.set_cons_succ]; rfl) ?_
    refine wpK_q (v := ?_) (a' := ?_) (by rfl) (fun w' hR => ?_) ?_ ?_
    rotate_left 2
    · go_simp; with_reducible rfl
    · simp only [Act.put, List.setIfInBounds_toArray, List.set_cons_zero, List.set_cons_succ]; rfl
    refine wpK_done ?_
    have HG6 := hid hg6
    clear hr6 hk6 hg6 hs5 hg4 HG k3 k6 e3 e4 e5 hgb ho4 hb4 hlt
    have hpk := HG6.out.pk
    have hl6 : (([] : List UInt8) ++ Mp.put Mp.mqtt ++ [4, Mp.b1 P.code, Mp.b1 (P.keep / 256), Mp.b1 P.keep]).length = 10 := rfl
    have he6 : ([] : List UInt8) ++ Mp.put Mp.mqtt ++ [4, Mp.b1 P.code, Mp.b1 (P.keep / 256), Mp.b1 P.keep] = Mp.put Mp.mqtt ++ [4, Mp.b1 P.code] ++ Mp.be2 P.keep := rfl
    rw [← he6] at HL
    generalize ([] : List UInt8) ++ Mp.put Mp.mqtt ++ [4, Mp.b1 P.code, Mp.b1 (P.keep / 256), Mp.b1 P.keep] = l6 at *
    have HL6 := hid hl6
    have c4 : w6.cell? ⟨b, 4, none⟩ = some (S P.name) := hpk.cell 4
    clear hpk he6 hl6
    cases hw : P.will with
    | false =>
      rw [hw, if_neg (by decide)] at HL
      have HW := hid hw
      clear hw
      go_wp2_with (first | (go_at_call 26; refine (HG6.out.put P.name (by have := HL6.out; omega)).mono ?_; rintro e w7 ⟨v7, rfl, hg7, -⟩; have HG7 := hid hg7; have c7 := hg7.pk.cell 7; rw [show (pkCells P nv cv)[7]? = some (.bool P.will) from rfl, HW.out] at c7; clear hg7) | fail)
      go_ret
      exact ⟨v7, rfl, HG7.out.fresh HBB.out (by rw [HL.out, List.append_nil])⟩
    | true =>
      rw [hw, if_pos rfl] at HL
      have HW := hid hw
      clear hw
      go_wp2_with (first | (go_at_call 26; refine (HG6.out.put P.name (by have := HL6.out; omega)).mono ?_; rintro e w7 ⟨v7, rfl, hg7, -⟩; have HG7 := hid hg7; have c7 := hg7.pk.cell 7; rw [show (pkCells P nv cv)[7]? = some (.bool P.will) from rfl, HW.out] at c7; clear hg7) | fail)
      have HG8 := hid HG7.out.drew
      have k8 : ∀ w', KeepOne b w7.drew w' → w'.cell? ⟨b, 8, none⟩ = some (S P.topic) := fun w' hh => by rw [World.cell?_of_block hh.1]; exact HG8.out.pk.cell 8
      have k5 : ∀ w', KeepOne b w7.drew w' → w'.cell? ⟨b, 5, none⟩ = some (S P.text) := fun w' hh => by rw [World.cell?_of_block hh.1]; exact HG8.out.pk.cell 5
      clear HG6 HG7 c4 c7
      refine wp_region_order (KeepOne b) [] [(0,0),(1,0),(2,0),(4,0),(5,0),(3,1),(6,1),(7,0)] _ (by kernel_rfl) rfl KeepOne.refl KeepOne.trans (by kernel_rfl) (by simp only [pick, List.getElem?_toArray, List.getElem?_cons_zero, List.getElem?_cons_succ]; rfl) (fun c a d v w h => by cases d <;> exact h) ?_
      generalize w7.drew = w8 at *
      refine wpK_q (v := ?_) (a' := ?_) (by rfl) (fun w' hR => ?_) ?_ ?_
      rotate_left 2
      · go_simp; with_reducible rfl
      · simp only [Act.put, List.setIfInBounds_toArray, List.set_cons_zero, List.set_cons_succ]; rfl
      refine wpK_q (v := ?_) (a' := ?_) (by rfl) (fun w' hR => ?_) ?_ ?_
      rotate_left 2
      · go_simp; with_reducible rfl
      · simp only [Act.put, List.setIfInBounds_toArray, List.set_cons_zero, List.set_cons_succ]; rfl
      refine wpK_q (v := ?_) (a' := ?_) (by rfl) (fun w' hR => ?_) ?_ ?_
      rotate_left 2
      · go_simp; with_reducible rfl
      · simp only [Act.put, List.setIfInBounds_toArray, List.set_cons_zero, List.set_cons_succ]; rfl
      refine wpK_q (v := ?_) (a' := ?_) (by rfl) (fun w' hR => ?_) ?_ ?_
      rotate_left 2
      · go_simp; with_reducible rfl
      · simp only [Act.put, List.setIfInBounds_toArray, List.set_cons_zero, List.set_cons_succ]; rfl
      refine wpK_q (v := ?_) (a' := ?_) (by rfl) (fun w' hR => ?_) ?_ ?_
      rotate_left 2
      · go_simp; with_reducible rfl
      · simp only [Act.put, List.setIfInBounds_toArray, List.set_cons_zero, List.set_cons_succ]; rfl
      refine wpK_call Try.func26 (by kernel_rfl) rfl rfl (by rfl) #[v7, S P.topic] (by simp only [List.map_toArray, List.map_cons, List.map_nil]; rfl) ?_
      refine (HG8.out.put P.topic (by have := HL6.out; simp only [List.length_append, Mp.put_len]; omega)).mono ?_
      rintro e w9 ⟨v9, rfl, hg9, hk9⟩
      refine ⟨v9, rfl, fun _ => hk9, ?_⟩
      refine wpK_call Try.func26 (by kernel_rfl) rfl rfl (by rfl) #[v9, S P.text] (by simp only [List.map_toArray, List.map_cons, List.map_nil]; rfl) ?_
      refine (hg9.put P.text (by have := HL6.out; simp only [List.length_append, Mp.put_len]; omega)).mono ?_
      rintro e w10 ⟨v10, rfl, hg10, hk10⟩
      refine ⟨v10, rfl, fun _ => hk10, ?_⟩
      refine wpK_q (v := ?_) (a' := ?_) (by rfl) (fun w' hR => ?_) ?_ ?_
      rotate_left 2
      · go_simp; with_reducible rfl
      · simp only [Act.put, List.setIfInBounds_toArray, List.set_cons_zero, List.set_cons_succ]; rfl
      refine wpK_done ?_
      have HG10 := hid hg10
      clear hg9 hk9 hg10 hk10 k8 k5 HG8
      go_wp2_with fail
      go_ret
      exact ⟨v10, rfl, HG10.out.fresh HBB.out (by rw [HL.out]; simp only [List.append_assoc])⟩
end Go.Proofs.Ytnljmllkfmgclaa
