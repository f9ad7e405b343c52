/-
  THE PROGRAM: body, of the kind 3. Conditions: those that each contract names.
-/
import Derived.Test.YtnljmllkfmgclaaMpacP7
namespace Go.Proofs.Ytnljmllkfmgclaa
open Go.RowKit
set_option linter.unusedVariables false
set_option linter.unusedSimpArgs false

theorem load9 {w : World} {r i : Nat} {v : Value} (h : w.cell? ⟨r, i, none⟩ = some v) (h1 : v.oneCell' = true) : (Instr.loadAt 9 (.pointer (some ⟨r, i, none⟩))).run Try.prog w = .ok v w := by
  go_simp
theorem and3f (n : Nat) (h : n < 16) : Go.bits .and .i64 ((n : Int) / 2) 3 = ((n / 2 % 4 : Nat) : Int) := and3 n h
set_option maxRecDepth 100000 in
set_option maxHeartbeats 3200000 in
theorem body_3 (w : World) (r p f : Nat) (s : List UInt8) (hf : f < 16) (h : RdIn w r s) (hp : PIn w p (Pk.new 3 f) nil0 nil0) (hrp : r ≠ p) : Calls Try.prog 24 #[.pointer (some ⟨r, 0, none⟩), .pointer (some ⟨p, 0, none⟩)] w (GotB w r p (Mp.body 3 f s)) := by
  obtain ⟨O, hO⟩ : ∃ O, O = Mp.body 3 f s := ⟨_, rfl⟩
  rw [← hO]
  have hO2 : O = (Mp.text s).bind fun a => if 0 < f / 2 % 4 then (Mp.id a.2).bind fun i => if i.2.length ≤ 1024 then some { Pk.new 3 f with topic := a.1, id := i.1, text := i.2 } else none else if a.2.length ≤ 1024 then some { Pk.new 3 f with topic := a.1, text := a.2 } else none := hO
  have HO := hid hO2
  clear hO hO2
  have c0 : w.cell? ⟨p, 0, none⟩ = some (I 3) := hp.cell 0
  have lp := hp.lt
  have HB := hid (boxed h hp)
  clear h hp
  go_enter Try.func24, Try.ntmps24
  go_wp2_with fail
  obtain ⟨wa, hwa⟩ : ∃ wa, wa = w.alloc (.cells #[.pointer (some ⟨p, 0, none⟩)] 53) := ⟨_, rfl⟩
  obtain ⟨b, hb⟩ : ∃ b, b = w.heap.size := ⟨_, rfl⟩
  rw [← hwa, ← hb] at HB
  rw [← hwa, ← hb]
  clear c0 lp hwa hb
  have hbp := HB.out.bp
  have HD := hid HB.out.drew
  have kb := HB.out.drew.keep
  clear HB
  cases hi : Mp.text s with
  | none =>
    refine wp_region_order (KeepOne b) [] [(0,0),(1,0),(2,1),(3,0),(4,0),(5,1)] _ (by kernel_rfl) rfl KeepOne.refl KeepOne.trans (by kernel_rfl) (by simp only [pick, List.getElem?_toArray, List.getElem?_cons_zero, List.getElem?_cons_succ]; rfl) (fun c a d v w h => by cases d <;> exact h) ?_
    refine wpK_q (v := ?_) (a' := ?_) (by rfl) (fun w' hR => ?_) ?_ ?_
    rotate_left 2
    · go_simp; with_reducible rfl
    · simp only [Act.put, List.setIfInBounds_toArray, List.set_cons_zero, List.set_cons_succ]; rfl
    refine wpK_q (v := ?_) (a' := ?_) (by rfl) (fun w' hR => ?_) ?_ ?_
    rotate_left 2
    · go_simp; with_reducible rfl
    · simp only [Act.put, List.setIfInBounds_toArray, List.set_cons_zero, List.set_cons_succ]; rfl
    refine wpK_callp Try.func31 (by kernel_rfl) rfl rfl (by rfl) #[.pointer (some ⟨r, 0, none⟩)] (by simp only [List.map_toArray, List.map_cons, List.map_nil]; rfl) ?_
    refine (text_any _ r s HD.out.rd).mono ?_
    intro e w1 hg
    obtain ⟨rfl, hm⟩ := hg.gone (by rw [hi]; rfl)
    refine ⟨_, rfl, ?_⟩
    exact And.intro rfl (GotB.no (HD.out.mod.trans hm.rp) (HD.out.pk.mod hm (Ne.symm hrp)) (by rw [HO.out, hi]; rfl))
  | some x =>
    obtain ⟨tp, s1⟩ := x
    rw [hi, Option.bind_some] at HO
    refine wp_region_order (KeepOne b) [] [(0,0),(1,0),(2,1),(3,0),(4,0),(5,1)] _ (by kernel_rfl) rfl KeepOne.refl KeepOne.trans (by kernel_rfl) (by simp only [pick, List.getElem?_toArray, List.getElem?_cons_zero, List.getElem?_cons_succ]; rfl) (fun c a d v w h => by cases d <;> exact h) ?_
    refine wpK_q (v := ?_) (a' := ?_) (by rfl) (fun w' hR => ?_) ?_ ?_
    rotate_left 2
    · go_simp; with_reducible rfl
    · simp only [Act.put, List.setIfInBounds_toArray, List.set_cons_zero, List.set_cons_succ]; rfl
    refine wpK_q (v := ?_) (a' := ?_) (by rfl) (fun w' hR => ?_) ?_ ?_
    rotate_left 2
    · go_simp; with_reducible rfl
    · simp only [Act.put, List.setIfInBounds_toArray, List.set_cons_zero, List.set_cons_succ]; rfl
    refine wpK_call Try.func31 (by kernel_rfl) rfl rfl (by rfl) #[.pointer (some ⟨r, 0, none⟩)] (by simp only [List.map_toArray, List.map_cons, List.map_nil]; rfl) ?_
    refine (text_any _ r s HD.out.rd).mono ?_
    intro e w1 hg
    obtain ⟨rfl, hr, hm⟩ := hg.has (v := S tp) (t := s1) (by rw [hi]; rfl)
    have HD1 := hid (HD.out.read hrp hm hr)
    refine ⟨_, rfl, fun _ => HD.out.step hm, ?_⟩
    clear hg hm hr HD hi
    have hp1 := HD1.out.pk
    refine wpK_q (v := ?_) (a' := ?_) (by rfl) (fun w' hR => ?_) ?_ ?_
    rotate_left 2
    · go_simp; with_reducible rfl
    · simp only [Act.put, List.setIfInBounds_toArray, List.set_cons_zero, List.set_cons_succ]; rfl
    refine wpK_q (v := ?_) (a' := ?_) (by rfl) (fun w' hR => ?_) ?_ ?_
    rotate_left 2
    · go_simp; with_reducible rfl
    · simp only [Act.put, List.setIfInBounds_toArray, List.set_cons_zero, List.set_cons_succ]; rfl
    refine wpK_s (by rfl) rfl (exec_store rfl (vx := .pointer (some ⟨p, 8, none⟩)) (vy := S _) rfl rfl (run_store1 (u := S []) (by kernel_rfl) rfl rfl (hp1.cell 8) (hp1.fr 8))) (fun _ => KeepOne.set hbp) ?_
    have HD2 := hid (HD1.out.set hrp 8 (S tp) (P' := { Pk.new 3 f with topic := tp }) (nv' := nil0) (cv' := nil0) rfl)
    refine wpK_done ?_
    clear hp1 HD1 kb
    generalize w1.setCell ⟨p, 8, none⟩ (S tp) = w2 at *
    have cb := HD2.out.box.cell
    have c1 : w2.cell? ⟨p, 1, none⟩ = some (I f) := HD2.out.pk.cell 1
    have e3 := and3f f hf
    by_cases h0 : 0 < f / 2 % 4
    · rw [if_pos h0] at HO
      obtain ⟨X, hX, eX⟩ : ∃ X : Int, decide (0 < X) = true ∧ Go.bits .and .i64 ((f : Int) / 2) 3 = X := ⟨_, decide_eq_true (by omega), e3⟩
      clear e3 h0
      go_wp2_with fail
      clear cb c1
      have kb := HD2.out.drew.keep
      cases hj : Mp.id s1 with
      | none =>
        refine wp_region_order (KeepOne b) [] [(0,0),(1,0),(2,1),(3,0),(4,0),(5,1)] _ (by kernel_rfl) rfl KeepOne.refl KeepOne.trans (by kernel_rfl) (by simp only [pick, List.getElem?_toArray, List.getElem?_cons_zero, List.getElem?_cons_succ]; rfl) (fun c a d v w h => by cases d <;> exact h) ?_
        refine wpK_q (v := ?_) (a' := ?_) (by rfl) (fun w' hR => ?_) ?_ ?_
        rotate_left 2
        · go_simp; with_reducible rfl
        · simp only [Act.put, List.setIfInBounds_toArray, List.set_cons_zero, List.set_cons_succ]; rfl
        refine wpK_q (v := ?_) (a' := ?_) (by rfl) (fun w' hR => ?_) ?_ ?_
        rotate_left 2
        · go_simp; with_reducible rfl
        · simp only [Act.put, List.setIfInBounds_toArray, List.set_cons_zero, List.set_cons_succ]; rfl
        refine wpK_callp Try.func32 (by kernel_rfl) rfl rfl (by rfl) #[.pointer (some ⟨r, 0, none⟩)] (by simp only [List.map_toArray, List.map_cons, List.map_nil]; rfl) ?_
        refine (id_any _ r s1 HD2.out.drew.rd).mono ?_
        intro e w3 hg
        obtain ⟨rfl, hm⟩ := hg.gone (by rw [hj]; rfl)
        refine ⟨_, rfl, ?_⟩
        exact And.intro rfl (GotB.no (HD2.out.drew.mod.trans hm.rp) (HD2.out.drew.pk.mod hm (Ne.symm hrp)) (by rw [HO.out, hj]; rfl))
      | some x =>
        obtain ⟨n, s2⟩ := x
        rw [hj, Option.bind_some] at HO
        refine wp_region_order (KeepOne b) [] [(0,0),(1,0),(2,1),(3,0),(4,0),(5,1)] _ (by kernel_rfl) rfl KeepOne.refl KeepOne.trans (by kernel_rfl) (by simp only [pick, List.getElem?_toArray, List.getElem?_cons_zero, List.getElem?_cons_succ]; rfl) (fun c a d v w h => by cases d <;> exact h) ?_
        refine wpK_q (v := ?_) (a' := ?_) (by rfl) (fun w' hR => ?_) ?_ ?_
        rotate_left 2
        · go_simp; with_reducible rfl
        · simp only [Act.put, List.setIfInBounds_toArray, List.set_cons_zero, List.set_cons_succ]; rfl
        refine wpK_q (v := ?_) (a' := ?_) (by rfl) (fun w' hR => ?_) ?_ ?_
        rotate_left 2
        · go_simp; with_reducible rfl
        · simp only [Act.put, List.setIfInBounds_toArray, List.set_cons_zero, List.set_cons_succ]; rfl
        refine wpK_call Try.func32 (by kernel_rfl) rfl rfl (by rfl) #[.pointer (some ⟨r, 0, none⟩)] (by simp only [List.map_toArray, List.map_cons, List.map_nil]; rfl) ?_
        refine (id_any _ r s1 HD2.out.drew.rd).mono ?_
        intro e w3 hg
        obtain ⟨rfl, hr, hm⟩ := hg.has (v := I n) (t := s2) (by rw [hj]; rfl)
        have HD3 := hid (HD2.out.drew.read hrp hm hr)
        refine ⟨_, rfl, fun _ => HD2.out.drew.step hm, ?_⟩
        clear hg hm hr HD2 hj
        have hp1 := HD3.out.pk
        refine wpK_q (v := ?_) (a' := ?_) (by rfl) (fun w' hR => ?_) ?_ ?_
        rotate_left 2
        · go_simp; with_reducible rfl
        · simp only [Act.put, List.setIfInBounds_toArray, List.set_cons_zero, List.set_cons_succ]; rfl
        refine wpK_q (v := ?_) (a' := ?_) (by rfl) (fun w' hR => ?_) ?_ ?_
        rotate_left 2
        · go_simp; with_reducible rfl
        · simp only [Act.put, List.setIfInBounds_toArray, List.set_cons_zero, List.set_cons_succ]; rfl
        refine wpK_s (by rfl) rfl (exec_store rfl (vx := .pointer (some ⟨p, 2, none⟩)) (vy := I _) rfl rfl (run_store1 (u := I 0) (by kernel_rfl) rfl rfl (hp1.cell 2) (hp1.fr 2))) (fun _ => KeepOne.set hbp) ?_
        have HD4 := hid (HD3.out.set hrp 2 (I n) (P' := { Pk.new 3 f with topic := tp, id := n }) (nv' := nil0) (cv' := nil0) rfl)
        refine wpK_done ?_
        clear hp1 HD3 kb
        generalize w3.setCell ⟨p, 2, none⟩ (I n) = w4 at *
        go_wp2_with fail
        have kb := HD4.out.drew.keep
        have hcr := HD4.out.drew.rd.c0
        have hsz := str_size s2
        have hle := HD4.out.rd.le
        have htk : Mp.take s2.length s2 = some (s2, []) := by unfold Mp.take; rw [if_pos (Nat.le_refl _), List.take_length, List.drop_length]
        refine wp_region_order (KeepOne b) [] [(0,0),(1,0),(2,0),(3,0),(4,0),(5,1),(6,0),(7,1),(8,0),(9,0),(10,1)] _ (by kernel_rfl) rfl KeepOne.refl KeepOne.trans (by kernel_rfl) (by simp only [pick, List.getElem?_toArray, List.getElem?_cons_zero, List.getElem?_cons_succ]; rfl) (fun c a d v w h => by cases d <;> exact h) ?_
        refine wpK_q (v := ?_) (a' := ?_) (by rfl) (fun w' hR => ?_) ?_ ?_
        rotate_left 2
        · go_simp; with_reducible rfl
        · simp only [Act.put, List.setIfInBounds_toArray, List.set_cons_zero, List.set_cons_succ]; rfl
        refine wpK_q (v := ?_) (a' := ?_) (by rfl) (fun w' hR => ?_) ?_ ?_
        rotate_left 2
        · go_simp; with_reducible rfl
        · simp only [Act.put, List.setIfInBounds_toArray, List.set_cons_zero, List.set_cons_succ]; rfl
        refine wpK_q (v := ?_) (a' := ?_) (by rfl) (fun w' hR => ?_) ?_ ?_
        rotate_left 2
        · go_simp; with_reducible rfl
        · simp only [Act.put, List.setIfInBounds_toArray, List.set_cons_zero, List.set_cons_succ]; rfl
        refine wpK_q (v := ?_) (a' := ?_) (by rfl) (fun w' hR => ?_) ?_ ?_
        rotate_left 2
        · go_simp; with_reducible rfl
        · simp only [Act.put, List.setIfInBounds_toArray, List.set_cons_zero, List.set_cons_succ]; rfl
        refine wpK_q (v := ?_) (a' := ?_) (by rfl) (fun w' hR => ?_) ?_ ?_
        rotate_left 2
        · go_simp; with_reducible rfl
        · simp only [Act.put, List.setIfInBounds_toArray, List.set_cons_zero, List.set_cons_succ]; rfl
        refine wpK_v (by rfl) (exec_load rfl (vx := .pointer (some ⟨r, 0, none⟩)) rfl (load9 hcr rfl)) (fun _ => KeepOne.refl _) (by simp only [Act.put, List.setIfInBounds_toArray, List.set_cons_zero, List.set_cons_succ]; rfl) ?_
        clear hcr
        refine wpK_q (v := ?_) (a' := ?_) (by rfl) (fun w' hR => ?_) ?_ ?_
        rotate_left 2
        · go_simp; with_reducible rfl
        · simp only [Act.put, List.setIfInBounds_toArray, List.set_cons_zero, List.set_cons_succ]; rfl
        clear hsz
        refine wpK_call Try.func33 (by kernel_rfl) rfl rfl (by rfl) #[.pointer (some ⟨r, 0, none⟩), I s2.length] (by simp only [List.map_toArray, List.map_cons, List.map_nil]; rfl) ?_
        refine (take_any _ r s2 s2.length HD4.out.drew.rd hle).mono ?_
        intro e w5 hg
        obtain ⟨rfl, hr, hm⟩ := hg.has (v := S s2) (t := []) (by rw [htk]; rfl)
        have HD5 := hid (HD4.out.drew.read hrp hm hr)
        refine ⟨_, rfl, fun _ => HD4.out.drew.step hm, ?_⟩
        clear hg hm hr HD4 htk hle
        have hp1 := HD5.out.pk
        refine wpK_q (v := ?_) (a' := ?_) (by rfl) (fun w' hR => ?_) ?_ ?_
        rotate_left 2
        · go_simp; with_reducible rfl
        · simp only [Act.put, List.setIfInBounds_toArray, List.set_cons_zero, List.set_cons_succ]; rfl
        refine wpK_q (v := ?_) (a' := ?_) (by rfl) (fun w' hR => ?_) ?_ ?_
        rotate_left 2
        · go_simp; with_reducible rfl
        · simp only [Act.put, List.setIfInBounds_toArray, List.set_cons_zero, List.set_cons_succ]; rfl
        refine wpK_s (by rfl) rfl (exec_store rfl (vx := .pointer (some ⟨p, 5, none⟩)) (vy := S _) rfl rfl (run_store1 (u := S []) (by kernel_rfl) rfl rfl (hp1.cell 5) (hp1.fr 5))) (fun _ => KeepOne.set hbp) ?_
        have HD6 := hid (HD5.out.set hrp 5 (S s2) (P' := { Pk.new 3 f with topic := tp, id := n, text := s2 }) (nv' := nil0) (cv' := nil0) rfl)
        refine wpK_done ?_
        clear hp1 HD5 kb
        generalize w5.setCell ⟨p, 5, none⟩ (S s2) = w6 at *
        have cb := HD6.out.box.cell
        have c5 : w6.cell? ⟨p, 5, none⟩ = some (S s2) := HD6.out.pk.cell 5
        have cr := HD6.out.rd.c0
        have hz := str_size s2
        have he := str_empty [] rfl
        by_cases hl : s2.length ≤ 1024
        · rw [if_pos hl] at HO
          have hd : decide ((s2.length : Int) ≤ 1024) = true := decide_eq_true (by omega)
          clear hl
          go_wp2_with (first | (go_at_call 21; refine (unless_ok _).mono ?_; rintro e w2 ⟨rfl, rfl⟩) | fail)
          ((try simp only [Exit.inBlock, Exit.then]); first | refine bodyPost_end (results_none rfl _ _ _) rfl ?_ | refine bodyPost_ret (results_none rfl _ _ _) rfl ?_)
          exact GotB.yes HD6.out.mod HO.out (PkIn.plain HD6.out.pk rfl rfl)
        · rw [if_neg hl] at HO
          have hd : decide ((s2.length : Int) ≤ 1024) = false := decide_eq_false (by omega)
          clear hl
          go_wp2_with (first | (go_at_call 21; refine (unless_no _).mono ?_; rintro e w2 ⟨rfl, rfl⟩) | fail)
          exact And.intro rfl (GotB.no HD6.out.mod HD6.out.pk HO.out)
    · rw [if_neg h0] at HO
      obtain ⟨X, hX, eX⟩ : ∃ X : Int, decide (0 < X) = false ∧ Go.bits .and .i64 ((f : Int) / 2) 3 = X := ⟨_, decide_eq_false (by omega), e3⟩
      clear e3 h0
      go_wp2_with fail
      clear cb c1
      have kb := HD2.out.drew.keep
      have hcr := HD2.out.drew.rd.c0
      have hsz := str_size s1
      have hle := HD2.out.rd.le
      have htk : Mp.take s1.length s1 = some (s1, []) := by unfold Mp.take; rw [if_pos (Nat.le_refl _), List.take_length, List.drop_length]
      refine wp_region_order (KeepOne b) [] [(0,0),(1,0),(2,0),(3,0),(4,0),(5,1),(6,0),(7,1),(8,0),(9,0),(10,1)] _ (by kernel_rfl) rfl KeepOne.refl KeepOne.trans (by kernel_rfl) (by simp only [pick, List.getElem?_toArray, List.getElem?_cons_zero, List.getElem?_cons_succ]; rfl) (fun c a d v w h => by cases d <;> exact h) ?_
      refine wpK_q (v := ?_) (a' := ?_) (by rfl) (fun w' hR => ?_) ?_ ?_
      rotate_left 2
      · go_simp; with_reducible rfl
      · simp only [Act.put, List.setIfInBounds_toArray, List.set_cons_zero, List.set_cons_succ]; rfl
      refine wpK_q (v := ?_) (a' := ?_) (by rfl) (fun w' hR => ?_) ?_ ?_
      rotate_left 2
      · go_simp; with_reducible rfl
      · simp only [Act.put, List.setIfInBounds_toArray, List.set_cons_zero, List.set_cons_succ]; rfl
      refine wpK_q (v := ?_) (a' := ?_) (by rfl) (fun w' hR => ?_) ?_ ?_
      rotate_left 2
      · go_simp; with_reducible rfl
      · simp only [Act.put, List.setIfInBounds_toArray, List.set_cons_zero, List.set_cons_succ]; rfl
      refine wpK_q (v := ?_) (a' := ?_) (by rfl) (fun w' hR => ?_) ?_ ?_
      rotate_left 2
      · go_simp; with_reducible rfl
      · simp only [Act.put, List.setIfInBounds_toArray, List.set_cons_zero, List.set_cons_succ]; rfl
      refine wpK_q (v := ?_) (a' := ?_) (by rfl) (fun w' hR => ?_) ?_ ?_
      rotate_left 2
      · go_simp; with_reducible rfl
      · simp only [Act.put, List.setIfInBounds_toArray, List.set_cons_zero, List.set_cons_succ]; rfl
      refine wpK_v (by rfl) (exec_load rfl (vx := .pointer (some ⟨r, 0, none⟩)) rfl (load9 hcr rfl)) (fun _ => KeepOne.refl _) (by simp only [Act.put, List.setIfInBounds_toArray, List.set_cons_zero, List.set_cons_succ]; rfl) ?_
      clear hcr
      refine wpK_q (v := ?_) (a' := ?_) (by rfl) (fun w' hR => ?_) ?_ ?_
      rotate_left 2
      · go_simp; with_reducible rfl
      · simp only [Act.put, List.setIfInBounds_toArray, List.set_cons_zero, List.set_cons_succ]; rfl
      clear hsz
      refine wpK_call Try.func33 (by kernel_rfl) rfl rfl (by rfl) #[.pointer (some ⟨r, 0, none⟩), I s1.length] (by simp only [List.map_toArray, List.map_cons, List.map_nil]; rfl) ?_
      refine (take_any _ r s1 s1.length HD2.out.drew.rd hle).mono ?_
      intro e w5 hg
      obtain ⟨rfl, hr, hm⟩ := hg.has (v := S s1) (t := []) (by rw [htk]; rfl)
      have HD5 := hid (HD2.out.drew.read hrp hm hr)
      refine ⟨_, rfl, fun _ => HD2.out.drew.step hm, ?_⟩
      clear hg hm hr HD2 htk hle
      have hp1 := HD5.out.pk
      refine wpK_q (v := ?_) (a' := ?_) (by rfl) (fun w' hR => ?_) ?_ ?_
      rotate_left 2
      · go_simp; with_reducible rfl
      · simp only [Act.put, List.setIfInBounds_toArray, List.set_cons_zero, List.set_cons_succ]; rfl
      refine wpK_q (v := ?_) (a' := ?_) (by rfl) (fun w' hR => ?_) ?_ ?_
      rotate_left 2
      · go_simp; with_reducible rfl
      · simp only [Act.put, List.setIfInBounds_toArray, List.set_cons_zero, List.set_cons_succ]; rfl
      refine wpK_s (by rfl) rfl (exec_store rfl (vx := .pointer (some ⟨p, 5, none⟩)) (vy := S _) rfl rfl (run_store1 (u := S []) (by kernel_rfl) rfl rfl (hp1.cell 5) (hp1.fr 5))) (fun _ => KeepOne.set hbp) ?_
      have HD6 := hid (HD5.out.set hrp 5 (S s1) (P' := { Pk.new 3 f with topic := tp, text := s1 }) (nv' := nil0) (cv' := nil0) rfl)
      refine wpK_done ?_
      clear hp1 HD5 kb
      generalize w5.setCell ⟨p, 5, none⟩ (S s1) = w6 at *
      have cb := HD6.out.box.cell
      have c5 : w6.cell? ⟨p, 5, none⟩ = some (S s1) := HD6.out.pk.cell 5
      have cr := HD6.out.rd.c0
      have hz := str_size s1
      have he := str_empty [] rfl
      by_cases hl : s1.length ≤ 1024
      · rw [if_pos hl] at HO
        have hd : decide ((s1.length : Int) ≤ 1024) = true := decide_eq_true (by omega)
        clear hl
        go_wp2_with (first | (go_at_call 21; refine (unless_ok _).mono ?_; rintro e w2 ⟨rfl, rfl⟩) | fail)
        ((try simp only [Exit.inBlock, Exit.then]); first | refine bodyPost_end (results_none rfl _ _ _) rfl ?_ | refine bodyPost_ret (results_none rfl _ _ _) rfl ?_)
        exact GotB.yes HD6.out.mod HO.out (PkIn.plain HD6.out.pk rfl rfl)
      · rw [if_neg hl] at HO
        have hd : decide ((s1.length : Int) ≤ 1024) = false := decide_eq_false (by omega)
        clear hl
        go_wp2_with (first | (go_at_call 21; refine (unless_no _).mono ?_; rintro e w2 ⟨rfl, rfl⟩) | fail)
        exact And.intro rfl (GotB.no HD6.out.mod HD6.out.pk HO.out)
end Go.Proofs.Ytnljmllkfmgclaa
