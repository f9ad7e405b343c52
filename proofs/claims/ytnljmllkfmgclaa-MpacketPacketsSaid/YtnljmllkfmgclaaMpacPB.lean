/-
  THE PROGRAM: body, of the kind 10. Conditions: those that each contract names.
-/
import Derived.Test.YtnljmllkfmgclaaMpacP9
namespace Go.Proofs.Ytnljmllkfmgclaa
open Go.RowKit
set_option linter.unusedVariables false
set_option linter.unusedSimpArgs false

set_option maxRecDepth 100000 in
set_option maxHeartbeats 6400000 in
theorem body_10 (w : World) (r p f : Nat) (s : List UInt8) (h : RdIn w r s) (hp : PIn w p (Pk.new 10 f) nil0 nil0) (hrp : r ≠ p) : Calls Try.prog 24 #[.pointer (some ⟨r, 0, none⟩), .pointer (some ⟨p, 0, none⟩)] w (GotB w r p (Mp.body 10 f s)) := by
  obtain ⟨O, hO⟩ : ∃ O, O = Mp.body 10 f s := ⟨_, rfl⟩
  rw [← hO]
  have hO2 : O = (Mp.id s).bind fun i => if i.2 = [] then none else (Mp.items 10 i.2.length [] [] i.2).bind fun x => if x.2.all (Mp.codeOk 10) then some { Pk.new 10 f with id := i.1, names := x.1, codes := x.2 } else none := hO
  have HO := hid hO2
  clear hO hO2
  have c0 : w.cell? ⟨p, 0, none⟩ = some (I 10) := hp.cell 0
  have lp := hp.lt
  have lr := h.lt
  have HB := hid (boxed h hp)
  clear h hp
  go_enter Try.func24, Try.ntmps24
  go_wp2_with fail
  obtain ⟨wa, hwa⟩ : ∃ wa, wa = w.alloc (.cells #[.pointer (some ⟨p, 0, none⟩)] 53) := ⟨_, rfl⟩
  obtain ⟨b, hb⟩ : ∃ b, b = w.heap.size := ⟨_, rfl⟩
  rw [← hwa, ← hb] at HB
  rw [← hwa, ← hb]
  have hlb : r < b ∧ p < b := by omega
  clear c0 lp lr hwa hb
  have hbp := HB.out.bp
  have HD := hid HB.out.drew
  have kb := HB.out.drew.keep
  clear HB
  cases hi : Mp.id s with
  | none =>
    refine wp_region_order (KeepOne b) [] [(0,0),(1,0),(2,1),(3,0),(4,0),(5,1)] _ (by kernel_rfl) rfl KeepOne.refl KeepOne.trans (by kernel_rfl) (by simp only [pick, List.getElem?_toArray, List.getElem?_cons_zero, List.getElem?_cons_succ]; rfl) (fun c a d v w h => by cases d <;> exact h) ?_
    refine wpK_q (v := ?_) (a' := ?_) (by rfl) (fun w' hR => ?_) ?_ ?_
    rotate_left 2
    · go_simp; with_reducible rfl
    · simp only [Act.put, List.setIfInBounds_toArray, List.set_cons_zero, List.set_cons_succ]; rfl
    refine wpK_q (v := ?_) (a' := ?_) (by rfl) (fun w' hR => ?_) ?_ ?_
    rotate_left 2
    · go_simp; with_reducible rfl
    · simp only [Act.put, List.setIfInBounds_toArray, List.set_cons_zero, List.set_cons_succ]; rfl
    refine wpK_callp Try.func32 (by kernel_rfl) rfl rfl (by rfl) #[.pointer (some ⟨r, 0, none⟩)] (by simp only [List.map_toArray, List.map_cons, List.map_nil]; rfl) ?_
    refine (id_any _ r s HD.out.rd).mono ?_
    intro e w1 hg
    obtain ⟨rfl, hm⟩ := hg.gone (by rw [hi]; rfl)
    refine ⟨_, rfl, ?_⟩
    exact And.intro rfl (GotB.no (HD.out.mod.trans hm.rp) (HD.out.pk.mod hm (Ne.symm hrp)) (by rw [HO.out, hi]; rfl))
  | some x =>
    obtain ⟨n, s1⟩ := x
    rw [hi, Option.bind_some] at HO
    refine wp_region_order (KeepOne b) [] [(0,0),(1,0),(2,1),(3,0),(4,0),(5,1)] _ (by kernel_rfl) rfl KeepOne.refl KeepOne.trans (by kernel_rfl) (by simp only [pick, List.getElem?_toArray, List.getElem?_cons_zero, List.getElem?_cons_succ]; rfl) (fun c a d v w h => by cases d <;> exact h) ?_
    refine wpK_q (v := ?_) (a' := ?_) (by rfl) (fun w' hR => ?_) ?_ ?_
    rotate_left 2
    · go_simp; with_reducible rfl
    · simp only [Act.put, List.setIfInBounds_toArray, List.set_cons_zero, List.set_cons_succ]; rfl
    refine wpK_q (v := ?_) (a' := ?_) (by rfl) (fun w' hR => ?_) ?_ ?_
    rotate_left 2
    · go_simp; with_reducible rfl
    · simp only [Act.put, List.setIfInBounds_toArray, List.set_cons_zero, List.set_cons_succ]; rfl
    refine wpK_call Try.func32 (by kernel_rfl) rfl rfl (by rfl) #[.pointer (some ⟨r, 0, none⟩)] (by simp only [List.map_toArray, List.map_cons, List.map_nil]; rfl) ?_
    refine (id_any _ r s HD.out.rd).mono ?_
    intro e w1 hg
    obtain ⟨rfl, hr, hm⟩ := hg.has (v := I n) (t := s1) (by rw [hi]; rfl)
    have HD1 := hid (HD.out.read hrp hm hr)
    refine ⟨_, rfl, fun _ => HD.out.step hm, ?_⟩
    clear hg hm hr HD hi
    have hp1 := HD1.out.pk
    refine wpK_q (v := ?_) (a' := ?_) (by rfl) (fun w' hR => ?_) ?_ ?_
    rotate_left 2
    · go_simp; with_reducible rfl
    · simp only [Act.put, List.setIfInBounds_toArray, List.set_cons_zero, List.set_cons_succ]; rfl
    refine wpK_q (v := ?_) (a' := ?_) (by rfl) (fun w' hR => ?_) ?_ ?_
    rotate_left 2
    · go_simp; with_reducible rfl
    · simp only [Act.put, List.setIfInBounds_toArray, List.set_cons_zero, List.set_cons_succ]; rfl
    refine wpK_s (by rfl) rfl (exec_store rfl (vx := .pointer (some ⟨p, 2, none⟩)) (vy := I _) rfl rfl (run_store1 (u := I 0) (by kernel_rfl) rfl rfl (hp1.cell 2) (hp1.fr 2))) (fun _ => KeepOne.set hbp) ?_
    have HD2 := hid (HD1.out.set hrp 2 (I n) (P' := { Pk.new 10 f with id := n }) (nv' := nil0) (cv' := nil0) rfl)
    refine wpK_done ?_
    clear hp1 HD1 kb
    generalize w1.setCell ⟨p, 2, none⟩ (I n) = w2 at *
    have cr := HD2.out.rd.c0
    by_cases h0 : s1 = []
    · rw [if_pos h0] at HO
      have he := str_empty s1 h0
      clear h0
      go_wp2_with (first | (go_at_call 21; refine (unless_no _).mono ?_; rintro e w2 ⟨rfl, rfl⟩) | fail)
      exact And.intro rfl (GotB.no HD2.out.mod HD2.out.pk HO.out)
    rw [if_neg h0] at HO
    have he := str_full s1 h0
    clear h0
    have hL0 : LoopIn w w2 b r p 10 f n s1.length s1 [] [] nil0 nil0 O := ⟨HD2.out, World.ownsRow_nil _ _ _ _, World.ownsRow_nil _ _ _ _, (fun g hg => by cases hg), Nat.le_refl _, Nat.zero_le _, Nat.zero_le _, HO.out⟩
    have HL0 := hid hL0
    clear hL0 HO HD2
    go_wp2_with (first | (go_at_call 21; refine (unless_ok _).mono ?_; rintro e w2 ⟨rfl, rfl⟩) | fail)
    clear he cr
    go_loopg [] (s1.length) (fun m wr => ∃ (s : List UInt8) (ns : List (List UInt8)) (cs : List Int) (nv cv : Value), Hid (LoopIn w wr b r p 10 f n m s ns cs nv cv O))
    case atStart => exact ⟨s1, [], [], nil0, nil0, HL0⟩
    case round =>
      clear HL0
      obtain ⟨s, ns, cs, nv, cv, HL⟩ := hrel
      have hL := HL.out
      have cr := hL.bx.rd.c0
      have cb := hL.bx.box.cell
      have ck : wr.cell? ⟨p, 0, none⟩ = some (I 10) := hL.bx.pk.cell 0
      by_cases h0 : s = []
      · have he := str_empty s h0
        have H0 := hid h0
        have hit : Mp.items 10 gk ns cs s = some (ns, cs) := by rw [h0]; cases gk <;> rfl
        have HIT := hid hit
        have c11 : wr.cell? ⟨p, 11, none⟩ = some cv := hL.bx.pk.cell 11
        have HCL := hid hL.cl
        obtain ⟨ao, co, rfl⟩ := own_form hL.cr
        clear h0 hit hL
        have hca := fun w' (hb : BoxIn w' b p) (hk : w'.cell? ⟨p, 0, none⟩ = some (I 10)) (hs : SeesV w' (.slice ao cs.length co) (cs.map I)) => contains_any w' (.slice ao cs.length co) cs hs (by have := HCL.out; omega) b p 10 hb hk
        have HCA := hid (hca wr HL.out.bx.box ck (own_seesV HL.out.cr (by rw [List.length_map])))
        clear hca
        have heq := HL.out.eq
        rw [HIT.out, Option.bind_some] at heq
        have HEQ := hid heq
        clear heq
        cases hal : cs.all (Mp.codeOk 10) with
        | true =>
          rw [hal] at HCA HEQ
          clear hal
          go_wp2_with (first | (go_at_call 21; refine (unless_ok _).mono ?_; rintro e w2 ⟨rfl, rfl⟩) | (go_at_call 34; refine HCA.out.mono ?_; rintro e w2 ⟨rfl, rfl⟩) | fail)
          ((try simp only [Exit.inBlock, Exit.then]); first | refine bodyPost_end (results_none rfl _ _ _) rfl ?_ | refine bodyPost_ret (results_none rfl _ _ _) rfl ?_)
          exact GotB.yes HL.out.bx.mod HEQ.out ⟨_, _, HL.out.bx.pk, own_anew HL.out.nr (fun k hk => Nat.le_trans (Nat.le_trans HL.out.bx.new (Nat.le_succ b)) (own_lt HL.out.nr k hk).1), own_anew HL.out.cr (fun k hk => Nat.le_trans (Nat.le_trans HL.out.bx.new (Nat.le_succ b)) (own_lt HL.out.cr k hk).1)⟩
        | false =>
          rw [hal] at HCA HEQ
          clear hal
          go_wp2_with (first | (go_at_call 21; refine (unless_no _).mono ?_; rintro e w2 ⟨rfl, rfl⟩) | (go_at_call 34; refine HCA.out.mono ?_; rintro e w2 ⟨rfl, rfl⟩) | fail)
          exact And.intro rfl (GotB.no HL.out.bx.mod HL.out.bx.pk HEQ.out)
      have he := str_full s h0
      obtain ⟨m, rfl⟩ : ∃ m, gk = m + 1 := ⟨gk - 1, by have := hL.le; have : s.length ≠ 0 := fun e => h0 (List.eq_nil_of_length_eq_zero e); omega⟩
      have heq : O = ((Mp.nameOf 10 ns s).bind fun a => (Mp.codeOf 10 cs a.2).bind fun b => if a.1.length ≤ 32 ∧ b.1.length ≤ 32 then Mp.items 10 m a.1 b.1 b.2 else none).bind fun x => if x.2.all (Mp.codeOk 10) then some { Pk.new 10 f with id := n, names := x.1, codes := x.2 } else none := by
        have := hL.eq
        rw [Mp.items, if_neg h0] at this
        exact this
      have HEQ := hid heq
      clear heq h0 hL
      have HBXs := hid HL.out.bx
      have HNRs := hid HL.out.nr
      have HCRs := hid HL.out.cr
      have HDJs := hid HL.out.dj
      have HNL := hid HL.out.nl
      have HCL2 := hid HL.out.cl
      have hle := HL.out.le
      have hnl := HL.out.nl
      have hcl := HL.out.cl
      have HLEs := hid hle
      go_wp2_with fail
      clear he cr cb ck
      have lb := HBXs.out.lt
      have lp := HBXs.out.pk.lt
      have hbr := HBXs.out.br
      have k0 := HBXs.out.drew.cell0
      have kr := HBXs.out.drew.cellp 10
      cases hpl : Mp.text s with
      | none =>
        have hnone : Mp.nameOf 10 ns s = none := by unfold Mp.nameOf; rw [if_pos (by decide), hpl]; rfl
        obtain ⟨a0, o0, hform⟩ := own_form HNRs.out
        have kf : ∀ w', KeepBP b p wr.drew w' → w'.cell? ⟨p, 10, none⟩ = some (.slice a0 ns.length o0) := fun w' hh => (kr w' hh).trans (by rw [← hform]; rfl)
        clear kr
        refine wp_region_order (KeepBP b p) [11] [(0,0),(1,0),(2,0),(3,0),(4,0),(5,0),(6,1),(7,1),(8,1),(9,0),(10,0),(11,2)] _ (by kernel_rfl) rfl KeepBP.refl KeepBP.trans (by kernel_rfl) (by simp only [pick, List.getElem?_toArray, List.getElem?_cons_zero, List.getElem?_cons_succ]; rfl) (fun c a d v w h => by cases d <;> exact h) ?_
        refine wpK_q (v := ?_) (a' := ?_) (by rfl) (fun w' hR => ?_) ?_ ?_
        rotate_left 2
        · go_simp; with_reducible rfl
        · simp only [Act.put, List.setIfInBounds_toArray, List.set_cons_zero, List.set_cons_succ]; rfl
        refine wpK_q (v := ?_) (a' := ?_) (by rfl) (fun w' hR => ?_) ?_ ?_
        rotate_left 2
        · go_simp; with_reducible rfl
        · simp only [Act.put, List.setIfInBounds_toArray, List.set_cons_zero, List.set_cons_succ]; rfl
        refine wpK_q (v := ?_) (a' := ?_) (by rfl) (fun w' hR => ?_) ?_ ?_
        rotate_left 2
        · go_simp; with_reducible rfl
        · simp only [Act.put, List.setIfInBounds_toArray, List.set_cons_zero, List.set_cons_succ]; rfl
        refine wpK_q (v := ?_) (a' := ?_) (by rfl) (fun w' hR => ?_) ?_ ?_
        rotate_left 2
        · go_simp; with_reducible rfl
        · simp only [Act.put, List.setIfInBounds_toArray, List.set_cons_zero, List.set_cons_succ]; rfl
        refine wpK_q (v := ?_) (a' := ?_) (by rfl) (fun w' hR => ?_) ?_ ?_
        rotate_left 2
        · go_simp; with_reducible rfl
        · simp only [Act.put, List.setIfInBounds_toArray, List.set_cons_zero, List.set_cons_succ]; rfl
        refine wpK_q (v := ?_) (a' := ?_) (by rfl) (fun w' hR => ?_) ?_ ?_
        rotate_left 2
        · go_simp; with_reducible rfl
        · simp only [Act.put, List.setIfInBounds_toArray, List.set_cons_zero, List.set_cons_succ]; rfl
        refine wpK_callp Try.func31 (by kernel_rfl) rfl rfl (by rfl) #[.pointer (some ⟨r, 0, none⟩)] (by simp only [List.map_toArray, List.map_cons, List.map_nil]; rfl) ?_
        refine (text_any _ r s HBXs.out.drew.rd).mono ?_
        intro e w1 hg
        obtain ⟨rfl, hm⟩ := hg.gone (by rw [hpl]; rfl)
        refine ⟨_, rfl, ?_⟩
        exact And.intro rfl (GotB.no (HBXs.out.drew.mod.trans hm.rp) (HBXs.out.drew.pk.mod hm (Ne.symm hrp)) (by rw [HEQ.out]; simp [hnone]))
      | some xx =>
      obtain ⟨tx, sn0⟩ := xx
      have hsome : Mp.nameOf 10 ns s = some (ns ++ [tx], sn0) := by unfold Mp.nameOf; rw [if_pos (by decide), hpl]; rfl
      have HSOME0 := hid hsome
      rw [hsome, Option.bind_some] at HEQ
      obtain ⟨a0, o0, hform⟩ := own_form HNRs.out
      have kf : ∀ w', KeepBP b p wr.drew w' → w'.cell? ⟨p, 10, none⟩ = some (.slice a0 ns.length o0) := fun w' hh => (kr w' hh).trans (by rw [← hform]; rfl)
      clear kr hsome
      refine wp_region_order (KeepBP b p) [11] [(0,0),(1,0),(2,0),(3,0),(4,0),(5,0),(6,1),(7,1),(8,1),(9,0),(10,0),(11,2)] _ (by kernel_rfl) rfl KeepBP.refl KeepBP.trans (by kernel_rfl) (by simp only [pick, List.getElem?_toArray, List.getElem?_cons_zero, List.getElem?_cons_succ]; rfl) (fun c a d v w h => by cases d <;> exact h) ?_
      refine wpK_q (v := ?_) (a' := ?_) (by rfl) (fun w' hR => ?_) ?_ ?_
      rotate_left 2
      · go_simp; with_reducible rfl
      · simp only [Act.put, List.setIfInBounds_toArray, List.set_cons_zero, List.set_cons_succ]; rfl
      refine wpK_q (v := ?_) (a' := ?_) (by rfl) (fun w' hR => ?_) ?_ ?_
      rotate_left 2
      · go_simp; with_reducible rfl
      · simp only [Act.put, List.setIfInBounds_toArray, List.set_cons_zero, List.set_cons_succ]; rfl
      refine wpK_q (v := ?_) (a' := ?_) (by rfl) (fun w' hR => ?_) ?_ ?_
      rotate_left 2
      · go_simp; with_reducible rfl
      · simp only [Act.put, List.setIfInBounds_toArray, List.set_cons_zero, List.set_cons_succ]; rfl
      refine wpK_q (v := ?_) (a' := ?_) (by rfl) (fun w' hR => ?_) ?_ ?_
      rotate_left 2
      · go_simp; with_reducible rfl
      · simp only [Act.put, List.setIfInBounds_toArray, List.set_cons_zero, List.set_cons_succ]; rfl
      refine wpK_q (v := ?_) (a' := ?_) (by rfl) (fun w' hR => ?_) ?_ ?_
      rotate_left 2
      · go_simp; with_reducible rfl
      · simp only [Act.put, List.setIfInBounds_toArray, List.set_cons_zero, List.set_cons_succ]; rfl
      refine wpK_q (v := ?_) (a' := ?_) (by rfl) (fun w' hR => ?_) ?_ ?_
      rotate_left 2
      · go_simp; with_reducible rfl
      · simp only [Act.put, List.setIfInBounds_toArray, List.set_cons_zero, List.set_cons_succ]; rfl
      refine wpK_call Try.func31 (by kernel_rfl) rfl rfl (by rfl) #[.pointer (some ⟨r, 0, none⟩)] (by simp only [List.map_toArray, List.map_cons, List.map_nil]; rfl) ?_
      refine (text_any _ r s HBXs.out.drew.rd).mono ?_
      intro e w1 hg
      obtain ⟨rfl, hr, hm⟩ := hg.has (v := S tx) (t := sn0) (by rw [hpl]; rfl)
      refine ⟨_, rfl, fun _ => KeepBP.mod hm lb lp hbr (Ne.symm hrp), ?_⟩
      refine wpK_v (v := .slice (some ⟨w1.heap.size, 0, none⟩) 1 1) (w' := w1.alloc (.cells #[S tx] 9)) (by rfl) (by go_simp) (fun _ => KeepBP.alloc _ (Nat.lt_of_lt_of_le lb hm.size) (Nat.lt_of_lt_of_le lp hm.size)) (by simp only [Act.put, List.setIfInBounds_toArray, List.set_cons_zero, List.set_cons_succ]; rfl) ?_
      have hown : (w1.alloc (.cells #[S tx] 9)).ownsRow (b + 1) 9 1 nv ns.length (ns.map S) := own_mod HNRs.out (fun k hk => (Below.heap_alloc w1 _ _ (Nat.lt_of_lt_of_le (own_lt HNRs.out k hk).2 hm.size)).trans (hm.block k (own_lt HNRs.out k hk).2 (fun e => by have := (own_lt HNRs.out k hk).1; omega)))
      have hbnd := HNL.out
      have hbase : b + 1 ≤ (w1.alloc (.cells #[S tx] 9)).heap.size := by have h2 : b < wr.drew.heap.size := lb; have h3 := hm.size; simp; omega
      have hms := hm.size
      obtain ⟨v20, w3, hr3, ho3, hg3, hb3⟩ := run_app (P := Try.prog) (w1.alloc (.cells #[S tx] 9)) (b + 1) 22 22 9 _ 1 16 Try.underlying22 info9 rfl (by decide) nv ns.length (ns.map S) hown _ 1 [S tx] (Src.new w1 1 9 [S tx] rfl (fun u hu => by obtain rfl := List.mem_singleton.1 hu; rfl)) (by unfold maxLen; omega) (by omega) hbase
      rw [hform] at hr3
      refine wpK_v (by rfl) (exec_append rfl _ (by simp only [List.map_toArray, List.map_cons, List.map_nil]; rfl) hr3) (fun _ => KeepBP.grown hg3 (by have h2 : b < wr.drew.heap.size := lb; simp; omega) (by have h2 : p < wr.drew.heap.size := lp; simp; omega) (own_ge HNRs.out (by omega)) (own_ge HNRs.out (by omega))) (by simp only [Act.put, List.setIfInBounds_toArray, List.set_cons_zero, List.set_cons_succ]; rfl) ?_
      refine wpK_q (v := ?_) (a' := ?_) (by rfl) (fun w' hR => ?_) ?_ ?_
      rotate_left 2
      · go_simp; with_reducible rfl
      · simp only [Act.put, List.setIfInBounds_toArray, List.set_cons_zero, List.set_cons_succ]; rfl
      refine wpK_q (v := ?_) (a' := ?_) (by rfl) (fun w' hR => ?_) ?_ ?_
      rotate_left 2
      · go_simp; with_reducible rfl
      · simp only [Act.put, List.setIfInBounds_toArray, List.set_cons_zero, List.set_cons_succ]; rfl
      have hX : KeepBP b p wr.drew w3 := KeepBP.trans _ _ _ (KeepBP.trans _ _ _ (KeepBP.mod hm lb lp hbr (Ne.symm hrp)) (KeepBP.alloc _ (Nat.lt_of_lt_of_le lb hm.size) (Nat.lt_of_lt_of_le lp hm.size))) (KeepBP.grown hg3 (by have h2 : b < wr.drew.heap.size := lb; simp; omega) (by have h2 : p < wr.drew.heap.size := lp; simp; omega) (own_ge HNRs.out (by omega)) (own_ge HNRs.out (by omega)))
      refine wpK_s (by rfl) rfl (exec_store rfl (vx := .pointer (some ⟨p, 10, none⟩)) (vy := v20) rfl rfl (run_store1 (by kernel_rfl) ?_ ?_ (kf _ hX) (frozen_row (hX.2.1.trans HBXs.out.drew.pk) 10))) (fun h => by cases h) ?_
      · obtain ⟨ao, c, rfl⟩ := own_form ho3; rfl
      · obtain ⟨ao, c, rfl⟩ := own_form ho3; rfl
      refine wpK_done ?_
      have hst := row_step hrp hlb HBXs.out.drew (own_mod (w' := wr.drew) HNRs.out (fun _ _ => rfl)) (own_mod (w' := wr.drew) HCRs.out (fun _ _ => rfl)) HDJs.out hm hr (.cells #[S tx] 9) ho3 hg3 hb3 10 (nv2 := v20) (cv2 := cv) rfl
      obtain ⟨hst1, hst2, hst3, hst4⟩ := hst
      have HBX0 := hid hst1
      have HROW0 := hid hst2
      have HOTH0 := hid hst3
      have HDJ0 := hid hst4
      clear hbase hst1 hst2 hst3 hst4 hX hr3 ho3 hg3 hb3 hown hg hr hm kf k0 lb lp hbr hbnd hms hpl
      generalize w3.setCell ⟨p, 10, none⟩ v20 = wn0 at *
      have hno : Mp.codeOf 10 cs sn0 = some (cs, sn0) := by unfold Mp.codeOf; rw [if_neg (by decide)]
      rw [hno, Option.bind_some] at HEQ
      clear hno
      have cb2 := HBX0.out.box.cell
      have ck2 : wn0.cell? ⟨p, 0, none⟩ = some (I 10) := HBX0.out.pk.cell 0
      have c10 : wn0.cell? ⟨p, 10, none⟩ = some v20 := HBX0.out.pk.cell 10
      have c11 : wn0.cell? ⟨p, 11, none⟩ = some cv := HBX0.out.pk.cell 11
      obtain ⟨a10, o10, h10⟩ := own_form HROW0.out
      obtain ⟨a11, o11, h11⟩ := own_form HOTH0.out
      rw [h10] at c10
      rw [h11] at c11
      have H10 := hid h10
      have H11 := hid h11
      have HLE := hid hle
      have HNL3 := hid hnl
      have HCL3 := hid hcl
      clear h10 h11 hle hnl hcl
      by_cases hn : ns.length + 1 ≤ 32
      rotate_left
      · have hd10 : decide ((ns.length : Int) + 1 ≤ 32) = false := decide_eq_false (by omega)
        rw [if_neg (by (try simp only [List.length_append, List.length_singleton]); intro hh; exact hn hh.1)] at HEQ
        clear hn
        go_wp2_with (first | (go_at_call 21; refine (unless_no _).mono ?_; rintro e w2 ⟨rfl, rfl⟩) | fail)
        exact And.intro rfl (GotB.no HBX0.out.mod HBX0.out.pk HEQ.out)
      have hd10 : decide ((ns.length : Int) + 1 ≤ 32) = true := decide_eq_true (by omega)
      have HN := hid hn
      clear hn
      by_cases hc : cs.length ≤ 32
      rotate_left
      · have hd11 : decide ((cs.length : Int) ≤ 32) = false := decide_eq_false (by omega)
        rw [if_neg (by (try simp only [List.length_append, List.length_singleton]); intro hh; exact hc hh.2)] at HEQ
        clear hc
        go_wp2_with (first | (go_at_call 21; refine (unless_no _).mono ?_; rintro e w2 ⟨rfl, rfl⟩) | fail)
        exact And.intro rfl (GotB.no HBX0.out.mod HBX0.out.pk HEQ.out)
      have hd11 : decide ((cs.length : Int) ≤ 32) = true := decide_eq_true (by omega)
      have HC := hid hc
      clear hc
      rw [if_pos ⟨by (try simp only [List.length_append, List.length_singleton]); exact HN.out, by (try simp only [List.length_append, List.length_singleton]); exact HC.out⟩] at HEQ
      go_wp2_with (first | (go_at_call 21; refine (unless_ok _).mono ?_; rintro e w2 ⟨rfl, rfl⟩) | fail)
      go_roundg m
      case measure => omega
      case rel => exact ⟨sn0, ns ++ [tx], cs, _, _, hid ⟨HBX0.out, own_len HROW0.out (by simp) (by first | rfl | rw [List.map_append]; rfl), own_len HOTH0.out (by simp) (by first | rfl | rw [List.map_append]; rfl), HDJ0.out, by have := Mp.item_lt (k := 10) (ns := ns) (cs := cs) (cs' := cs) HSOME0.out (by unfold Mp.codeOf; rw [if_neg (by decide)]); have := HLE.out; omega, by (try simp only [List.length_append, List.length_singleton]); exact HN.out, by (try simp only [List.length_append, List.length_singleton]); exact HC.out, HEQ.out⟩⟩
end Go.Proofs.Ytnljmllkfmgclaa
