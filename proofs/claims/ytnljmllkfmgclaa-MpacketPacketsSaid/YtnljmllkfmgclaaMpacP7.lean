/-
  THE PROGRAM: body, of the kinds 4, 5, 6, 7, 11 and 3. Conditions: those that each contract names.
-/
import Derived.Test.YtnljmllkfmgclaaMpacP6
namespace Go.Proofs.Ytnljmllkfmgclaa
open Go.RowKit
set_option linter.unusedVariables false
set_option linter.unusedSimpArgs false

theorem id_bd {s t : List UInt8} {n : Nat} (h : Mp.id s = some (n, t)) : n ≤ 65535 := by
  obtain ⟨a, b, -, rfl, -⟩ := Mp.id_len h
  have := a.toNat_lt
  have := b.toNat_lt
  omega
set_option maxRecDepth 100000 in
set_option maxHeartbeats 3200000 in
theorem body_4 (w : World) (r p k f : Nat) (s : List UInt8) (hk : k = 4 ∨ k = 5 ∨ k = 6 ∨ k = 7 ∨ k = 11) (h : RdIn w r s) (hp : PIn w p (Pk.new k f) nil0 nil0) (hrp : r ≠ p) : Calls Try.prog 24 #[.pointer (some ⟨r, 0, none⟩), .pointer (some ⟨p, 0, none⟩)] w (GotB w r p (Mp.body k f s)) := by
  obtain ⟨O, hO⟩ : ∃ O, O = Mp.body k f s := ⟨_, rfl⟩
  rw [← hO]
  have hO2 : O = (Mp.id s).bind fun i => if i.2 = [] then some { Pk.new k f with id := i.1 } else none := by
    rcases hk with rfl | rfl | rfl | rfl | rfl <;> exact hO
  have HO := hid hO2
  clear hO hO2
  have c0 : w.cell? ⟨p, 0, none⟩ = some (I k) := hp.cell 0
  have lp := hp.lt
  have HB := hid (boxed h hp)
  clear h hp
  rcases hk with rfl | rfl | rfl | rfl | rfl
  all_goals
    go_enter Try.func24, Try.ntmps24
    go_wp2_with fail
  all_goals
    obtain ⟨wa, hwa⟩ : ∃ wa, wa = w.alloc (.cells #[.pointer (some ⟨p, 0, none⟩)] 53) := ⟨_, rfl⟩
    obtain ⟨b, hb⟩ : ∃ b, b = w.heap.size := ⟨_, rfl⟩
    rw [← hwa, ← hb] at HB
    rw [← hwa, ← hb]
    clear c0 lp hwa hb
    have hbp := HB.out.bp
    have HD := hid HB.out.drew
    have kb := HB.out.drew.keep
    clear HB
    cases hi : Mp.id s with
    | none =>
      refine wp_region_order (KeepOne b) [] [(0,0),(1,0),(2,1),(3,0),(4,0),(5,1)] _ (by kernel_rfl) rfl KeepOne.refl KeepOne.trans (by kernel_rfl) (by simp only [pick, List.getElem?_toArray, List.getElem?_cons_zero, List.getElem?_cons_succ]; rfl) (fun c a d v w h => by cases d <;> exact h) ?_
      refine wpK_q (v := ?_) (a' := ?_) (by rfl) (fun w' hR => ?_) ?_ ?_
      rotate_left 2
      · go_simp; with_reducible rfl
      · simp only [Act.put, List.setIfInBounds_toArray, List.set_cons_zero, List.set_cons_succ]; rfl
      refine wpK_q (v := ?_) (a' := ?_) (by rfl) (fun w' hR => ?_) ?_ ?_
      rotate_left 2
      · go_simp; with_reducible rfl
      · simp only [Act.put, List.setIfInBounds_toArray, List.set_cons_zero, List.set_cons_succ]; rfl
      refine wpK_callp Try.func32 (by kernel_rfl) rfl rfl (by rfl) #[.pointer (some ⟨r, 0, none⟩)] (by simp only [List.map_toArray, List.map_cons, List.map_nil]; rfl) ?_
      refine (id_any _ r s HD.out.rd).mono ?_
      intro e w1 hg
      obtain ⟨rfl, hm⟩ := hg.gone (by rw [hi]; rfl)
      refine ⟨_, rfl, ?_⟩
      exact And.intro rfl (GotB.no (HD.out.mod.trans hm.rp) (HD.out.pk.mod hm (Ne.symm hrp)) (by rw [HO.out, hi]; rfl))
    | some x =>
      obtain ⟨n, t⟩ := x
      rw [hi, Option.bind_some] at HO
      refine wp_region_order (KeepOne b) [] [(0,0),(1,0),(2,1),(3,0),(4,0),(5,1)] _ (by kernel_rfl) rfl KeepOne.refl KeepOne.trans (by kernel_rfl) (by simp only [pick, List.getElem?_toArray, List.getElem?_cons_zero, List.getElem?_cons_succ]; rfl) (fun c a d v w h => by cases d <;> exact h) ?_
      refine wpK_q (v := ?_) (a' := ?_) (by rfl) (fun w' hR => ?_) ?_ ?_
      rotate_left 2
      · go_simp; with_reducible rfl
      · simp only [Act.put, List.setIfInBounds_toArray, List.set_cons_zero, List.set_cons_succ]; rfl
      refine wpK_q (v := ?_) (a' := ?_) (by rfl) (fun w' hR => ?_) ?_ ?_
      rotate_left 2
      · go_simp; with_reducible rfl
      · simp only [Act.put, List.setIfInBounds_toArray, List.set_cons_zero, List.set_cons_succ]; rfl
      refine wpK_call Try.func32 (by kernel_rfl) rfl rfl (by rfl) #[.pointer (some ⟨r, 0, none⟩)] (by simp only [List.map_toArray, List.map_cons, List.map_nil]; rfl) ?_
      refine (id_any _ r s HD.out.rd).mono ?_
      intro e w1 hg
      obtain ⟨rfl, hr, hm⟩ := hg.has (v := I n) (t := t) (by rw [hi]; rfl)
      have HD1 := hid (HD.out.read hrp hm hr)
      refine ⟨_, rfl, fun _ => HD.out.step hm, ?_⟩
      clear hg hm hr HD hi
      have hp1 := HD1.out.pk
      refine wpK_q (v := ?_) (a' := ?_) (by rfl) (fun w' hR => ?_) ?_ ?_
      rotate_left 2
      · go_simp; with_reducible rfl
      · simp only [Act.put, List.setIfInBounds_toArray, List.set_cons_zero, List.set_cons_succ]; rfl
      refine wpK_q (v := ?_) (a' := ?_) (by rfl) (fun w' hR => ?_) ?_ ?_
      rotate_left 2
      · go_simp; with_reducible rfl
      · simp only [Act.put, List.setIfInBounds_toArray, List.set_cons_zero, List.set_cons_succ]; rfl
      refine wpK_s (by rfl) rfl (exec_store rfl (vx := .pointer (some ⟨p, 2, none⟩)) (vy := I _) rfl rfl (run_store1 (u := I 0) (by kernel_rfl) rfl rfl (hp1.cell 2) (hp1.fr 2))) (fun _ => KeepOne.set hbp) ?_
      have HD2 := hid (HD1.out.set hrp 2 (I n) (P' := { Pk.new _ f with id := n }) (nv' := nil0) (cv' := nil0) rfl)
      refine wpK_done ?_
      clear hp1 HD1 kb
      generalize w1.setCell ⟨p, 2, none⟩ (I n) = w4 at *
      have cr := HD2.out.rd.c0
      by_cases ht : t = []
      · rw [if_pos ht] at HO
        have he := str_empty t ht
        clear ht
        go_wp2_with (first | (go_at_call 21; refine (unless_ok _).mono ?_; rintro e w2 ⟨rfl, rfl⟩) | fail)
        ((try simp only [Exit.inBlock, Exit.then]); first | refine bodyPost_end (results_none rfl _ _ _) rfl ?_ | refine bodyPost_ret (results_none rfl _ _ _) rfl ?_)
        exact GotB.yes HD2.out.mod HO.out (PkIn.plain HD2.out.pk rfl rfl)
      · rw [if_neg ht] at HO
        have he := str_full t ht
        clear ht
        go_wp2_with (first | (go_at_call 21; refine (unless_no _).mono ?_; rintro e w2 ⟨rfl, rfl⟩) | fail)
        exact And.intro rfl (GotB.no HD2.out.mod HD2.out.pk HO.out)
end Go.Proofs.Ytnljmllkfmgclaa
