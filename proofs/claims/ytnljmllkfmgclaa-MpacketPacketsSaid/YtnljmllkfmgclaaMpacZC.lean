/-
  THE DOCUMENT'S ANSWER: read (25). Conditions: those that each contract names.
-/
import Derived.Test.YtnljmllkfmgclaaMpacZB
import Derived.Deep.CutBlock
namespace Go.Proofs.Ytnljmllkfmgclaa
open Go.RowKit
set_option linter.unusedVariables false
set_option linter.unusedSimpArgs false

set_option maxRecDepth 100000 in
set_option maxHeartbeats 6400000 in
theorem read_any (w : World) (k f : Nat) (s : List UInt8) (hs : s.length ≤ 1048576) (hk : 1 ≤ k ∧ k ≤ 14) (hf : f < 16) : Calls Try.prog 25 #[I k, I f, S s] w (ReadB w (Rp.read k f s)) := by
  obtain ⟨X, hX⟩ : ∃ X, X = Rp.read k f s := ⟨_, rfl⟩
  rw [← hX]
  have HX := hid hX
  have HRB := hid (rb_start w k f s hs)
  clear hX
  go_enter Try.func25, Try.ntmps25
  go_upto_region 1 with (fail)
  rw [show w.alloc (.cells #[.int .i64 0, .int .i64 0, .int .i64 0, .int .i64 0, .string { data := #[] }, .string { data := #[] }, .int .i64 0, .bool false, .string { data := #[] }, .bool false, .slice none 0 0, .slice none 0 0] 25) = w.alloc (.cells (pkCells Pk.zero nil0 nil0) 25) from rfl]
  obtain ⟨q, hq⟩ : ∃ q, q = w.heap.size := ⟨_, rfl⟩
  rw [← hq] at HRB ⊢
  generalize w.alloc (.cells (pkCells Pk.zero nil0 nil0) 25) = wa at *
  clear hq
  go_upto_region 2 with (fail)
  generalize wa.alloc (.cells #[S s, .bool false] 65) = wb at *
  generalize wa.heap.size = r at *
  go_upto_block 0 with (first | (show wpList _ _ _ ({ dst := none, op := Op.store _ (.tmp 9) _, type := _, pos := _, after := _, guard := _ } :: _) _ _; refine wpList_store_by rfl (.tmp 9) (.tmp 18) rfl rfl (.pointer (some ⟨wb.heap.size, 0, none⟩)) (.agg (pkCells (Pk.new k f) nil0 nil0)) rfl rfl ((pk_box (w := wb) (P := Pk.zero) (nv := nil0) (cv := nil0)).store rfl rfl) ?_) | fail)
  generalize (wb.alloc (.cells (pkCells Pk.zero nil0 nil0) 25)).setCells wb.heap.size 0 (pkCells (Pk.new k f) nil0 nil0).toList = wr at *
  generalize wb.heap.size = p at *
  go_cut [10] from 11 (fun s10 wc => ∃ (ok : Bool) (x : Rp.St) (P : Pk) (nv cv : Value), s10 = .bool ok ∧ Hid (RB w wc r p q x P nv cv ∧ wc.ownsRow (p + 1) 9 1 nv P.names.length (P.names.map S) ∧ wc.ownsRow (p + 1) 3 1 cv P.codes.length (P.codes.map I) ∧ Rp.ends P ok x = X))
  case rest =>
    clear HX HRB
    obtain ⟨ok, x, P, nv, cv, rfl, HC⟩ := hcut
    obtain ⟨hB, hN, hC, hE⟩ := HC.out
    have hn1 : nv.oneCell' = true := by obtain ⟨_, _, rfl⟩ := own_form hN; rfl
    have hc1 : cv.oneCell' = true := by obtain ⟨_, _, rfl⟩ := own_form hC; rfl
    have hout := hB.drew.out hn1 hc1
    have hqr := hB.qr
    have hrp := hB.rp
    have hlo := hB.lo
    obtain ⟨s', b'⟩ := x
    have kp : ∀ w', KeepBP r p wc.drew w' → PIn w' p P nv cv := fun w' hh => hB.drew.pk.keep hh.2.1
    have k1 : ∀ w', KeepBP r p wc.drew w' → w'.cell? ⟨r, 1, none⟩ = some (.bool b') := fun w' hh => (hB.drew.rd.keep hh.1).c1
    have k0 : ∀ w', KeepBP r p wc.drew w' → w'.cell? ⟨r, 0, none⟩ = some (S s') := fun w' hh => (hB.drew.rd.keep hh.1).c0
    have k5 : ∀ w', KeepBP r p wc.drew w' → w'.cell? ⟨p, 5, none⟩ = some (S P.text) := fun w' hh => (kp w' hh).cell 5
    have hsz := str_size P.text
    have hn' := own_setCells (b := q) (vs := (pkCells P nv cv).toList) (o := 0) (own_below hN (Below.drew (Below.refl _ _))) (fun k hk => by have := (own_lt hN k hk).1; omega)
    have hc' := own_setCells (b := q) (vs := (pkCells P nv cv).toList) (o := 0) (own_below hC (Below.drew (Below.refl _ _))) (fun k hk => by have := (own_lt hC k hk).1; omega)
    have HST := hid hout.1
    have HPQ := hid hout.2.1
    have HBQ := hid hout.2.2
    have HN := hid (own_anew hn' (b' := w.heap.size) (fun k hk => by have := (own_lt hn' k hk).1; omega))
    have HC2 := hid (own_anew hc' (b' := w.heap.size) (fun k hk => by have := (own_lt hc' k hk).1; omega))
    have HE := hid hE
    clear HC hB hN hC hE hout hn1 hc1 hn' hc' hlo
    cases ok with
    | false =>
      go_wp2_with fail
      refine wp_region_order (KeepBP r p) [] [(0,0),(1,0),(2,0),(3,0),(4,0),(5,0),(6,0),(7,0),(8,0),(9,0),(10,0),(11,0),(12,0),(13,0),(14,0),(15,0),(16,0),(17,0),(18,0),(19,0),(20,0),(21,0),(22,1),(23,0)] _ (by kernel_rfl) rfl KeepBP.refl KeepBP.trans (by kernel_rfl) (by simp only [pick, List.getElem?_toArray, List.getElem?_cons_zero, List.getElem?_cons_succ]; rfl) (fun c a d v w h => by cases d <;> exact h) ?_
      generalize wc.drew = wd at *
      refine wpK_q (v := ?_) (a' := ?_) (by rfl) (fun w' hR => ?_) ?_ ?_
      rotate_left 2
      · have hh := val_of ((kp w' hR).load)
        exact hh
      · simp only [Act.put, List.setIfInBounds_toArray, List.set_cons_zero, List.set_cons_succ]; rfl
      refine wpK_q (v := ?_) (a' := ?_) (by rfl) (fun w' hR => ?_) ?_ ?_
      rotate_left 2
      · go_simp; with_reducible rfl
      · simp only [Act.put, List.setIfInBounds_toArray, List.set_cons_zero, List.set_cons_succ]; rfl
      refine wpK_q (v := ?_) (a' := ?_) (by rfl) (fun w' hR => ?_) ?_ ?_
      rotate_left 2
      · go_simp; with_reducible rfl
      · simp only [Act.put, List.setIfInBounds_toArray, List.set_cons_zero, List.set_cons_succ]; rfl
      refine wpK_off (a' := ?_) (by rfl) ?_ ?_
      rotate_left
      · simp only [Act.put, List.setIfInBounds_toArray, List.set_cons_zero, List.set_cons_succ]; rfl
      refine wpK_off (a' := ?_) (by rfl) ?_ ?_
      rotate_left
      · simp only [Act.put, List.setIfInBounds_toArray, List.set_cons_zero, List.set_cons_succ]; rfl
      refine wpK_off (a' := ?_) (by rfl) ?_ ?_
      rotate_left
      · simp only [Act.put, List.setIfInBounds_toArray, List.set_cons_zero, List.set_cons_succ]; rfl
      refine wpK_off (a' := ?_) (by rfl) ?_ ?_
      rotate_left
      · simp only [Act.put, List.setIfInBounds_toArray, List.set_cons_zero, List.set_cons_succ]; rfl
      refine wpK_off (a' := ?_) (by rfl) ?_ ?_
      rotate_left
      · simp only [Act.put, List.setIfInBounds_toArray, List.set_cons_zero, List.set_cons_succ]; rfl
      refine wpK_q (v := ?_) (a' := ?_) (by rfl) (fun w' hR => ?_) ?_ ?_
      rotate_left 2
      · go_simp; with_reducible rfl
      · simp only [Act.put, List.setIfInBounds_toArray, List.set_cons_zero, List.set_cons_succ]; rfl
      refine wpK_q (v := ?_) (a' := ?_) (by rfl) (fun w' hR => ?_) ?_ ?_
      rotate_left 2
      · go_simp; with_reducible rfl
      · simp only [Act.put, List.setIfInBounds_toArray, List.set_cons_zero, List.set_cons_succ]; rfl
      refine wpK_off (a' := ?_) (by rfl) ?_ ?_
      rotate_left
      · simp only [Act.put, List.setIfInBounds_toArray, List.set_cons_zero, List.set_cons_succ]; rfl
      refine wpK_off (a' := ?_) (by rfl) ?_ ?_
      rotate_left
      · simp only [Act.put, List.setIfInBounds_toArray, List.set_cons_zero, List.set_cons_succ]; rfl
      refine wpK_off (a' := ?_) (by rfl) ?_ ?_
      rotate_left
      · simp only [Act.put, List.setIfInBounds_toArray, List.set_cons_zero, List.set_cons_succ]; rfl
      refine wpK_off (a' := ?_) (by rfl) ?_ ?_
      rotate_left
      · simp only [Act.put, List.setIfInBounds_toArray, List.set_cons_zero, List.set_cons_succ]; rfl
      refine wpK_off (a' := ?_) (by rfl) ?_ ?_
      rotate_left
      · simp only [Act.put, List.setIfInBounds_toArray, List.set_cons_zero, List.set_cons_succ]; rfl
      refine wpK_q (v := ?_) (a' := ?_) (by rfl) (fun w' hR => ?_) ?_ ?_
      rotate_left 2
      · go_simp; with_reducible rfl
      · simp only [Act.put, List.setIfInBounds_toArray, List.set_cons_zero, List.set_cons_succ]; rfl
      refine wpK_q (v := ?_) (a' := ?_) (by rfl) (fun w' hR => ?_) ?_ ?_
      rotate_left 2
      · go_simp; with_reducible rfl
      · simp only [Act.put, List.setIfInBounds_toArray, List.set_cons_zero, List.set_cons_succ]; rfl
      refine wpK_off (a' := ?_) (by rfl) ?_ ?_
      rotate_left
      · simp only [Act.put, List.setIfInBounds_toArray, List.set_cons_zero, List.set_cons_succ]; rfl
      refine wpK_off (a' := ?_) (by rfl) ?_ ?_
      rotate_left
      · simp only [Act.put, List.setIfInBounds_toArray, List.set_cons_zero, List.set_cons_succ]; rfl
      refine wpK_off (a' := ?_) (by rfl) ?_ ?_
      rotate_left
      · simp only [Act.put, List.setIfInBounds_toArray, List.set_cons_zero, List.set_cons_succ]; rfl
      refine wpK_off (a' := ?_) (by rfl) ?_ ?_
      rotate_left
      · simp only [Act.put, List.setIfInBounds_toArray, List.set_cons_zero, List.set_cons_succ]; rfl
      refine wpK_q (v := ?_) (a' := ?_) (by rfl) (fun w' hR => ?_) ?_ ?_
      rotate_left 2
      · go_simp; with_reducible rfl
      · simp only [Act.put, List.setIfInBounds_toArray, List.set_cons_zero, List.set_cons_succ]; rfl
      refine wpK_s (by rfl) rfl (exec_store rfl (vx := .pointer (some ⟨q, 0, none⟩)) (vy := .agg (pkCells P nv cv)) rfl rfl HST.out) (fun _ => KeepBP.setCells (by omega) (by omega) _ _ _) ?_
      refine wpK_q (v := ?_) (a' := ?_) (by rfl) (fun w' hR => ?_) ?_ ?_
      rotate_left 2
      · go_simp; with_reducible rfl
      · simp only [Act.put, List.setIfInBounds_toArray, List.set_cons_zero, List.set_cons_succ]; rfl
      refine wpK_done ?_
      clear kp k1 k0 k5 HST
      generalize wd.setCells q 0 (pkCells P nv cv).toList = we at *
      go_wp2_with fail
      exact ret25 (x := X) (by rw [← HE.out]; exact HPQ.out) HBQ.out (by rw [← HE.out]; exact HN.out) (by rw [← HE.out]; exact HC2.out) rfl rfl (by rw [← HE.out]; simp [Rp.ends])
    | true =>
    cases b' with
    | true =>
      go_wp2_with fail
      refine wp_region_order (KeepBP r p) [] [(0,0),(1,0),(2,0),(3,0),(4,0),(5,0),(6,0),(7,0),(8,0),(9,0),(10,0),(11,0),(12,0),(13,0),(14,0),(15,0),(16,0),(17,0),(18,0),(19,0),(20,0),(21,0),(22,1),(23,0)] _ (by kernel_rfl) rfl KeepBP.refl KeepBP.trans (by kernel_rfl) (by simp only [pick, List.getElem?_toArray, List.getElem?_cons_zero, List.getElem?_cons_succ]; rfl) (fun c a d v w h => by cases d <;> exact h) ?_
      generalize wc.drew = wd at *
      refine wpK_q (v := ?_) (a' := ?_) (by rfl) (fun w' hR => ?_) ?_ ?_
      rotate_left 2
      · have hh := val_of ((kp w' hR).load)
        exact hh
      · simp only [Act.put, List.setIfInBounds_toArray, List.set_cons_zero, List.set_cons_succ]; rfl
      refine wpK_q (v := ?_) (a' := ?_) (by rfl) (fun w' hR => ?_) ?_ ?_
      rotate_left 2
      · go_simp; with_reducible rfl
      · simp only [Act.put, List.setIfInBounds_toArray, List.set_cons_zero, List.set_cons_succ]; rfl
      refine wpK_q (v := ?_) (a' := ?_) (by rfl) (fun w' hR => ?_) ?_ ?_
      rotate_left 2
      · go_simp; with_reducible rfl
      · simp only [Act.put, List.setIfInBounds_toArray, List.set_cons_zero, List.set_cons_succ]; rfl
      refine wpK_q (v := ?_) (a' := ?_) (by rfl) (fun w' hR => ?_) ?_ ?_
      rotate_left 2
      · go_simp; with_reducible rfl
      · simp only [Act.put, List.setIfInBounds_toArray, List.set_cons_zero, List.set_cons_succ]; rfl
      refine wpK_q (v := ?_) (a' := ?_) (by rfl) (fun w' hR => ?_) ?_ ?_
      rotate_left 2
      · go_simp; with_reducible rfl
      · simp only [Act.put, List.setIfInBounds_toArray, List.set_cons_zero, List.set_cons_succ]; rfl
      refine wpK_q (v := ?_) (a' := ?_) (by rfl) (fun w' hR => ?_) ?_ ?_
      rotate_left 2
      · go_simp; with_reducible rfl
      · simp only [Act.put, List.setIfInBounds_toArray, List.set_cons_zero, List.set_cons_succ]; rfl
      refine wpK_q (v := ?_) (a' := ?_) (by rfl) (fun w' hR => ?_) ?_ ?_
      rotate_left 2
      · go_simp; with_reducible rfl
      · simp only [Act.put, List.setIfInBounds_toArray, List.set_cons_zero, List.set_cons_succ]; rfl
      refine wpK_q (v := ?_) (a' := ?_) (by rfl) (fun w' hR => ?_) ?_ ?_
      rotate_left 2
      · go_simp; with_reducible rfl
      · simp only [Act.put, List.setIfInBounds_toArray, List.set_cons_zero, List.set_cons_succ]; rfl
      refine wpK_q (v := ?_) (a' := ?_) (by rfl) (fun w' hR => ?_) ?_ ?_
      rotate_left 2
      · go_simp; with_reducible rfl
      · simp only [Act.put, List.setIfInBounds_toArray, List.set_cons_zero, List.set_cons_succ]; rfl
      refine wpK_q (v := ?_) (a' := ?_) (by rfl) (fun w' hR => ?_) ?_ ?_
      rotate_left 2
      · go_simp; with_reducible rfl
      · simp only [Act.put, List.setIfInBounds_toArray, List.set_cons_zero, List.set_cons_succ]; rfl
      refine wpK_off (a' := ?_) (by rfl) ?_ ?_
      rotate_left
      · simp only [Act.put, List.setIfInBounds_toArray, List.set_cons_zero, List.set_cons_succ]; rfl
      refine wpK_off (a' := ?_) (by rfl) ?_ ?_
      rotate_left
      · simp only [Act.put, List.setIfInBounds_toArray, List.set_cons_zero, List.set_cons_succ]; rfl
      refine wpK_off (a' := ?_) (by rfl) ?_ ?_
      rotate_left
      · simp only [Act.put, List.setIfInBounds_toArray, List.set_cons_zero, List.set_cons_succ]; rfl
      refine wpK_off (a' := ?_) (by rfl) ?_ ?_
      rotate_left
      · simp only [Act.put, List.setIfInBounds_toArray, List.set_cons_zero, List.set_cons_succ]; rfl
      refine wpK_off (a' := ?_) (by rfl) ?_ ?_
      rotate_left
      · simp only [Act.put, List.setIfInBounds_toArray, List.set_cons_zero, List.set_cons_succ]; rfl
      refine wpK_q (v := ?_) (a' := ?_) (by rfl) (fun w' hR => ?_) ?_ ?_
      rotate_left 2
      · go_simp; with_reducible rfl
      · simp only [Act.put, List.setIfInBounds_toArray, List.set_cons_zero, List.set_cons_succ]; rfl
      refine wpK_q (v := ?_) (a' := ?_) (by rfl) (fun w' hR => ?_) ?_ ?_
      rotate_left 2
      · go_simp; with_reducible rfl
      · simp only [Act.put, List.setIfInBounds_toArray, List.set_cons_zero, List.set_cons_succ]; rfl
      refine wpK_off (a' := ?_) (by rfl) ?_ ?_
      rotate_left
      · simp only [Act.put, List.setIfInBounds_toArray, List.set_cons_zero, List.set_cons_succ]; rfl
      refine wpK_off (a' := ?_) (by rfl) ?_ ?_
      rotate_left
      · simp only [Act.put, List.setIfInBounds_toArray, List.set_cons_zero, List.set_cons_succ]; rfl
      refine wpK_off (a' := ?_) (by rfl) ?_ ?_
      rotate_left
      · simp only [Act.put, List.setIfInBounds_toArray, List.set_cons_zero, List.set_cons_succ]; rfl
      refine wpK_off (a' := ?_) (by rfl) ?_ ?_
      rotate_left
      · simp only [Act.put, List.setIfInBounds_toArray, List.set_cons_zero, List.set_cons_succ]; rfl
      refine wpK_q (v := ?_) (a' := ?_) (by rfl) (fun w' hR => ?_) ?_ ?_
      rotate_left 2
      · go_simp; with_reducible rfl
      · simp only [Act.put, List.setIfInBounds_toArray, List.set_cons_zero, List.set_cons_succ]; rfl
      refine wpK_s (by rfl) rfl (exec_store rfl (vx := .pointer (some ⟨q, 0, none⟩)) (vy := .agg (pkCells P nv cv)) rfl rfl HST.out) (fun _ => KeepBP.setCells (by omega) (by omega) _ _ _) ?_
      refine wpK_q (v := ?_) (a' := ?_) (by rfl) (fun w' hR => ?_) ?_ ?_
      rotate_left 2
      · go_simp; with_reducible rfl
      · simp only [Act.put, List.setIfInBounds_toArray, List.set_cons_zero, List.set_cons_succ]; rfl
      refine wpK_done ?_
      clear kp k1 k0 k5 HST
      generalize wd.setCells q 0 (pkCells P nv cv).toList = we at *
      go_wp2_with fail
      exact ret25 (x := X) (by rw [← HE.out]; exact HPQ.out) HBQ.out (by rw [← HE.out]; exact HN.out) (by rw [← HE.out]; exact HC2.out) rfl rfl (by rw [← HE.out]; simp [Rp.ends])
    | false =>
    by_cases hs' : s' = []
    · have he := str_empty s' hs'
      have HS' := hid hs'
      clear hs'
      go_wp2_with fail
      refine wp_region_order (KeepBP r p) [] [(0,0),(1,0),(2,0),(3,0),(4,0),(5,0),(6,0),(7,0),(8,0),(9,0),(10,0),(11,0),(12,0),(13,0),(14,0),(15,0),(16,0),(17,0),(18,0),(19,0),(20,0),(21,0),(22,1),(23,0)] _ (by kernel_rfl) rfl KeepBP.refl KeepBP.trans (by kernel_rfl) (by simp only [pick, List.getElem?_toArray, List.getElem?_cons_zero, List.getElem?_cons_succ]; rfl) (fun c a d v w h => by cases d <;> exact h) ?_
      generalize wc.drew = wd at *
      refine wpK_q (v := ?_) (a' := ?_) (by rfl) (fun w' hR => ?_) ?_ ?_
      rotate_left 2
      · have hh := val_of ((kp w' hR).load)
        exact hh
      · simp only [Act.put, List.setIfInBounds_toArray, List.set_cons_zero, List.set_cons_succ]; rfl
      refine wpK_q (v := ?_) (a' := ?_) (by rfl) (fun w' hR => ?_) ?_ ?_
      rotate_left 2
      · go_simp; with_reducible rfl
      · simp only [Act.put, List.setIfInBounds_toArray, List.set_cons_zero, List.set_cons_succ]; rfl
      refine wpK_q (v := ?_) (a' := ?_) (by rfl) (fun w' hR => ?_) ?_ ?_
      rotate_left 2
      · go_simp; with_reducible rfl
      · simp only [Act.put, List.setIfInBounds_toArray, List.set_cons_zero, List.set_cons_succ]; rfl
      refine wpK_q (v := ?_) (a' := ?_) (by rfl) (fun w' hR => ?_) ?_ ?_
      rotate_left 2
      · go_simp; with_reducible rfl
      · simp only [Act.put, List.setIfInBounds_toArray, List.set_cons_zero, List.set_cons_succ]; rfl
      refine wpK_q (v := ?_) (a' := ?_) (by rfl) (fun w' hR => ?_) ?_ ?_
      rotate_left 2
      · go_simp; with_reducible rfl
      · simp only [Act.put, List.setIfInBounds_toArray, List.set_cons_zero, List.set_cons_succ]; rfl
      refine wpK_q (v := ?_) (a' := ?_) (by rfl) (fun w' hR => ?_) ?_ ?_
      rotate_left 2
      · go_simp; with_reducible rfl
      · simp only [Act.put, List.setIfInBounds_toArray, List.set_cons_zero, List.set_cons_succ]; rfl
      refine wpK_q (v := ?_) (a' := ?_) (by rfl) (fun w' hR => ?_) ?_ ?_
      rotate_left 2
      · go_simp; with_reducible rfl
      · simp only [Act.put, List.setIfInBounds_toArray, List.set_cons_zero, List.set_cons_succ]; rfl
      refine wpK_q (v := ?_) (a' := ?_) (by rfl) (fun w' hR => ?_) ?_ ?_
      rotate_left 2
      · go_simp; with_reducible rfl
      · simp only [Act.put, List.setIfInBounds_toArray, List.set_cons_zero, List.set_cons_succ]; rfl
      refine wpK_q (v := ?_) (a' := ?_) (by rfl) (fun w' hR => ?_) ?_ ?_
      rotate_left 2
      · go_simp; with_reducible rfl
      · simp only [Act.put, List.setIfInBounds_toArray, List.set_cons_zero, List.set_cons_succ]; rfl
      refine wpK_q (v := ?_) (a' := ?_) (by rfl) (fun w' hR => ?_) ?_ ?_
      rotate_left 2
      · go_simp; with_reducible rfl
      · simp only [Act.put, List.setIfInBounds_toArray, List.set_cons_zero, List.set_cons_succ]; rfl
      refine wpK_q (v := ?_) (a' := ?_) (by rfl) (fun w' hR => ?_) ?_ ?_
      rotate_left 2
      · go_simp; with_reducible rfl
      · simp only [Act.put, List.setIfInBounds_toArray, List.set_cons_zero, List.set_cons_succ]; rfl
      refine wpK_q (v := ?_) (a' := ?_) (by rfl) (fun w' hR => ?_) ?_ ?_
      rotate_left 2
      · go_simp; with_reducible rfl
      · simp only [Act.put, List.setIfInBounds_toArray, List.set_cons_zero, List.set_cons_succ]; rfl
      refine wpK_q (v := ?_) (a' := ?_) (by rfl) (fun w' hR => ?_) ?_ ?_
      rotate_left 2
      · go_simp; with_reducible rfl
      · simp only [Act.put, List.setIfInBounds_toArray, List.set_cons_zero, List.set_cons_succ]; rfl
      refine wpK_q (v := ?_) (a' := ?_) (by rfl) (fun w' hR => ?_) ?_ ?_
      rotate_left 2
      · go_simp; with_reducible rfl
      · simp only [Act.put, List.setIfInBounds_toArray, List.set_cons_zero, List.set_cons_succ]; rfl
      refine wpK_q (v := ?_) (a' := ?_) (by rfl) (fun w' hR => ?_) ?_ ?_
      rotate_left 2
      · go_simp; with_reducible rfl
      · simp only [Act.put, List.setIfInBounds_toArray, List.set_cons_zero, List.set_cons_succ]; rfl
      refine wpK_q (v := ?_) (a' := ?_) (by rfl) (fun w' hR => ?_) ?_ ?_
      rotate_left 2
      · go_simp; with_reducible rfl
      · simp only [Act.put, List.setIfInBounds_toArray, List.set_cons_zero, List.set_cons_succ]; rfl
      refine wpK_q (v := ?_) (a' := ?_) (by rfl) (fun w' hR => ?_) ?_ ?_
      rotate_left 2
      · go_simp; with_reducible rfl
      · simp only [Act.put, List.setIfInBounds_toArray, List.set_cons_zero, List.set_cons_succ]; rfl
      refine wpK_q (v := ?_) (a' := ?_) (by rfl) (fun w' hR => ?_) ?_ ?_
      rotate_left 2
      · go_simp; with_reducible rfl
      · simp only [Act.put, List.setIfInBounds_toArray, List.set_cons_zero, List.set_cons_succ]; rfl
      refine wpK_q (v := ?_) (a' := ?_) (by rfl) (fun w' hR => ?_) ?_ ?_
      rotate_left 2
      · go_simp; with_reducible rfl
      · simp only [Act.put, List.setIfInBounds_toArray, List.set_cons_zero, List.set_cons_succ]; rfl
      refine wpK_q (v := ?_) (a' := ?_) (by rfl) (fun w' hR => ?_) ?_ ?_
      rotate_left 2
      · go_simp; with_reducible rfl
      · simp only [Act.put, List.setIfInBounds_toArray, List.set_cons_zero, List.set_cons_succ]; rfl
      refine wpK_q (v := ?_) (a' := ?_) (by rfl) (fun w' hR => ?_) ?_ ?_
      rotate_left 2
      · go_simp; with_reducible rfl
      · simp only [Act.put, List.setIfInBounds_toArray, List.set_cons_zero, List.set_cons_succ]; rfl
      refine wpK_q (v := ?_) (a' := ?_) (by rfl) (fun w' hR => ?_) ?_ ?_
      rotate_left 2
      · go_simp; with_reducible rfl
      · simp only [Act.put, List.setIfInBounds_toArray, List.set_cons_zero, List.set_cons_succ]; rfl
      refine wpK_s (by rfl) rfl (exec_store rfl (vx := .pointer (some ⟨q, 0, none⟩)) (vy := .agg (pkCells P nv cv)) rfl rfl HST.out) (fun _ => KeepBP.setCells (by omega) (by omega) _ _ _) ?_
      refine wpK_q (v := ?_) (a' := ?_) (by rfl) (fun w' hR => ?_) ?_ ?_
      rotate_left 2
      · go_simp; with_reducible rfl
      · simp only [Act.put, List.setIfInBounds_toArray, List.set_cons_zero, List.set_cons_succ]; rfl
      refine wpK_done ?_
      clear kp k1 k0 k5 HST
      generalize wd.setCells q 0 (pkCells P nv cv).toList = we at *
      go_wp2_with fail
      exact ret25 (x := X) (by rw [← HE.out]; exact HPQ.out) HBQ.out (by rw [← HE.out]; exact HN.out) (by rw [← HE.out]; exact HC2.out) rfl rfl (by rw [← HE.out]; simp [Rp.ends, HS'.out]; try omega)
    · have he := str_full s' hs'
      have HS' := hid hs'
      clear hs'
      go_wp2_with fail
      refine wp_region_order (KeepBP r p) [] [(0,0),(1,0),(2,0),(3,0),(4,0),(5,0),(6,0),(7,0),(8,0),(9,0),(10,0),(11,0),(12,0),(13,0),(14,0),(15,0),(16,0),(17,0),(18,0),(19,0),(20,0),(21,0),(22,1),(23,0)] _ (by kernel_rfl) rfl KeepBP.refl KeepBP.trans (by kernel_rfl) (by simp only [pick, List.getElem?_toArray, List.getElem?_cons_zero, List.getElem?_cons_succ]; rfl) (fun c a d v w h => by cases d <;> exact h) ?_
      generalize wc.drew = wd at *
      refine wpK_q (v := ?_) (a' := ?_) (by rfl) (fun w' hR => ?_) ?_ ?_
      rotate_left 2
      · have hh := val_of ((kp w' hR).load)
        exact hh
      · simp only [Act.put, List.setIfInBounds_toArray, List.set_cons_zero, List.set_cons_succ]; rfl
      refine wpK_q (v := ?_) (a' := ?_) (by rfl) (fun w' hR => ?_) ?_ ?_
      rotate_left 2
      · go_simp; with_reducible rfl
      · simp only [Act.put, List.setIfInBounds_toArray, List.set_cons_zero, List.set_cons_succ]; rfl
      refine wpK_q (v := ?_) (a' := ?_) (by rfl) (fun w' hR => ?_) ?_ ?_
      rotate_left 2
      · go_simp; with_reducible rfl
      · simp only [Act.put, List.setIfInBounds_toArray, List.set_cons_zero, List.set_cons_succ]; rfl
      refine wpK_q (v := ?_) (a' := ?_) (by rfl) (fun w' hR => ?_) ?_ ?_
      rotate_left 2
      · go_simp; with_reducible rfl
      · simp only [Act.put, List.setIfInBounds_toArray, List.set_cons_zero, List.set_cons_succ]; rfl
      refine wpK_q (v := ?_) (a' := ?_) (by rfl) (fun w' hR => ?_) ?_ ?_
      rotate_left 2
      · go_simp; with_reducible rfl
      · simp only [Act.put, List.setIfInBounds_toArray, List.set_cons_zero, List.set_cons_succ]; rfl
      refine wpK_q (v := ?_) (a' := ?_) (by rfl) (fun w' hR => ?_) ?_ ?_
      rotate_left 2
      · go_simp; with_reducible rfl
      · simp only [Act.put, List.setIfInBounds_toArray, List.set_cons_zero, List.set_cons_succ]; rfl
      refine wpK_q (v := ?_) (a' := ?_) (by rfl) (fun w' hR => ?_) ?_ ?_
      rotate_left 2
      · go_simp; with_reducible rfl
      · simp only [Act.put, List.setIfInBounds_toArray, List.set_cons_zero, List.set_cons_succ]; rfl
      refine wpK_q (v := ?_) (a' := ?_) (by rfl) (fun w' hR => ?_) ?_ ?_
      rotate_left 2
      · go_simp; with_reducible rfl
      · simp only [Act.put, List.setIfInBounds_toArray, List.set_cons_zero, List.set_cons_succ]; rfl
      refine wpK_q (v := ?_) (a' := ?_) (by rfl) (fun w' hR => ?_) ?_ ?_
      rotate_left 2
      · go_simp; with_reducible rfl
      · simp only [Act.put, List.setIfInBounds_toArray, List.set_cons_zero, List.set_cons_succ]; rfl
      refine wpK_q (v := ?_) (a' := ?_) (by rfl) (fun w' hR => ?_) ?_ ?_
      rotate_left 2
      · go_simp; with_reducible rfl
      · simp only [Act.put, List.setIfInBounds_toArray, List.set_cons_zero, List.set_cons_succ]; rfl
      refine wpK_q (v := ?_) (a' := ?_) (by rfl) (fun w' hR => ?_) ?_ ?_
      rotate_left 2
      · go_simp; with_reducible rfl
      · simp only [Act.put, List.setIfInBounds_toArray, List.set_cons_zero, List.set_cons_succ]; rfl
      refine wpK_q (v := ?_) (a' := ?_) (by rfl) (fun w' hR => ?_) ?_ ?_
      rotate_left 2
      · go_simp; with_reducible rfl
      · simp only [Act.put, List.setIfInBounds_toArray, List.set_cons_zero, List.set_cons_succ]; rfl
      refine wpK_q (v := ?_) (a' := ?_) (by rfl) (fun w' hR => ?_) ?_ ?_
      rotate_left 2
      · go_simp; with_reducible rfl
      · simp only [Act.put, List.setIfInBounds_toArray, List.set_cons_zero, List.set_cons_succ]; rfl
      refine wpK_q (v := ?_) (a' := ?_) (by rfl) (fun w' hR => ?_) ?_ ?_
      rotate_left 2
      · go_simp; with_reducible rfl
      · simp only [Act.put, List.setIfInBounds_toArray, List.set_cons_zero, List.set_cons_succ]; rfl
      refine wpK_q (v := ?_) (a' := ?_) (by rfl) (fun w' hR => ?_) ?_ ?_
      rotate_left 2
      · go_simp; with_reducible rfl
      · simp only [Act.put, List.setIfInBounds_toArray, List.set_cons_zero, List.set_cons_succ]; rfl
      refine wpK_q (v := ?_) (a' := ?_) (by rfl) (fun w' hR => ?_) ?_ ?_
      rotate_left 2
      · go_simp; with_reducible rfl
      · simp only [Act.put, List.setIfInBounds_toArray, List.set_cons_zero, List.set_cons_succ]; rfl
      refine wpK_q (v := ?_) (a' := ?_) (by rfl) (fun w' hR => ?_) ?_ ?_
      rotate_left 2
      · go_simp; with_reducible rfl
      · simp only [Act.put, List.setIfInBounds_toArray, List.set_cons_zero, List.set_cons_succ]; rfl
      refine wpK_off (a' := ?_) (by rfl) ?_ ?_
      rotate_left
      · simp only [Act.put, List.setIfInBounds_toArray, List.set_cons_zero, List.set_cons_succ]; rfl
      refine wpK_off (a' := ?_) (by rfl) ?_ ?_
      rotate_left
      · simp only [Act.put, List.setIfInBounds_toArray, List.set_cons_zero, List.set_cons_succ]; rfl
      refine wpK_off (a' := ?_) (by rfl) ?_ ?_
      rotate_left
      · simp only [Act.put, List.setIfInBounds_toArray, List.set_cons_zero, List.set_cons_succ]; rfl
      refine wpK_off (a' := ?_) (by rfl) ?_ ?_
      rotate_left
      · simp only [Act.put, List.setIfInBounds_toArray, List.set_cons_zero, List.set_cons_succ]; rfl
      refine wpK_q (v := ?_) (a' := ?_) (by rfl) (fun w' hR => ?_) ?_ ?_
      rotate_left 2
      · go_simp; with_reducible rfl
      · simp only [Act.put, List.setIfInBounds_toArray, List.set_cons_zero, List.set_cons_succ]; rfl
      refine wpK_s (by rfl) rfl (exec_store rfl (vx := .pointer (some ⟨q, 0, none⟩)) (vy := .agg (pkCells P nv cv)) rfl rfl HST.out) (fun _ => KeepBP.setCells (by omega) (by omega) _ _ _) ?_
      refine wpK_q (v := ?_) (a' := ?_) (by rfl) (fun w' hR => ?_) ?_ ?_
      rotate_left 2
      · go_simp; with_reducible rfl
      · simp only [Act.put, List.setIfInBounds_toArray, List.set_cons_zero, List.set_cons_succ]; rfl
      refine wpK_done ?_
      clear kp k1 k0 k5 HST
      generalize wd.setCells q 0 (pkCells P nv cv).toList = we at *
      go_wp2_with fail
      exact ret25 (x := X) (by rw [← HE.out]; exact HPQ.out) HBQ.out (by rw [← HE.out]; exact HN.out) (by rw [← HE.out]; exact HC2.out) rfl rfl (by rw [← HE.out]; simp [Rp.ends, HS'.out])
  case first =>
    have hkk : (k = 12 ∨ k = 13 ∨ k = 14) ∨ (k = 4 ∨ k = 5 ∨ k = 6 ∨ k = 7 ∨ k = 11) ∨ k = 2 ∨ k = 3 ∨ k = 1 ∨ (k = 8 ∨ k = 9 ∨ k = 10) := by omega
    rcases hkk with h | h | rfl | rfl | rfl | h
    · skip
      rcases h with rfl | rfl | rfl
      · as_aux_lemma =>
        have HR := HRB
        clear HRB
        replace HX : Hid (X = Rp.ends (Pk.new 12 f) true (s, false)) := hid (HX.out.trans (by rfl))
        go_wp2_with fail
        go_meet
        case rel => exact ⟨true, (s, false), Pk.new 12 f, nil0, nil0, rfl, hid ⟨HR.out, World.ownsRow_nil _ _ _ _, World.ownsRow_nil _ _ _ _, HX.out.symm⟩⟩
      · as_aux_lemma =>
        have HR := HRB
        clear HRB
        replace HX : Hid (X = Rp.ends (Pk.new 13 f) true (s, false)) := hid (HX.out.trans (by rfl))
        go_wp2_with fail
        go_meet
        case rel => exact ⟨true, (s, false), Pk.new 13 f, nil0, nil0, rfl, hid ⟨HR.out, World.ownsRow_nil _ _ _ _, World.ownsRow_nil _ _ _ _, HX.out.symm⟩⟩
      · as_aux_lemma =>
        have HR := HRB
        clear HRB
        replace HX : Hid (X = Rp.ends (Pk.new 14 f) true (s, false)) := hid (HX.out.trans (by rfl))
        go_wp2_with fail
        go_meet
        case rel => exact ⟨true, (s, false), Pk.new 14 f, nil0, nil0, rfl, hid ⟨HR.out, World.ownsRow_nil _ _ _ _, World.ownsRow_nil _ _ _ _, HX.out.symm⟩⟩
    · skip
      rcases h with rfl | rfl | rfl | rfl | rfl
      · as_aux_lemma =>
        have HR := HRB
        clear HRB
        replace HX : Hid (X = Rp.ends { Pk.new 4 f with id := ((Rp.num 2 (s, false)).1 : Nat) } (decide (0 < (Rp.num 2 (s, false)).1)) (Rp.num 2 (s, false)).2) := hid (HX.out.trans (by rfl))
        obtain ⟨a, ha⟩ : ∃ a, a = Rp.num 2 (s, false) := ⟨_, rfl⟩
        have la : a.1 < 65536 := by rw [ha]; exact Rp.num_lt2 _
        have wra : IntKind.i64.wrap (a.1 : Int) = (a.1 : Int) := IntWalk.i64_in _ (by omega)
        have hct := num37_any wr r 2 (s, false) HR.out.rd (by omega)
        rw [← ha] at hct HX
        have HCALL := hid hct
        clear ha hct
        go_upto_region 33 with (first | (go_at_call 37; refine HCALL.out.mono ?_; rintro e w1 ⟨rfl, hr, hm⟩; have HR1 := hid (HR.out.read hr hm); have cc : w1.cell? ⟨p, 2, none⟩ = some (I 0) := (HR.out.read hr hm).pk.cell 2; have cf := (HR.out.read hr hm).pk.fr; clear hr hm) | fail)
        have HR2 := hid (HR1.out.set 2 (I a.1) (P' := { Pk.new 4 f with id := (a.1 : Nat) }) (nv' := nil0) (cv' := nil0) rfl)
        clear HR HR1 HCALL cc cf
        generalize w1.setCell ⟨p, 2, none⟩ (I a.1) = w2 at *
        have HR := HR2
        clear HR2
        have cc : w2.cell? ⟨p, 2, none⟩ = some (I a.1) := HR.out.pk.cell 2
        go_wp2_with fail
        go_meet
        case rel => exact ⟨decide (0 < a.1), a.2, { Pk.new 4 f with id := (a.1 : Nat) }, nil0, nil0, congrArg Value.bool (by rw [decide_eq_decide] <;> omega), hid ⟨HR.out, World.ownsRow_nil _ _ _ _, World.ownsRow_nil _ _ _ _, HX.out.symm⟩⟩
      · as_aux_lemma =>
        have HR := HRB
        clear HRB
        replace HX : Hid (X = Rp.ends { Pk.new 5 f with id := ((Rp.num 2 (s, false)).1 : Nat) } (decide (0 < (Rp.num 2 (s, false)).1)) (Rp.num 2 (s, false)).2) := hid (HX.out.trans (by rfl))
        obtain ⟨a, ha⟩ : ∃ a, a = Rp.num 2 (s, false) := ⟨_, rfl⟩
        have la : a.1 < 65536 := by rw [ha]; exact Rp.num_lt2 _
        have wra : IntKind.i64.wrap (a.1 : Int) = (a.1 : Int) := IntWalk.i64_in _ (by omega)
        have hct := num37_any wr r 2 (s, false) HR.out.rd (by omega)
        rw [← ha] at hct HX
        have HCALL := hid hct
        clear ha hct
        go_upto_region 33 with (first | (go_at_call 37; refine HCALL.out.mono ?_; rintro e w1 ⟨rfl, hr, hm⟩; have HR1 := hid (HR.out.read hr hm); have cc : w1.cell? ⟨p, 2, none⟩ = some (I 0) := (HR.out.read hr hm).pk.cell 2; have cf := (HR.out.read hr hm).pk.fr; clear hr hm) | fail)
        have HR2 := hid (HR1.out.set 2 (I a.1) (P' := { Pk.new 5 f with id := (a.1 : Nat) }) (nv' := nil0) (cv' := nil0) rfl)
        clear HR HR1 HCALL cc cf
        generalize w1.setCell ⟨p, 2, none⟩ (I a.1) = w2 at *
        have HR := HR2
        clear HR2
        have cc : w2.cell? ⟨p, 2, none⟩ = some (I a.1) := HR.out.pk.cell 2
        go_wp2_with fail
        go_meet
        case rel => exact ⟨decide (0 < a.1), a.2, { Pk.new 5 f with id := (a.1 : Nat) }, nil0, nil0, congrArg Value.bool (by rw [decide_eq_decide] <;> omega), hid ⟨HR.out, World.ownsRow_nil _ _ _ _, World.ownsRow_nil _ _ _ _, HX.out.symm⟩⟩
      · as_aux_lemma =>
        have HR := HRB
        clear HRB
        replace HX : Hid (X = Rp.ends { Pk.new 6 f with id := ((Rp.num 2 (s, false)).1 : Nat) } (decide (0 < (Rp.num 2 (s, false)).1)) (Rp.num 2 (s, false)).2) := hid (HX.out.trans (by rfl))
        obtain ⟨a, ha⟩ : ∃ a, a = Rp.num 2 (s, false) := ⟨_, rfl⟩
        have la : a.1 < 65536 := by rw [ha]; exact Rp.num_lt2 _
        have wra : IntKind.i64.wrap (a.1 : Int) = (a.1 : Int) := IntWalk.i64_in _ (by omega)
        have hct := num37_any wr r 2 (s, false) HR.out.rd (by omega)
        rw [← ha] at hct HX
        have HCALL := hid hct
        clear ha hct
        go_upto_region 33 with (first | (go_at_call 37; refine HCALL.out.mono ?_; rintro e w1 ⟨rfl, hr, hm⟩; have HR1 := hid (HR.out.read hr hm); have cc : w1.cell? ⟨p, 2, none⟩ = some (I 0) := (HR.out.read hr hm).pk.cell 2; have cf := (HR.out.read hr hm).pk.fr; clear hr hm) | fail)
        have HR2 := hid (HR1.out.set 2 (I a.1) (P' := { Pk.new 6 f with id := (a.1 : Nat) }) (nv' := nil0) (cv' := nil0) rfl)
        clear HR HR1 HCALL cc cf
        generalize w1.setCell ⟨p, 2, none⟩ (I a.1) = w2 at *
        have HR := HR2
        clear HR2
        have cc : w2.cell? ⟨p, 2, none⟩ = some (I a.1) := HR.out.pk.cell 2
        go_wp2_with fail
        go_meet
        case rel => exact ⟨decide (0 < a.1), a.2, { Pk.new 6 f with id := (a.1 : Nat) }, nil0, nil0, congrArg Value.bool (by rw [decide_eq_decide] <;> omega), hid ⟨HR.out, World.ownsRow_nil _ _ _ _, World.ownsRow_nil _ _ _ _, HX.out.symm⟩⟩
      · as_aux_lemma =>
        have HR := HRB
        clear HRB
        replace HX : Hid (X = Rp.ends { Pk.new 7 f with id := ((Rp.num 2 (s, false)).1 : Nat) } (decide (0 < (Rp.num 2 (s, false)).1)) (Rp.num 2 (s, false)).2) := hid (HX.out.trans (by rfl))
        obtain ⟨a, ha⟩ : ∃ a, a = Rp.num 2 (s, false) := ⟨_, rfl⟩
        have la : a.1 < 65536 := by rw [ha]; exact Rp.num_lt2 _
        have wra : IntKind.i64.wrap (a.1 : Int) = (a.1 : Int) := IntWalk.i64_in _ (by omega)
        have hct := num37_any wr r 2 (s, false) HR.out.rd (by omega)
        rw [← ha] at hct HX
        have HCALL := hid hct
        clear ha hct
        go_upto_region 33 with (first | (go_at_call 37; refine HCALL.out.mono ?_; rintro e w1 ⟨rfl, hr, hm⟩; have HR1 := hid (HR.out.read hr hm); have cc : w1.cell? ⟨p, 2, none⟩ = some (I 0) := (HR.out.read hr hm).pk.cell 2; have cf := (HR.out.read hr hm).pk.fr; clear hr hm) | fail)
        have HR2 := hid (HR1.out.set 2 (I a.1) (P' := { Pk.new 7 f with id := (a.1 : Nat) }) (nv' := nil0) (cv' := nil0) rfl)
        clear HR HR1 HCALL cc cf
        generalize w1.setCell ⟨p, 2, none⟩ (I a.1) = w2 at *
        have HR := HR2
        clear HR2
        have cc : w2.cell? ⟨p, 2, none⟩ = some (I a.1) := HR.out.pk.cell 2
        go_wp2_with fail
        go_meet
        case rel => exact ⟨decide (0 < a.1), a.2, { Pk.new 7 f with id := (a.1 : Nat) }, nil0, nil0, congrArg Value.bool (by rw [decide_eq_decide] <;> omega), hid ⟨HR.out, World.ownsRow_nil _ _ _ _, World.ownsRow_nil _ _ _ _, HX.out.symm⟩⟩
      · as_aux_lemma =>
        have HR := HRB
        clear HRB
        replace HX : Hid (X = Rp.ends { Pk.new 11 f with id := ((Rp.num 2 (s, false)).1 : Nat) } (decide (0 < (Rp.num 2 (s, false)).1)) (Rp.num 2 (s, false)).2) := hid (HX.out.trans (by rfl))
        obtain ⟨a, ha⟩ : ∃ a, a = Rp.num 2 (s, false) := ⟨_, rfl⟩
        have la : a.1 < 65536 := by rw [ha]; exact Rp.num_lt2 _
        have wra : IntKind.i64.wrap (a.1 : Int) = (a.1 : Int) := IntWalk.i64_in _ (by omega)
        have hct := num37_any wr r 2 (s, false) HR.out.rd (by omega)
        rw [← ha] at hct HX
        have HCALL := hid hct
        clear ha hct
        go_upto_region 33 with (first | (go_at_call 37; refine HCALL.out.mono ?_; rintro e w1 ⟨rfl, hr, hm⟩; have HR1 := hid (HR.out.read hr hm); have cc : w1.cell? ⟨p, 2, none⟩ = some (I 0) := (HR.out.read hr hm).pk.cell 2; have cf := (HR.out.read hr hm).pk.fr; clear hr hm) | fail)
        have HR2 := hid (HR1.out.set 2 (I a.1) (P' := { Pk.new 11 f with id := (a.1 : Nat) }) (nv' := nil0) (cv' := nil0) rfl)
        clear HR HR1 HCALL cc cf
        generalize w1.setCell ⟨p, 2, none⟩ (I a.1) = w2 at *
        have HR := HR2
        clear HR2
        have cc : w2.cell? ⟨p, 2, none⟩ = some (I a.1) := HR.out.pk.cell 2
        go_wp2_with fail
        go_meet
        case rel => exact ⟨decide (0 < a.1), a.2, { Pk.new 11 f with id := (a.1 : Nat) }, nil0, nil0, congrArg Value.bool (by rw [decide_eq_decide] <;> omega), hid ⟨HR.out, World.ownsRow_nil _ _ _ _, World.ownsRow_nil _ _ _ _, HX.out.symm⟩⟩
    · as_aux_lemma =>
      have HR := HRB
      clear HRB
      replace HX : Hid (X = Rp.ends { Pk.new 2 f with keep := ((Rp.num 1 (s, false)).1 : Nat), code := ((Rp.num 1 (Rp.num 1 (s, false)).2).1 : Nat) } (decide ((Rp.num 1 (s, false)).1 < 2) && decide ((Rp.num 1 (Rp.num 1 (s, false)).2).1 < 6)) (Rp.num 1 (Rp.num 1 (s, false)).2).2) := hid (HX.out.trans (by rfl))
      obtain ⟨a, ha⟩ : ∃ a, a = Rp.num 1 (s, false) := ⟨_, rfl⟩
      have la : a.1 < 256 := by rw [ha]; exact Rp.num_lt1 _
      have wra : IntKind.i64.wrap (a.1 : Int) = (a.1 : Int) := IntWalk.i64_in _ (by omega)
      have hct := num37_any wr r 1 (s, false) HR.out.rd (by omega)
      rw [← ha] at hct HX
      have HCALL := hid hct
      clear ha hct
      go_upto_region 19 with (first | (go_at_call 37; refine HCALL.out.mono ?_; rintro e w1 ⟨rfl, hr, hm⟩; have HR1 := hid (HR.out.read hr hm); have cc : w1.cell? ⟨p, 6, none⟩ = some (I 0) := (HR.out.read hr hm).pk.cell 6; have cf := (HR.out.read hr hm).pk.fr; clear hr hm) | fail)
      have HR2 := hid (HR1.out.set 6 (I a.1) (P' := { Pk.new 2 f with keep := (a.1 : Nat) }) (nv' := nil0) (cv' := nil0) rfl)
      clear HR HR1 HCALL cc cf
      generalize w1.setCell ⟨p, 6, none⟩ (I a.1) = w2 at *
      have HR := HR2
      clear HR2
      obtain ⟨c, hc⟩ : ∃ c, c = Rp.num 1 a.2 := ⟨_, rfl⟩
      have lc : c.1 < 256 := by rw [hc]; exact Rp.num_lt1 _
      have wrc : IntKind.i64.wrap (c.1 : Int) = (c.1 : Int) := IntWalk.i64_in _ (by omega)
      have hct := num37_any w2 r 1 a.2 HR.out.rd (by omega)
      rw [← hc] at hct HX
      have HCALL := hid hct
      clear hc hct
      go_upto_region 20 with (first | (go_at_call 37; refine HCALL.out.mono ?_; rintro e w3 ⟨rfl, hr, hm⟩; have HR1 := hid (HR.out.read hr hm); have cc : w3.cell? ⟨p, 3, none⟩ = some (I 0) := (HR.out.read hr hm).pk.cell 3; have cf := (HR.out.read hr hm).pk.fr; clear hr hm) | fail)
      have HR2 := hid (HR1.out.set 3 (I c.1) (P' := { Pk.new 2 f with keep := (a.1 : Nat), code := (c.1 : Nat) }) (nv' := nil0) (cv' := nil0) rfl)
      clear HR HR1 HCALL cc cf
      generalize w3.setCell ⟨p, 3, none⟩ (I c.1) = w4 at *
      have HR := HR2
      clear HR2
      have c6 : w4.cell? ⟨p, 6, none⟩ = some (I a.1) := HR.out.pk.cell 6
      have c3 : w4.cell? ⟨p, 3, none⟩ = some (I c.1) := HR.out.pk.cell 3
      by_cases h2 : a.1 < 2
      · have hd : decide ((a.1 : Int) < 2) = true := decide_eq_true (by omega)
        have hd2 : decide (a.1 < 2) = true := decide_eq_true h2
        have HD2 := hid hd2
        clear h2 hd2
        go_wp2_with fail
        go_meet
        case rel => exact ⟨decide (a.1 < 2) && decide (c.1 < 6), c.2, { Pk.new 2 f with keep := (a.1 : Nat), code := (c.1 : Nat) }, nil0, nil0, congrArg Value.bool (by rw [HD2.out, Bool.true_and, decide_eq_decide]; omega), hid ⟨HR.out, World.ownsRow_nil _ _ _ _, World.ownsRow_nil _ _ _ _, HX.out.symm⟩⟩
      · have hd : decide ((a.1 : Int) < 2) = false := decide_eq_false (by omega)
        have hd2 : decide (a.1 < 2) = false := decide_eq_false h2
        have HD2 := hid hd2
        clear h2 hd2
        go_wp2_with fail
        go_meet
        case rel => exact ⟨decide (a.1 < 2) && decide (c.1 < 6), c.2, { Pk.new 2 f with keep := (a.1 : Nat), code := (c.1 : Nat) }, nil0, nil0, congrArg Value.bool (by rw [HD2.out, Bool.false_and]), hid ⟨HR.out, World.ownsRow_nil _ _ _ _, World.ownsRow_nil _ _ _ _, HX.out.symm⟩⟩
    · as_aux_lemma =>
      have HR := HRB
      clear HRB
      replace HX : Hid (X = Rp.three f s) := hid (HX.out.trans (by rfl))
      unfold Rp.three at HX
      simp only at HX
      obtain ⟨a, ha⟩ : ∃ a, a = Rp.text (s, false) := ⟨_, rfl⟩
      have hct := text36_any wr r (s, false) HR.out.rd
      rw [← ha] at hct HX
      have HCALL := hid hct
      clear ha hct
      go_upto_region 23 with (first | (go_at_call 36; refine HCALL.out.mono ?_; rintro e w1 ⟨rfl, hr, hm⟩; have HR1 := hid (HR.out.read hr hm); have cc : w1.cell? ⟨p, 8, none⟩ = some (S []) := (HR.out.read hr hm).pk.cell 8; have cf := (HR.out.read hr hm).pk.fr; clear hr hm) | fail)
      have HR2 := hid (HR1.out.set 8 (S a.1) (P' := { Pk.new 3 f with topic := a.1 }) (nv' := nil0) (cv' := nil0) rfl)
      clear HR HR1 HCALL cc cf
      generalize w1.setCell ⟨p, 8, none⟩ (S a.1) = w2 at *
      have HR := HR2
      clear HR2
      by_cases hq : 0 < f / 2 % 4
      · rw [if_pos hq] at HX
        have hd : decide ((0 : Int) < (f : Int) / 2 % 4) = true := decide_eq_true (by omega)
        have hq0 : (0 : Int) < (f : Int) / 2 % 4 := by omega
        obtain ⟨i, hi⟩ : ∃ i, i = Rp.num 2 a.2 := ⟨_, rfl⟩
        have li : i.1 < 65536 := by rw [hi]; exact Rp.num_lt2 _
        have wri : IntKind.i64.wrap (i.1 : Int) = (i.1 : Int) := IntWalk.i64_in _ (by omega)
        have hct := num37_any w2 r 2 a.2 HR.out.rd (by omega)
        rw [← hi] at hct HX
        have HCALL := hid hct
        clear hi hct
        go_upto_region 25 with (first | (go_at_call 37; refine HCALL.out.mono ?_; rintro e w3 ⟨rfl, hr, hm⟩; have HR1 := hid (HR.out.read hr hm); have cc : w3.cell? ⟨p, 2, none⟩ = some (I 0) := (HR.out.read hr hm).pk.cell 2; have cf := (HR.out.read hr hm).pk.fr; clear hr hm) | fail)
        have HR2 := hid (HR1.out.set 2 (I i.1) (P' := { Pk.new 3 f with topic := a.1, id := (i.1 : Nat) }) (nv' := nil0) (cv' := nil0) rfl)
        clear HR HR1 HCALL cc cf
        generalize w3.setCell ⟨p, 2, none⟩ (I i.1) = w4 at *
        have HR := HR2
        clear HR2
        have c2 : w4.cell? ⟨p, 2, none⟩ = some (I i.1) := HR.out.pk.cell 2
        go_upto_region 26 with (fail)
        clear c2
        have cs0 := HR.out.rd.c0
        have hzz := str_size i.2.1
        obtain ⟨z, hz⟩ : ∃ z, z = Rp.take i.2.1.length i.2 := ⟨_, rfl⟩
        have hct := take38_any w4 r i.2.1.length i.2 HR.out.rd (by have := HR.out.rd.le; omega)
        rw [← hz] at hct HX
        have HCALL := hid hct
        clear hz hct
        go_wp2_with (first | (go_at_call 38; refine HCALL.out.mono ?_; rintro e w8 ⟨rfl, hr, hm⟩; have HR1 := hid (HR.out.read hr hm); have cc : w8.cell? ⟨p, 5, none⟩ = some (S []) := (HR.out.read hr hm).pk.cell 5; have cf := (HR.out.read hr hm).pk.fr; clear hr hm) | fail)
        have HR2 := hid (HR1.out.set 5 (S z.1) (P' := { Pk.new 3 f with topic := a.1, id := (i.1 : Nat), text := z.1 }) (nv' := nil0) (cv' := nil0) rfl)
        clear HR HR1 HCALL cc cf cs0
        generalize w8.setCell ⟨p, 5, none⟩ (S z.1) = w9 at *
        have HR := HR2
        clear HR2
        go_meet
        case rel => exact ⟨decide (0 < i.1), z.2, { Pk.new 3 f with topic := a.1, id := (i.1 : Nat), text := z.1 }, nil0, nil0, congrArg Value.bool (by rw [decide_eq_decide] <;> omega), hid ⟨HR.out, World.ownsRow_nil _ _ _ _, World.ownsRow_nil _ _ _ _, HX.out.symm⟩⟩
      · rw [if_neg hq] at HX
        have hd : decide ((0 : Int) < (f : Int) / 2 % 4) = false := decide_eq_false (by omega)
        have hq0 : ¬ (0 : Int) < (f : Int) / 2 % 4 := by omega
        go_upto_region 26 with (fail)
        have cs0 := HR.out.rd.c0
        have hzz := str_size a.2.1
        obtain ⟨z, hz⟩ : ∃ z, z = Rp.take a.2.1.length a.2 := ⟨_, rfl⟩
        have hct := take38_any w2 r a.2.1.length a.2 HR.out.rd (by have := HR.out.rd.le; omega)
        rw [← hz] at hct HX
        have HCALL := hid hct
        clear hz hct
        go_wp2_with (first | (go_at_call 38; refine HCALL.out.mono ?_; rintro e w8 ⟨rfl, hr, hm⟩; have HR1 := hid (HR.out.read hr hm); have cc : w8.cell? ⟨p, 5, none⟩ = some (S []) := (HR.out.read hr hm).pk.cell 5; have cf := (HR.out.read hr hm).pk.fr; clear hr hm) | fail)
        have HR2 := hid (HR1.out.set 5 (S z.1) (P' := { Pk.new 3 f with topic := a.1, text := z.1 }) (nv' := nil0) (cv' := nil0) rfl)
        clear HR HR1 HCALL cc cf cs0
        generalize w8.setCell ⟨p, 5, none⟩ (S z.1) = w9 at *
        have HR := HR2
        clear HR2
        go_meet
        case rel => exact ⟨true, z.2, { Pk.new 3 f with topic := a.1, text := z.1 }, nil0, nil0, rfl, hid ⟨HR.out, World.ownsRow_nil _ _ _ _, World.ownsRow_nil _ _ _ _, HX.out.symm⟩⟩
    · as_aux_lemma =>
      have HR := HRB
      clear HRB
      replace HX : Hid (X = Rp.con f s) := hid (HX.out.trans (by rfl))
      unfold Rp.con at HX
      simp only at HX
      obtain ⟨a, ha⟩ : ∃ a, a = Rp.text (s, false) := ⟨_, rfl⟩
      have hct := text36_any wr r (s, false) HR.out.rd
      rw [← ha] at hct HX
      have HCALL := hid hct
      obtain ⟨m, hm⟩ : ∃ m, m = decide (a.1 = Mp.mqtt) := ⟨_, rfl⟩
      have hmq : ((str a.1).toList == ([77, 81, 84, 84] : List UInt8)) = m := by
        rw [str_toList, hm, Bool.eq_iff_iff, beq_iff_eq, decide_eq_true_eq]
        exact Iff.rfl
      have HMM := hid hm
      clear ha hct hm
      go_upto_region 7 with (first | (go_at_call 36; refine HCALL.out.mono ?_; rintro e w1 ⟨rfl, hr, hm⟩; have HR1 := hid (HR.out.read hr hm); clear hr hm) | fail)
      clear hmq HCALL HR
      obtain ⟨v, hv⟩ : ∃ v, v = Rp.num 1 a.2 := ⟨_, rfl⟩
      have lv : v.1 < 256 := by rw [hv]; exact Rp.num_lt1 _
      have hct := num37_any w1 r 1 a.2 HR1.out.rd (by omega)
      rw [← hv] at hct HX
      have HCALL := hid hct
      clear hv hct
      go_cut [10] from 11 (fun s10 wc => s10 = .bool (decide (v.1 = 4) && m) ∧ Hid (RB w wc r p q v.2 (Pk.new 1 f) nil0 nil0))
      case first => as_aux_lemma =>
        by_cases h4 : v.1 = 4
        · have hd : ((v.1 : Int) == 4) = true := by rw [beq_iff_eq]; omega
          have hd2 : decide (v.1 = 4) = true := decide_eq_true h4
          have HD2 := hid hd2
          clear h4 hd2
          go_wp2_with (first | (go_at_call 37; refine HCALL.out.mono ?_; rintro e w2 ⟨rfl, hr, hm⟩; have HR2 := hid (HR1.out.read hr hm); clear hr hm) | fail)
          go_meet
          case rel => exact ⟨congrArg Value.bool (by rw [HD2.out, Bool.true_and]), HR2⟩
        · have hd : ((v.1 : Int) == 4) = false := by rw [beq_eq_false_iff_ne]; omega
          have hd2 : decide (v.1 = 4) = false := decide_eq_false h4
          have HD2 := hid hd2
          clear h4 hd2
          go_wp2_with (first | (go_at_call 37; refine HCALL.out.mono ?_; rintro e w2 ⟨rfl, hr, hm⟩; have HR2 := hid (HR1.out.read hr hm); clear hr hm) | fail)
          go_meet
          case rel => exact ⟨congrArg Value.bool (by rw [HD2.out, Bool.false_and]), HR2⟩
      case rest => as_aux_lemma =>
        clear HCALL HR1
        obtain ⟨rfl, HR⟩ := hcut
        obtain ⟨o1, ho1⟩ : ∃ o1, o1 = (decide (v.1 = 4) && m) := ⟨_, rfl⟩
        rw [← ho1]
        have HO1 := hid ho1
        clear ho1
        go_upto_region 8 with (fail)
        obtain ⟨c, hc⟩ : ∃ c, c = Rp.num 1 v.2 := ⟨_, rfl⟩
        have lc : c.1 < 256 := by rw [hc]; exact Rp.num_lt1 _
        have wrc : IntKind.i64.wrap (c.1 : Int) = (c.1 : Int) := IntWalk.i64_in _ (by omega)
        have hct := num37_any wc r 1 v.2 HR.out.rd (by omega)
        rw [← hc] at hct HX
        have HCALL := hid hct
        clear hc hct
        go_upto_region 9 with (first | (go_at_call 37; refine HCALL.out.mono ?_; rintro e w3 ⟨rfl, hr, hm⟩; have HR1 := hid (HR.out.read hr hm); have cc : w3.cell? ⟨p, 3, none⟩ = some (I 0) := (HR.out.read hr hm).pk.cell 3; have cf := (HR.out.read hr hm).pk.fr; clear hr hm) | fail)
        have HR2 := hid (HR1.out.set 3 (I c.1) (P' := { Pk.new 1 f with code := (c.1 : Nat) }) (nv' := nil0) (cv' := nil0) rfl)
        clear HR HR1 HCALL cc cf
        generalize w3.setCell ⟨p, 3, none⟩ (I c.1) = w4 at *
        have HR := HR2
        clear HR2
        have c3 : w4.cell? ⟨p, 3, none⟩ = some (I c.1) := HR.out.pk.cell 3
        have c7 : w4.cell? ⟨p, 7, none⟩ = some (.bool false) := HR.out.pk.cell 7
        have cf := HR.out.pk.fr
        obtain ⟨wl, hwl⟩ : ∃ wl, wl = decide (c.1 / 4 % 2 = 1) := ⟨_, rfl⟩
        obtain ⟨cl, hcl⟩ : ∃ cl, cl = decide (c.1 / 2 % 2 = 1) := ⟨_, rfl⟩
        have hb1 : ((c.1 : Int) / 4 % 2 == 1) = wl := by rw [hwl, Bool.eq_iff_iff, beq_iff_eq, decide_eq_true_eq]; omega
        have hb2 : ((c.1 : Int) / 2 % 2 == 1) = cl := by rw [hcl, Bool.eq_iff_iff, beq_iff_eq, decide_eq_true_eq]; omega
        have HWL := hid hwl
        have HCL := hid hcl
        rw [← hwl, ← hcl] at HX
        clear hwl hcl
        go_upto_region 10 with (fail)
        have HR2 := hid (HR.out.set 7 (.bool wl) (P' := { Pk.new 1 f with code := (c.1 : Nat), will := wl }) (nv' := nil0) (cv' := nil0) rfl)
        clear HR
        generalize w4.setCell ⟨p, 7, none⟩ (.bool wl) = w5 at *
        have HR := HR2
        clear HR2
        clear c3 c7 cf
        have c3 : w5.cell? ⟨p, 3, none⟩ = some (I c.1) := HR.out.pk.cell 3
        have c9 : w5.cell? ⟨p, 9, none⟩ = some (.bool false) := HR.out.pk.cell 9
        have cf := HR.out.pk.fr
        go_upto_region 11 with (fail)
        have HR2 := hid (HR.out.set 9 (.bool cl) (P' := { Pk.new 1 f with code := (c.1 : Nat), will := wl, clean := cl }) (nv' := nil0) (cv' := nil0) rfl)
        clear HR
        generalize w5.setCell ⟨p, 9, none⟩ (.bool cl) = w6 at *
        have HR := HR2
        clear HR2
        clear c3 c9 cf hb1 hb2
        go_cut [10] from 11 (fun s10 wx => s10 = .bool (Rp.ok1 a.1 v.1 c.1) ∧ wx = w6)
        case first => as_aux_lemma =>
          have c3 : w6.cell? ⟨p, 3, none⟩ = some (I c.1) := HR.out.pk.cell 3
          have c7 : w6.cell? ⟨p, 7, none⟩ = some (.bool wl) := HR.out.pk.cell 7
          have hform : Rp.ok1 a.1 v.1 c.1 = (o1 && decide (c.1 % 2 = 0) && decide (c.1 < 64) && decide (c.1 / 8 % 4 ≠ 3) && (wl || decide (c.1 < 8))) := by rw [HO1.out, HMM.out, HWL.out]; rfl
          have HFORM := hid hform
          clear hform HX
          cases o1 with
          | false =>
            have HOK : Hid (Rp.ok1 a.1 v.1 c.1 = false) := hid (by rw [HFORM.out]; simp)
            go_wp2_with fail
            go_meet
            case rel => exact ⟨congrArg Value.bool (by rw [HOK.out]), rfl⟩
          | true =>
          by_cases h1 : c.1 % 2 = 0
          rotate_left
          · have hd : ((c.1 : Int) % 2 == 0) = false := by rw [beq_eq_false_iff_ne]; omega
            have HOK : Hid (Rp.ok1 a.1 v.1 c.1 = false) := hid (by rw [HFORM.out]; simp [h1])
            clear h1
            go_wp2_with fail
            go_meet
            case rel => exact ⟨congrArg Value.bool (by rw [HOK.out]), rfl⟩
          have hd1 : ((c.1 : Int) % 2 == 0) = true := by rw [beq_iff_eq]; omega
          by_cases h2 : c.1 < 64
          rotate_left
          · have hd : decide ((c.1 : Int) < 64) = false := decide_eq_false (by omega)
            have HOK : Hid (Rp.ok1 a.1 v.1 c.1 = false) := hid (by rw [HFORM.out, decide_eq_false h2]; simp)
            clear h1 h2
            go_wp2_with fail
            go_meet
            case rel => exact ⟨congrArg Value.bool (by rw [HOK.out]), rfl⟩
          have hd2 : decide ((c.1 : Int) < 64) = true := decide_eq_true (by omega)
          by_cases h3 : c.1 / 8 % 4 ≠ 3
          rotate_left
          · have hd : ((c.1 : Int) / 8 % 4 == 3) = true := by rw [beq_iff_eq]; omega
            have hdn : ((c.1 : Int) / 8 % 4 != 3) = false := by unfold bne; rw [hd]; rfl
            have HOK : Hid (Rp.ok1 a.1 v.1 c.1 = false) := hid (by rw [HFORM.out, decide_eq_false h3]; simp)
            clear h1 h2 h3
            go_wp2_with fail
            go_meet
            case rel => exact ⟨congrArg Value.bool (by rw [HOK.out]), rfl⟩
          have hd3 : ((c.1 : Int) / 8 % 4 == 3) = false := by rw [beq_eq_false_iff_ne]; omega
          have hd3n : ((c.1 : Int) / 8 % 4 != 3) = true := by unfold bne; rw [hd3]; rfl
          cases wl with
          | true =>
            have HOK : Hid (Rp.ok1 a.1 v.1 c.1 = true) := hid (by rw [HFORM.out, decide_eq_true h1, decide_eq_true h2, decide_eq_true h3]; rfl)
            clear h1 h2 h3
            go_wp2_with fail
            go_meet
            case rel => exact ⟨congrArg Value.bool (by rw [HOK.out]), rfl⟩
          | false =>
          by_cases h4 : c.1 < 8
          · have hd : decide ((c.1 : Int) < 8) = true := decide_eq_true (by omega)
            have HOK : Hid (Rp.ok1 a.1 v.1 c.1 = true) := hid (by rw [HFORM.out, decide_eq_true h1, decide_eq_true h2, decide_eq_true h3, decide_eq_true h4]; rfl)
            clear h1 h2 h3 h4
            go_wp2_with fail
            go_meet
            case rel => exact ⟨congrArg Value.bool (by rw [HOK.out]), rfl⟩
          · have hd : decide ((c.1 : Int) < 8) = false := decide_eq_false (by omega)
            have HOK : Hid (Rp.ok1 a.1 v.1 c.1 = false) := hid (by rw [HFORM.out, decide_eq_false h4]; simp)
            clear h1 h2 h3 h4
            go_wp2_with fail
            go_meet
            case rel => exact ⟨congrArg Value.bool (by rw [HOK.out]), rfl⟩
        case rest => as_aux_lemma =>
          obtain ⟨rfl, hwx⟩ := hcut
          rw [hwx]
          clear hwx
          obtain ⟨ok, hok⟩ : ∃ ok, ok = Rp.ok1 a.1 v.1 c.1 := ⟨_, rfl⟩
          rw [← hok] at HX ⊢
          clear hok HO1 HMM
          go_upto_region 12 with (fail)
          obtain ⟨kk, hkk⟩ : ∃ kk, kk = Rp.num 2 c.2 := ⟨_, rfl⟩
          have lkk : kk.1 < 65536 := by rw [hkk]; exact Rp.num_lt2 _
          have wrkk : IntKind.i64.wrap (kk.1 : Int) = (kk.1 : Int) := IntWalk.i64_in _ (by omega)
          have hct := num37_any w6 r 2 c.2 HR.out.rd (by omega)
          rw [← hkk] at hct HX
          have HCALL := hid hct
          clear hkk hct
          go_upto_region 13 with (first | (go_at_call 37; refine HCALL.out.mono ?_; rintro e w7 ⟨rfl, hr, hm⟩; have HR1 := hid (HR.out.read hr hm); have cc : w7.cell? ⟨p, 6, none⟩ = some (I 0) := (HR.out.read hr hm).pk.cell 6; have cf := (HR.out.read hr hm).pk.fr; clear hr hm) | fail)
          have HR2 := hid (HR1.out.set 6 (I kk.1) (P' := { Pk.new 1 f with code := (c.1 : Nat), will := wl, clean := cl, keep := (kk.1 : Nat) }) (nv' := nil0) (cv' := nil0) rfl)
          clear HR HR1 HCALL cc cf
          generalize w7.setCell ⟨p, 6, none⟩ (I kk.1) = w8 at *
          have HR := HR2
          clear HR2
          obtain ⟨n, hn⟩ : ∃ n, n = Rp.text kk.2 := ⟨_, rfl⟩
          have hct := text36_any w8 r kk.2 HR.out.rd
          rw [← hn] at hct HX
          have HCALL := hid hct
          clear hn hct
          go_upto_region 14 with (first | (go_at_call 36; refine HCALL.out.mono ?_; rintro e w9 ⟨rfl, hr, hm⟩; have HR1 := hid (HR.out.read hr hm); have cc : w9.cell? ⟨p, 4, none⟩ = some (S []) := (HR.out.read hr hm).pk.cell 4; have cf := (HR.out.read hr hm).pk.fr; clear hr hm) | fail)
          have HR2 := hid (HR1.out.set 4 (S n.1) (P' := { Pk.new 1 f with code := (c.1 : Nat), will := wl, clean := cl, keep := (kk.1 : Nat), name := n.1 }) (nv' := nil0) (cv' := nil0) rfl)
          clear HR HR1 HCALL cc cf
          generalize w9.setCell ⟨p, 4, none⟩ (S n.1) = w10 at *
          have HR := HR2
          clear HR2
          have c7 : w10.cell? ⟨p, 7, none⟩ = some (.bool wl) := HR.out.pk.cell 7
          cases wl with
          | false =>
            have hw := of_decide_eq_false HWL.out.symm
            rw [if_neg hw] at HX
            clear hw
            go_wp2_with fail
            go_meet
            case rel => exact ⟨ok, n.2, { Pk.new 1 f with code := (c.1 : Nat), will := false, clean := cl, keep := (kk.1 : Nat), name := n.1 }, nil0, nil0, rfl, hid ⟨HR.out, World.ownsRow_nil _ _ _ _, World.ownsRow_nil _ _ _ _, HX.out.symm⟩⟩
          | true =>
            have hw := of_decide_eq_true HWL.out.symm
            rw [if_pos hw] at HX
            clear hw
            go_upto_region 15 with (fail)
            clear c7
            obtain ⟨tp, htp⟩ : ∃ tp, tp = Rp.text n.2 := ⟨_, rfl⟩
            have hct := text36_any w10 r n.2 HR.out.rd
            rw [← htp] at hct HX
            have HCALL := hid hct
            clear htp hct
            go_upto_region 16 with (first | (go_at_call 36; refine HCALL.out.mono ?_; rintro e w11 ⟨rfl, hr, hm⟩; have HR1 := hid (HR.out.read hr hm); have cc : w11.cell? ⟨p, 8, none⟩ = some (S []) := (HR.out.read hr hm).pk.cell 8; have cf := (HR.out.read hr hm).pk.fr; clear hr hm) | fail)
            have HR2 := hid (HR1.out.set 8 (S tp.1) (P' := { Pk.new 1 f with code := (c.1 : Nat), will := true, clean := cl, keep := (kk.1 : Nat), name := n.1, topic := tp.1 }) (nv' := nil0) (cv' := nil0) rfl)
            clear HR HR1 HCALL cc cf
            generalize w11.setCell ⟨p, 8, none⟩ (S tp.1) = w12 at *
            have HR := HR2
            clear HR2
            obtain ⟨tx, htx⟩ : ∃ tx, tx = Rp.text tp.2 := ⟨_, rfl⟩
            have hct := text36_any w12 r tp.2 HR.out.rd
            rw [← htx] at hct HX
            have HCALL := hid hct
            clear htx hct
            go_wp2_with (first | (go_at_call 36; refine HCALL.out.mono ?_; rintro e w13 ⟨rfl, hr, hm⟩; have HR1 := hid (HR.out.read hr hm); have cc : w13.cell? ⟨p, 5, none⟩ = some (S []) := (HR.out.read hr hm).pk.cell 5; have cf := (HR.out.read hr hm).pk.fr; clear hr hm) | fail)
            have HR2 := hid (HR1.out.set 5 (S tx.1) (P' := { Pk.new 1 f with code := (c.1 : Nat), will := true, clean := cl, keep := (kk.1 : Nat), name := n.1, topic := tp.1, text := tx.1 }) (nv' := nil0) (cv' := nil0) rfl)
            clear HR HR1 HCALL cc cf
            generalize w13.setCell ⟨p, 5, none⟩ (S tx.1) = w14 at *
            have HR := HR2
            clear HR2
            go_meet
            case rel => exact ⟨ok, tx.2, { Pk.new 1 f with code := (c.1 : Nat), will := true, clean := cl, keep := (kk.1 : Nat), name := n.1, topic := tp.1, text := tx.1 }, nil0, nil0, rfl, hid ⟨HR.out, World.ownsRow_nil _ _ _ _, World.ownsRow_nil _ _ _ _, HX.out.symm⟩⟩
    · skip
      rcases h with rfl | rfl | rfl
      · as_aux_lemma =>
        have HR := HRB
        clear HRB
        replace HX : Hid (X = Rp.eight 8 f s) := hid (HX.out.trans (by rfl))
        unfold Rp.eight at HX
        simp only at HX
        obtain ⟨i, hi⟩ : ∃ i, i = Rp.num 2 (s, false) := ⟨_, rfl⟩
        have li : i.1 < 65536 := by rw [hi]; exact Rp.num_lt2 _
        have wri : IntKind.i64.wrap (i.1 : Int) = (i.1 : Int) := IntWalk.i64_in _ (by omega)
        have hct := num37_any wr r 2 (s, false) HR.out.rd (by omega)
        rw [← hi] at hct HX
        have HCALL := hid hct
        clear hi hct
        go_upto_region 38 with (first | (go_at_call 37; refine HCALL.out.mono ?_; rintro e w1 ⟨rfl, hr, hm⟩; have HR1 := hid (HR.out.read hr hm); have cc : w1.cell? ⟨p, 2, none⟩ = some (I 0) := (HR.out.read hr hm).pk.cell 2; have cf := (HR.out.read hr hm).pk.fr; clear hr hm) | fail)
        have HR2 := hid (HR1.out.set 2 (I i.1) (P' := { Pk.new 8 f with id := (i.1 : Nat) }) (nv' := nil0) (cv' := nil0) rfl)
        clear HR HR1 HCALL cc cf
        generalize w1.setCell ⟨p, 2, none⟩ (I i.1) = w2 at *
        have HR := HR2
        clear HR2
        obtain ⟨Y, hY⟩ : ∃ Y, Y = Rp.loop 8 33 ⟨[], [], true, 0, i.2⟩ := ⟨_, rfl⟩
        rw [← hY] at HX
        have HY := hid hY
        clear hY
        go_wp2_with fail
        go_loopw [10, 11] (fun s10 s11 wr => ∃ (x : Rp.Lp) (nv cv : Value), s10 = .bool x.ok ∧ s11 = I x.n ∧ x.n ≤ 33 ∧ Hid (LI w wr r p q x { Pk.new 8 f with id := (i.1 : Nat) } nv cv 8 Y)) (fun _ s11 _ => 34 - (intOf s11).toNat)
        case atStart => exact ⟨⟨[], [], true, 0, i.2⟩, nil0, nil0, rfl, rfl, by simp, hid ⟨HR.out, World.ownsRow_nil _ _ _ _, World.ownsRow_nil _ _ _ _, (fun g hg => by cases hg), Nat.le_refl _, Nat.le_refl _, HY.out.symm⟩⟩
        case round =>
          clear HR HY
          obtain ⟨⟨xns, xcs, xok, xn, xs, xb⟩, nv, cv, rfl, rfl, hn, HL⟩ := hrel
          simp only at hn HL ⊢
          have HB := hid HL.out.rb
          have HNR := hid HL.out.nr
          have HCR := hid HL.out.cr
          have HDJ := hid HL.out.dj
          have HNL : Hid (xns.length ≤ 33) := hid (Nat.le_trans HL.out.nl hn)
          have HCL : Hid (xcs.length ≤ 33) := hid (Nat.le_trans HL.out.cl hn)
          have HNL2 : Hid (xns.length ≤ xn) := hid HL.out.nl
          have HCL2 : Hid (xcs.length ≤ xn) := hid HL.out.cl
          have HEQ0 := hid HL.out.eq
          simp only at HB HNR HCR HEQ0
          clear HL
          obtain ⟨G, hG⟩ : ∃ G, G = Rp.goes ⟨xns, xcs, xok, xn, xs, xb⟩ := ⟨_, rfl⟩
          have hG2 : G = (decide (xs ≠ []) && !xb && decide (xn ≤ 32)) := hG
          have HG := hid hG
          have HG2 := hid hG2
          clear hG hG2
          go_upto_region 39 with (fail)
          go_cut [168] from 240 (fun s168 wx => s168 = .bool G ∧ wx = wr)
          case first => as_aux_lemma =>
            have c0 := HB.out.rd.c0
            have c1 := HB.out.rd.c1
            simp only at c0 c1
            by_cases h0 : xs = []
            · have he := str_empty xs h0
              have HE : Hid (G = false) := hid (by rw [HG2.out]; simp [h0])
              clear h0
              go_wp2_with fail
              go_meet
              case rel => exact ⟨congrArg Value.bool HE.out.symm, rfl⟩
            have he := str_full xs h0
            cases xb with
            | true =>
              have HE : Hid (G = false) := hid (by rw [HG2.out]; simp)
              clear h0
              go_wp2_with fail
              go_meet
              case rel => exact ⟨congrArg Value.bool HE.out.symm, rfl⟩
            | false =>
            by_cases h32 : xn ≤ 32
            · have hd : decide ((xn : Int) ≤ 32) = true := decide_eq_true (by omega)
              have HE : Hid (G = true) := hid (by rw [HG2.out, decide_eq_true h32, decide_eq_true h0]; rfl)
              clear h0 h32
              go_wp2_with fail
              go_meet
              case rel => exact ⟨congrArg Value.bool HE.out.symm, rfl⟩
            · have hd : decide ((xn : Int) ≤ 32) = false := decide_eq_false (by omega)
              have HE : Hid (G = false) := hid (by rw [HG2.out, decide_eq_false h32]; simp)
              clear h0 h32
              go_wp2_with fail
              go_meet
              case rel => exact ⟨congrArg Value.bool HE.out.symm, rfl⟩
          case rest =>
            obtain ⟨rfl, hwx⟩ := hcut
            rw [hwx]
            clear hwx
            cases G with
            | false => as_aux_lemma =>
              have HYX : Hid ((⟨xns, xcs, xok, xn, xs, xb⟩ : Rp.Lp) = Y) := hid (by rw [← HEQ0.out]; exact (Rp.loop_stop HG.out.symm).symm)
              clear HG HG2 HEQ0
              have c2 : wr.cell? ⟨p, 2, none⟩ = some (I i.1) := HB.out.pk.cell 2
              cases xok with
              | false =>
                go_wp2_with fail
                go_meet
                case rel => exact ⟨false && decide (0 < i.1) && decide (1 ≤ xn) && decide (xn ≤ 32), (xs, xb), { Pk.new 8 f with id := (i.1 : Nat), names := xns, codes := xcs }, nv, cv, rfl, hid ⟨⟨HB.out.rd, HB.out.pk, HB.out.qk, HB.out.below, HB.out.lo, HB.out.qr, HB.out.rp⟩, HNR.out, HCR.out, (by rw [HX.out, ← HYX.out])⟩⟩
              | true =>
              by_cases h1 : 0 < i.1
              rotate_left
              · have hd : decide ((0 : Int) < (i.1 : Int)) = false := decide_eq_false (by omega)
                have hz : ¬ (0 : Int) < (i.1 : Int) := by omega
                have HD := hid (decide_eq_false h1)
                clear h1
                go_wp2_with fail
                go_meet
                case rel => exact ⟨true && decide (0 < i.1) && decide (1 ≤ xn) && decide (xn ≤ 32), (xs, xb), { Pk.new 8 f with id := (i.1 : Nat), names := xns, codes := xcs }, nv, cv, congrArg Value.bool (by rw [HD.out]; rfl), hid ⟨⟨HB.out.rd, HB.out.pk, HB.out.qk, HB.out.below, HB.out.lo, HB.out.qr, HB.out.rp⟩, HNR.out, HCR.out, (by rw [HX.out, ← HYX.out])⟩⟩
              have hd1 : decide ((0 : Int) < (i.1 : Int)) = true := decide_eq_true (by omega)
              have HD1 := hid (decide_eq_true h1)
              have hz1 : (0 : Int) < (i.1 : Int) := by omega
              clear h1
              by_cases h2 : 1 ≤ xn
              rotate_left
              · obtain rfl : xn = 0 := by omega
                clear h2
                go_wp2_with fail
                go_meet
                case rel => exact ⟨true && decide (0 < i.1) && decide (1 ≤ 0) && decide (0 ≤ 32), (xs, xb), { Pk.new 8 f with id := (i.1 : Nat), names := xns, codes := xcs }, nv, cv, congrArg Value.bool (by rw [HD1.out]; rfl), hid ⟨⟨HB.out.rd, HB.out.pk, HB.out.qk, HB.out.below, HB.out.lo, HB.out.qr, HB.out.rp⟩, HNR.out, HCR.out, (by rw [HX.out, ← HYX.out])⟩⟩
              have hd2 : decide ((1 : Int) ≤ (xn : Int)) = true := decide_eq_true (by omega)
              have HD2 := hid (decide_eq_true h2)
              have hz2 : (1 : Int) ≤ (xn : Int) := by omega
              clear h2
              go_wp2_with fail
              go_meet
              case rel => exact ⟨true && decide (0 < i.1) && decide (1 ≤ xn) && decide (xn ≤ 32), (xs, xb), { Pk.new 8 f with id := (i.1 : Nat), names := xns, codes := xcs }, nv, cv, congrArg Value.bool (by rw [HD2.out, HD1.out, Bool.true_and, Bool.true_and, Bool.true_and, decide_eq_decide] <;> omega), hid ⟨⟨HB.out.rd, HB.out.pk, HB.out.qk, HB.out.below, HB.out.lo, HB.out.qr, HB.out.rp⟩, HNR.out, HCR.out, (by rw [HX.out, ← HYX.out])⟩⟩
            | true => as_aux_lemma =>
              have hgo : xs ≠ [] ∧ xb = false ∧ xn ≤ 32 := by
                have h := HG2.out.symm
                simp only [Bool.and_eq_true, decide_eq_true_eq, Bool.not_eq_true'] at h
                exact ⟨h.1.1, h.1.2, h.2⟩
              have HEQ1 := hid (HEQ0.out.symm.trans (Rp.loop_go HG.out.symm hgo.2.2))
              have HN32 := hid hgo.2.2
              obtain ⟨-, rfl, hn32⟩ := hgo
              clear HG HG2 HEQ0
              go_upto_region 42 with (fail)
              have lp := HB.out.lt
              have k10 : ∀ w', KeepOne p wr.drew w' → w'.cell? ⟨p, 10, none⟩ = some nv := fun w' hh => by rw [World.cell?_of_block hh.1]; exact HB.out.drew.pk.cell 10
              have hfr : ∀ w', KeepOne p wr.drew w' → ∀ i, w'.frozen? ⟨p, i, none⟩ = false := fun w' hh => frozen_row (hh.1.trans HB.out.drew.pk)
              obtain ⟨t, ht⟩ : ∃ t, t = Rp.text (xs, false) := ⟨_, rfl⟩
              have hct := text36_any wr.drew r (xs, false) HB.out.drew.rd
              rw [← ht] at hct
              have hrp := HB.out.rp
              have HT := hid ht
              clear ht
              obtain ⟨a0, o0, rfl⟩ := own_form HNR.out
              refine wp_region_order (KeepOne p) [7] [(0,0),(1,0),(2,0),(3,1),(4,1),(5,1),(6,0),(7,2)] _ (by kernel_rfl) rfl KeepOne.refl KeepOne.trans (by kernel_rfl) (by simp only [pick, List.getElem?_toArray, List.getElem?_cons_zero, List.getElem?_cons_succ]; rfl) (fun c a d v w h => by cases d <;> exact h) ?_
              refine wpK_q (v := ?_) (a' := ?_) (by rfl) (fun w' hR => ?_) ?_ ?_
              rotate_left 2
              · go_simp; with_reducible rfl
              · simp only [Act.put, List.setIfInBounds_toArray, List.set_cons_zero, List.set_cons_succ]; rfl
              refine wpK_q (v := ?_) (a' := ?_) (by rfl) (fun w' hR => ?_) ?_ ?_
              rotate_left 2
              · go_simp; with_reducible rfl
              · simp only [Act.put, List.setIfInBounds_toArray, List.set_cons_zero, List.set_cons_succ]; rfl
              refine wpK_q (v := ?_) (a' := ?_) (by rfl) (fun w' hR => ?_) ?_ ?_
              rotate_left 2
              · go_simp; with_reducible rfl
              · simp only [Act.put, List.setIfInBounds_toArray, List.set_cons_zero, List.set_cons_succ]; rfl
              refine wpK_call Try.func36 (by kernel_rfl) rfl rfl (by rfl) #[.pointer (some ⟨r, 0, none⟩)] (by simp only [List.map_toArray, List.map_cons, List.map_nil]; rfl) ?_
              refine hct.mono ?_
              rintro e w1 ⟨rfl, hr, hm⟩
              refine ⟨_, rfl, fun _ => KeepOne.mod hm lp (by omega), ?_⟩
              refine wpK_v (v := .slice (some ⟨w1.heap.size, 0, none⟩) 1 1) (w' := w1.alloc (.cells #[S t.1] 9)) (by rfl) (by go_simp) (fun _ => KeepOne.alloc _ (Nat.lt_of_lt_of_le lp hm.size)) (by simp only [Act.put, List.setIfInBounds_toArray, List.set_cons_zero, List.set_cons_succ]; rfl) ?_
              have hms := hm.size
              have hown : (w1.alloc (.cells #[S t.1] 9)).ownsRow (p + 1) 9 1 (.slice a0 xns.length o0) xns.length (xns.map S) := own_mod HNR.out (fun k hk => (Below.heap_alloc w1 _ _ (Nat.lt_of_lt_of_le (own_lt HNR.out k hk).2 hm.size)).trans (hm.block k (own_lt HNR.out k hk).2 (by have := (own_lt HNR.out k hk).1; omega)))
              have hbase : p + 1 ≤ (w1.alloc (.cells #[S t.1] 9)).heap.size := by have h2 : p < wr.drew.heap.size := lp; simp; omega
              obtain ⟨v20, w3, hr3, ho3, hg3, hb3⟩ := run_app (P := Try.prog) (w1.alloc (.cells #[S t.1] 9)) (p + 1) 22 22 9 _ 1 16 Try.underlying22 info9 rfl (by decide) (.slice a0 xns.length o0) xns.length (xns.map S) hown _ 1 [S t.1] (Src.new w1 1 9 [S t.1] rfl (fun u hu => by obtain rfl := List.mem_singleton.1 hu; rfl)) (by have := HNL.out; unfold maxLen; omega) (by have := HNL.out; omega) hbase
              refine wpK_v (by rfl) (exec_append rfl _ (by simp only [List.map_toArray, List.map_cons, List.map_nil]; rfl) hr3) (fun _ => KeepOne.grown hg3 (by have h2 : p < wr.drew.heap.size := lp; simp; omega) (own_ge HNR.out (by omega))) (by simp only [Act.put, List.setIfInBounds_toArray, List.set_cons_zero, List.set_cons_succ]; rfl) ?_
              refine wpK_q (v := ?_) (a' := ?_) (by rfl) (fun w' hR => ?_) ?_ ?_
              rotate_left 2
              · go_simp; with_reducible rfl
              · simp only [Act.put, List.setIfInBounds_toArray, List.set_cons_zero, List.set_cons_succ]; rfl
              have hX : KeepOne p wr.drew w3 := KeepOne.trans _ _ _ (KeepOne.trans _ _ _ (KeepOne.mod hm lp (by omega)) (KeepOne.alloc _ (Nat.lt_of_lt_of_le lp hm.size))) (KeepOne.grown hg3 (by have h2 : p < wr.drew.heap.size := lp; simp; omega) (own_ge HNR.out (by omega)))
              obtain ⟨a20, o20, rfl⟩ := own_form ho3
              refine wpK_s (by rfl) rfl (exec_store rfl (vx := .pointer (some ⟨p, 10, none⟩)) (vy := .slice a20 (xns.length + 1) o20) rfl rfl (run_store1 (by kernel_rfl) rfl rfl (k10 _ hX) (hfr _ hX 10))) (fun h => by cases h) ?_
              refine wpK_done ?_
              have hgr := HB.out.drew.grow (own_mod (w' := wr.drew) HNR.out (fun _ _ => rfl)) (own_mod (w' := wr.drew) HCR.out (fun _ _ => rfl)) HDJ.out hm hr (.cells #[S t.1] 9) ho3 hg3 hb3
              have HB2 := hid (hgr.1.set 10 (.slice a20 (xns.length + 1) o20) (P' := { Pk.new 8 f with id := (i.1 : Nat) }) (nv' := .slice a20 (xns.length + 1) o20) (cv' := cv) rfl)
              have HNR2 := hid (own_setCell_other ho3 (own_ge ho3 (show p < p + 1 by omega)) (a := ⟨p, 10, none⟩) (.slice a20 (xns.length + 1) o20))
              have HCR2 := hid (own_setCell_other hgr.2.1 (own_ge hgr.2.1 (show p < p + 1 by omega)) (a := ⟨p, 10, none⟩) (.slice a20 (xns.length + 1) o20))
              have HDJ2 := hid hgr.2.2
              clear hgr hX hr3 ho3 hg3 hb3 hbase hown hms hm hr hct k10 hfr lp hrp HB HNR HCR HDJ
              generalize w3.setCell ⟨p, 10, none⟩ (.slice a20 (xns.length + 1) o20) = wn at *
              have HB := HB2
              have HNR := hid (own_len HNR2.out (m := (xns ++ [t.1]).length) (ys := (xns ++ [t.1]).map S) (by simp) (by rw [List.map_append]; rfl))
              have HCR := HCR2
              have HDJ := HDJ2
              clear HB2 HNR2 HCR2 HDJ2
              go_upto_region 44 with (fail)
              obtain ⟨c, hcd⟩ : ∃ c, c = Rp.num 1 t.2 := ⟨_, rfl⟩
              have lc : c.1 < 256 := by rw [hcd]; exact Rp.num_lt1 _
              have wrc : IntKind.i64.wrap (c.1 : Int) = (c.1 : Int) := IntWalk.i64_in _ (by omega)
              have hct := num37_any wn r 1 t.2 HB.out.rd (by omega)
              rw [← hcd] at hct
              have HCALL := hid hct
              have HC := hid hcd
              clear hct hcd
              go_upto_region 45 with (first | (go_at_call 37; refine HCALL.out.mono ?_; rintro e w5 ⟨rfl, hr, hm⟩; have HRM := hid (And.intro hr hm); clear hr hm) | fail)
              clear wrc HCALL
              have HB5 := hid (HB.out.read HRM.out.1 HRM.out.2)
              have hrq := HB.out.rp
              have HNR5 := hid (own_mod HNR.out (fun k hk => HRM.out.2.block k (own_lt HNR.out k hk).2 (by have := (own_lt HNR.out k hk).1; omega)))
              have HCR5 := hid (own_mod HCR.out (fun k hk => HRM.out.2.block k (own_lt HCR.out k hk).2 (by have := (own_lt HCR.out k hk).1; omega)))
              clear HB HNR HCR HRM hrq
              go_cut [10] from 240 (fun s10 wx => s10 = .bool (xok && Rp.cok 8 c.1) ∧ wx = w5)
              case first => as_aux_lemma =>
                cases xok with
                | false =>
                  go_wp2_with fail
                  go_meet
                  case rel => exact ⟨rfl, rfl⟩
                | true =>
                by_cases h2 : c.1 ≤ 2
                · have hd : decide ((c.1 : Int) ≤ 2) = true := decide_eq_true (by omega)
                  have hk : Rp.cok 8 c.1 = true := by simp [Rp.cok, h2]
                  have HOK := hid hk
                  clear h2 hk
                  go_wp2_with fail
                  go_meet
                  case rel => exact ⟨congrArg Value.bool (by rw [HOK.out]; rfl), rfl⟩
                · have hd : decide ((c.1 : Int) ≤ 2) = false := decide_eq_false (by omega)
                  have hk : Rp.cok 8 c.1 = false := by simp [Rp.cok, h2]
                  have HOK := hid hk
                  clear h2 hk
                  go_wp2_with fail
                  go_meet
                  case rel => exact ⟨congrArg Value.bool (by rw [HOK.out]; rfl), rfl⟩
              case rest =>
                obtain ⟨rfl, hwx⟩ := hcut
                rw [hwx]
                clear hwx
                have c11 : w5.cell? ⟨p, 11, none⟩ = some cv := HB5.out.pk.cell 11
                obtain ⟨a1, o1, rfl⟩ := own_form HCR5.out
                have HOA := hid (own_mod (w' := w5.alloc (.cells #[I c.1] 3)) HCR5.out (fun k hk => Below.heap_alloc w5 _ _ (own_lt HCR5.out k hk).2))
                have hp5 := HB5.out.lt
                go_wp2_with (at_builtin; go_must (refine wpList_app rfl (.tmp 199) (.tmp 201) 23 rfl (p + 1) 3 (I 0) 1 8 Try.underlying23 info3 rfl (by decide) xcs.length (xcs.map I) 1 [I c.1] HOA.out (Src.new w5 1 3 [I c.1] rfl (fun u hu => by obtain rfl := List.mem_singleton.1 hu; rfl)) ?h63 ?hb ?hbase ?_))
                case h63 => have := HCL.out; unfold maxLen; omega
                case hb => have := HCL.out; omega
                case hbase => simp; omega
                intro v6 w6 hown hgrow hat
                have hgr := HB5.out.grow HCR5.out HNR5.out (fun g h1 h2 => HDJ.out g h2 h1) (Mod.refl _ _) HB5.out.rd (.cells #[I c.1] 3) hown hgrow (hat.imp id (fun h => h.trans (by simp)))
                have HB6 := hid hgr.1
                have HNR6 := hid hgr.2.1
                have HDJ6 := hid hgr.2.2
                have HCR6 := hid hown
                have c11' : w6.cell? ⟨p, 11, none⟩ = some (.slice a1 xcs.length o1) := HB6.out.pk.cell 11
                have cf := HB6.out.pk.fr
                obtain ⟨a6, o6, rfl⟩ := own_form hown
                clear hgr hown hgrow hat c11 HOA HB5 HNR5 HCR5 HDJ hp5
                go_wp2_with fail
                go_roundw
                case measure => simp [intOf]; omega
                case rel => exact ⟨⟨xns ++ [t.1], xcs ++ [(c.1 : Int)], xok && Rp.cok 8 c.1, xn + 1, c.2⟩, _, _, rfl, by go_num, by have := HN32.out; show xn + 1 ≤ 33; omega, hid ⟨HB6.out.set 11 _ (P' := { Pk.new 8 f with id := (i.1 : Nat) }) rfl, own_setCell_other HNR6.out (own_ge HNR6.out (show p < p + 1 by omega)) _, own_len (own_setCell_other HCR6.out (own_ge HCR6.out (show p < p + 1 by omega)) _) (by simp) (by rw [List.map_append]; rfl), (fun g h1 h2 => HDJ6.out g h2 h1), by have := HNL2.out; simp; omega, by have := HCL2.out; simp; omega, (by rw [HEQ1.out, HC.out, HT.out]; rfl)⟩⟩
      · as_aux_lemma =>
        have HR := HRB
        clear HRB
        replace HX : Hid (X = Rp.eight 9 f s) := hid (HX.out.trans (by rfl))
        unfold Rp.eight at HX
        simp only at HX
        obtain ⟨i, hi⟩ : ∃ i, i = Rp.num 2 (s, false) := ⟨_, rfl⟩
        have li : i.1 < 65536 := by rw [hi]; exact Rp.num_lt2 _
        have wri : IntKind.i64.wrap (i.1 : Int) = (i.1 : Int) := IntWalk.i64_in _ (by omega)
        have hct := num37_any wr r 2 (s, false) HR.out.rd (by omega)
        rw [← hi] at hct HX
        have HCALL := hid hct
        clear hi hct
        go_upto_region 38 with (first | (go_at_call 37; refine HCALL.out.mono ?_; rintro e w1 ⟨rfl, hr, hm⟩; have HR1 := hid (HR.out.read hr hm); have cc : w1.cell? ⟨p, 2, none⟩ = some (I 0) := (HR.out.read hr hm).pk.cell 2; have cf := (HR.out.read hr hm).pk.fr; clear hr hm) | fail)
        have HR2 := hid (HR1.out.set 2 (I i.1) (P' := { Pk.new 9 f with id := (i.1 : Nat) }) (nv' := nil0) (cv' := nil0) rfl)
        clear HR HR1 HCALL cc cf
        generalize w1.setCell ⟨p, 2, none⟩ (I i.1) = w2 at *
        have HR := HR2
        clear HR2
        obtain ⟨Y, hY⟩ : ∃ Y, Y = Rp.loop 9 33 ⟨[], [], true, 0, i.2⟩ := ⟨_, rfl⟩
        rw [← hY] at HX
        have HY := hid hY
        clear hY
        go_wp2_with fail
        go_loopw [10, 11] (fun s10 s11 wr => ∃ (x : Rp.Lp) (nv cv : Value), s10 = .bool x.ok ∧ s11 = I x.n ∧ x.n ≤ 33 ∧ Hid (LI w wr r p q x { Pk.new 9 f with id := (i.1 : Nat) } nv cv 9 Y)) (fun _ s11 _ => 34 - (intOf s11).toNat)
        case atStart => exact ⟨⟨[], [], true, 0, i.2⟩, nil0, nil0, rfl, rfl, by simp, hid ⟨HR.out, World.ownsRow_nil _ _ _ _, World.ownsRow_nil _ _ _ _, (fun g hg => by cases hg), Nat.le_refl _, Nat.le_refl _, HY.out.symm⟩⟩
        case round =>
          clear HR HY
          obtain ⟨⟨xns, xcs, xok, xn, xs, xb⟩, nv, cv, rfl, rfl, hn, HL⟩ := hrel
          simp only at hn HL ⊢
          have HB := hid HL.out.rb
          have HNR := hid HL.out.nr
          have HCR := hid HL.out.cr
          have HDJ := hid HL.out.dj
          have HNL : Hid (xns.length ≤ 33) := hid (Nat.le_trans HL.out.nl hn)
          have HCL : Hid (xcs.length ≤ 33) := hid (Nat.le_trans HL.out.cl hn)
          have HNL2 : Hid (xns.length ≤ xn) := hid HL.out.nl
          have HCL2 : Hid (xcs.length ≤ xn) := hid HL.out.cl
          have HEQ0 := hid HL.out.eq
          simp only at HB HNR HCR HEQ0
          clear HL
          obtain ⟨G, hG⟩ : ∃ G, G = Rp.goes ⟨xns, xcs, xok, xn, xs, xb⟩ := ⟨_, rfl⟩
          have hG2 : G = (decide (xs ≠ []) && !xb && decide (xn ≤ 32)) := hG
          have HG := hid hG
          have HG2 := hid hG2
          clear hG hG2
          go_upto_region 39 with (fail)
          go_cut [168] from 240 (fun s168 wx => s168 = .bool G ∧ wx = wr)
          case first => as_aux_lemma =>
            have c0 := HB.out.rd.c0
            have c1 := HB.out.rd.c1
            simp only at c0 c1
            by_cases h0 : xs = []
            · have he := str_empty xs h0
              have HE : Hid (G = false) := hid (by rw [HG2.out]; simp [h0])
              clear h0
              go_wp2_with fail
              go_meet
              case rel => exact ⟨congrArg Value.bool HE.out.symm, rfl⟩
            have he := str_full xs h0
            cases xb with
            | true =>
              have HE : Hid (G = false) := hid (by rw [HG2.out]; simp)
              clear h0
              go_wp2_with fail
              go_meet
              case rel => exact ⟨congrArg Value.bool HE.out.symm, rfl⟩
            | false =>
            by_cases h32 : xn ≤ 32
            · have hd : decide ((xn : Int) ≤ 32) = true := decide_eq_true (by omega)
              have HE : Hid (G = true) := hid (by rw [HG2.out, decide_eq_true h32, decide_eq_true h0]; rfl)
              clear h0 h32
              go_wp2_with fail
              go_meet
              case rel => exact ⟨congrArg Value.bool HE.out.symm, rfl⟩
            · have hd : decide ((xn : Int) ≤ 32) = false := decide_eq_false (by omega)
              have HE : Hid (G = false) := hid (by rw [HG2.out, decide_eq_false h32]; simp)
              clear h0 h32
              go_wp2_with fail
              go_meet
              case rel => exact ⟨congrArg Value.bool HE.out.symm, rfl⟩
          case rest =>
            obtain ⟨rfl, hwx⟩ := hcut
            rw [hwx]
            clear hwx
            cases G with
            | false => as_aux_lemma =>
              have HYX : Hid ((⟨xns, xcs, xok, xn, xs, xb⟩ : Rp.Lp) = Y) := hid (by rw [← HEQ0.out]; exact (Rp.loop_stop HG.out.symm).symm)
              clear HG HG2 HEQ0
              have c2 : wr.cell? ⟨p, 2, none⟩ = some (I i.1) := HB.out.pk.cell 2
              cases xok with
              | false =>
                go_wp2_with fail
                go_meet
                case rel => exact ⟨false && decide (0 < i.1) && decide (1 ≤ xn) && decide (xn ≤ 32), (xs, xb), { Pk.new 9 f with id := (i.1 : Nat), names := xns, codes := xcs }, nv, cv, rfl, hid ⟨⟨HB.out.rd, HB.out.pk, HB.out.qk, HB.out.below, HB.out.lo, HB.out.qr, HB.out.rp⟩, HNR.out, HCR.out, (by rw [HX.out, ← HYX.out])⟩⟩
              | true =>
              by_cases h1 : 0 < i.1
              rotate_left
              · have hd : decide ((0 : Int) < (i.1 : Int)) = false := decide_eq_false (by omega)
                have hz : ¬ (0 : Int) < (i.1 : Int) := by omega
                have HD := hid (decide_eq_false h1)
                clear h1
                go_wp2_with fail
                go_meet
                case rel => exact ⟨true && decide (0 < i.1) && decide (1 ≤ xn) && decide (xn ≤ 32), (xs, xb), { Pk.new 9 f with id := (i.1 : Nat), names := xns, codes := xcs }, nv, cv, congrArg Value.bool (by rw [HD.out]; rfl), hid ⟨⟨HB.out.rd, HB.out.pk, HB.out.qk, HB.out.below, HB.out.lo, HB.out.qr, HB.out.rp⟩, HNR.out, HCR.out, (by rw [HX.out, ← HYX.out])⟩⟩
              have hd1 : decide ((0 : Int) < (i.1 : Int)) = true := decide_eq_true (by omega)
              have HD1 := hid (decide_eq_true h1)
              have hz1 : (0 : Int) < (i.1 : Int) := by omega
              clear h1
              by_cases h2 : 1 ≤ xn
              rotate_left
              · obtain rfl : xn = 0 := by omega
                clear h2
                go_wp2_with fail
                go_meet
                case rel => exact ⟨true && decide (0 < i.1) && decide (1 ≤ 0) && decide (0 ≤ 32), (xs, xb), { Pk.new 9 f with id := (i.1 : Nat), names := xns, codes := xcs }, nv, cv, congrArg Value.bool (by rw [HD1.out]; rfl), hid ⟨⟨HB.out.rd, HB.out.pk, HB.out.qk, HB.out.below, HB.out.lo, HB.out.qr, HB.out.rp⟩, HNR.out, HCR.out, (by rw [HX.out, ← HYX.out])⟩⟩
              have hd2 : decide ((1 : Int) ≤ (xn : Int)) = true := decide_eq_true (by omega)
              have HD2 := hid (decide_eq_true h2)
              have hz2 : (1 : Int) ≤ (xn : Int) := by omega
              clear h2
              go_wp2_with fail
              go_meet
              case rel => exact ⟨true && decide (0 < i.1) && decide (1 ≤ xn) && decide (xn ≤ 32), (xs, xb), { Pk.new 9 f with id := (i.1 : Nat), names := xns, codes := xcs }, nv, cv, congrArg Value.bool (by rw [HD2.out, HD1.out, Bool.true_and, Bool.true_and, Bool.true_and, decide_eq_decide] <;> omega), hid ⟨⟨HB.out.rd, HB.out.pk, HB.out.qk, HB.out.below, HB.out.lo, HB.out.qr, HB.out.rp⟩, HNR.out, HCR.out, (by rw [HX.out, ← HYX.out])⟩⟩
            | true => as_aux_lemma =>
              have hgo : xs ≠ [] ∧ xb = false ∧ xn ≤ 32 := by
                have h := HG2.out.symm
                simp only [Bool.and_eq_true, decide_eq_true_eq, Bool.not_eq_true'] at h
                exact ⟨h.1.1, h.1.2, h.2⟩
              have HEQ1 := hid (HEQ0.out.symm.trans (Rp.loop_go HG.out.symm hgo.2.2))
              have HN32 := hid hgo.2.2
              obtain ⟨-, rfl, hn32⟩ := hgo
              clear HG HG2 HEQ0
              go_upto_region 44 with (fail)
              obtain ⟨c, hcd⟩ : ∃ c, c = Rp.num 1 (xs, false) := ⟨_, rfl⟩
              have lc : c.1 < 256 := by rw [hcd]; exact Rp.num_lt1 _
              have wrc : IntKind.i64.wrap (c.1 : Int) = (c.1 : Int) := IntWalk.i64_in _ (by omega)
              have hct := num37_any wr r 1 (xs, false) HB.out.rd (by omega)
              rw [← hcd] at hct
              have HCALL := hid hct
              have HC := hid hcd
              clear hct hcd
              go_upto_region 45 with (first | (go_at_call 37; refine HCALL.out.mono ?_; rintro e w5 ⟨rfl, hr, hm⟩; have HRM := hid (And.intro hr hm); clear hr hm) | fail)
              clear wrc HCALL
              have HB5 := hid (HB.out.read HRM.out.1 HRM.out.2)
              have hrq := HB.out.rp
              have HNR5 := hid (own_mod HNR.out (fun k hk => HRM.out.2.block k (own_lt HNR.out k hk).2 (by have := (own_lt HNR.out k hk).1; omega)))
              have HCR5 := hid (own_mod HCR.out (fun k hk => HRM.out.2.block k (own_lt HCR.out k hk).2 (by have := (own_lt HCR.out k hk).1; omega)))
              clear HB HNR HCR HRM hrq
              go_cut [10] from 240 (fun s10 wx => s10 = .bool (xok && Rp.cok 9 c.1) ∧ wx = w5)
              case first => as_aux_lemma =>
                cases xok with
                | false =>
                  go_wp2_with fail
                  go_meet
                  case rel => exact ⟨rfl, rfl⟩
                | true =>
                by_cases h2 : c.1 ≤ 2
                · have hd : decide ((c.1 : Int) ≤ 2) = true := decide_eq_true (by omega)
                  have hk : Rp.cok 9 c.1 = true := by simp [Rp.cok, h2]
                  have HOK := hid hk
                  clear h2 hk
                  go_wp2_with fail
                  go_meet
                  case rel => exact ⟨congrArg Value.bool (by rw [HOK.out]; rfl), rfl⟩
                · have hd : decide ((c.1 : Int) ≤ 2) = false := decide_eq_false (by omega)
                  by_cases h3 : c.1 = 128
                  · have hd3 : ((c.1 : Int) == 128) = true := by rw [beq_iff_eq]; omega
                    have hk : Rp.cok 9 c.1 = true := by simp [Rp.cok, h3]
                    have HOK := hid hk
                    clear h2 h3 hk
                    go_wp2_with fail
                    go_meet
                    case rel => exact ⟨congrArg Value.bool (by rw [HOK.out]; rfl), rfl⟩
                  · have hd3 : ((c.1 : Int) == 128) = false := by rw [beq_eq_false_iff_ne]; omega
                    have hk : Rp.cok 9 c.1 = false := by simp [Rp.cok, h2, h3]
                    have HOK := hid hk
                    clear h2 h3 hk
                    go_wp2_with fail
                    go_meet
                    case rel => exact ⟨congrArg Value.bool (by rw [HOK.out]; rfl), rfl⟩
              case rest =>
                obtain ⟨rfl, hwx⟩ := hcut
                rw [hwx]
                clear hwx
                have c11 : w5.cell? ⟨p, 11, none⟩ = some cv := HB5.out.pk.cell 11
                obtain ⟨a1, o1, rfl⟩ := own_form HCR5.out
                have HOA := hid (own_mod (w' := w5.alloc (.cells #[I c.1] 3)) HCR5.out (fun k hk => Below.heap_alloc w5 _ _ (own_lt HCR5.out k hk).2))
                have hp5 := HB5.out.lt
                go_wp2_with (at_builtin; go_must (refine wpList_app rfl (.tmp 199) (.tmp 201) 23 rfl (p + 1) 3 (I 0) 1 8 Try.underlying23 info3 rfl (by decide) xcs.length (xcs.map I) 1 [I c.1] HOA.out (Src.new w5 1 3 [I c.1] rfl (fun u hu => by obtain rfl := List.mem_singleton.1 hu; rfl)) ?h63 ?hb ?hbase ?_))
                case h63 => have := HCL.out; unfold maxLen; omega
                case hb => have := HCL.out; omega
                case hbase => simp; omega
                intro v6 w6 hown hgrow hat
                have hgr := HB5.out.grow HCR5.out HNR5.out (fun g h1 h2 => HDJ.out g h2 h1) (Mod.refl _ _) HB5.out.rd (.cells #[I c.1] 3) hown hgrow (hat.imp id (fun h => h.trans (by simp)))
                have HB6 := hid hgr.1
                have HNR6 := hid hgr.2.1
                have HDJ6 := hid hgr.2.2
                have HCR6 := hid hown
                have c11' : w6.cell? ⟨p, 11, none⟩ = some (.slice a1 xcs.length o1) := HB6.out.pk.cell 11
                have cf := HB6.out.pk.fr
                obtain ⟨a6, o6, rfl⟩ := own_form hown
                clear hgr hown hgrow hat c11 HOA HB5 HNR5 HCR5 HDJ hp5
                go_wp2_with fail
                go_roundw
                case measure => simp [intOf]; omega
                case rel => exact ⟨⟨xns, xcs ++ [(c.1 : Int)], xok && Rp.cok 9 c.1, xn + 1, c.2⟩, _, _, rfl, by go_num, by have := HN32.out; show xn + 1 ≤ 33; omega, hid ⟨HB6.out.set 11 _ (P' := { Pk.new 9 f with id := (i.1 : Nat) }) rfl, own_setCell_other HNR6.out (own_ge HNR6.out (show p < p + 1 by omega)) _, own_len (own_setCell_other HCR6.out (own_ge HCR6.out (show p < p + 1 by omega)) _) (by simp) (by rw [List.map_append]; rfl), (fun g h1 h2 => HDJ6.out g h2 h1), by have := HNL2.out; simp; omega, by have := HCL2.out; simp; omega, (by rw [HEQ1.out, HC.out]; rfl)⟩⟩
      · as_aux_lemma =>
        have HR := HRB
        clear HRB
        replace HX : Hid (X = Rp.eight 10 f s) := hid (HX.out.trans (by rfl))
        unfold Rp.eight at HX
        simp only at HX
        obtain ⟨i, hi⟩ : ∃ i, i = Rp.num 2 (s, false) := ⟨_, rfl⟩
        have li : i.1 < 65536 := by rw [hi]; exact Rp.num_lt2 _
        have wri : IntKind.i64.wrap (i.1 : Int) = (i.1 : Int) := IntWalk.i64_in _ (by omega)
        have hct := num37_any wr r 2 (s, false) HR.out.rd (by omega)
        rw [← hi] at hct HX
        have HCALL := hid hct
        clear hi hct
        go_upto_region 38 with (first | (go_at_call 37; refine HCALL.out.mono ?_; rintro e w1 ⟨rfl, hr, hm⟩; have HR1 := hid (HR.out.read hr hm); have cc : w1.cell? ⟨p, 2, none⟩ = some (I 0) := (HR.out.read hr hm).pk.cell 2; have cf := (HR.out.read hr hm).pk.fr; clear hr hm) | fail)
        have HR2 := hid (HR1.out.set 2 (I i.1) (P' := { Pk.new 10 f with id := (i.1 : Nat) }) (nv' := nil0) (cv' := nil0) rfl)
        clear HR HR1 HCALL cc cf
        generalize w1.setCell ⟨p, 2, none⟩ (I i.1) = w2 at *
        have HR := HR2
        clear HR2
        obtain ⟨Y, hY⟩ : ∃ Y, Y = Rp.loop 10 33 ⟨[], [], true, 0, i.2⟩ := ⟨_, rfl⟩
        rw [← hY] at HX
        have HY := hid hY
        clear hY
        go_wp2_with fail
        go_loopw [10, 11] (fun s10 s11 wr => ∃ (x : Rp.Lp) (nv cv : Value), s10 = .bool x.ok ∧ s11 = I x.n ∧ x.n ≤ 33 ∧ Hid (LI w wr r p q x { Pk.new 10 f with id := (i.1 : Nat) } nv cv 10 Y)) (fun _ s11 _ => 34 - (intOf s11).toNat)
        case atStart => exact ⟨⟨[], [], true, 0, i.2⟩, nil0, nil0, rfl, rfl, by simp, hid ⟨HR.out, World.ownsRow_nil _ _ _ _, World.ownsRow_nil _ _ _ _, (fun g hg => by cases hg), Nat.le_refl _, Nat.le_refl _, HY.out.symm⟩⟩
        case round =>
          clear HR HY
          obtain ⟨⟨xns, xcs, xok, xn, xs, xb⟩, nv, cv, rfl, rfl, hn, HL⟩ := hrel
          simp only at hn HL ⊢
          have HB := hid HL.out.rb
          have HNR := hid HL.out.nr
          have HCR := hid HL.out.cr
          have HDJ := hid HL.out.dj
          have HNL : Hid (xns.length ≤ 33) := hid (Nat.le_trans HL.out.nl hn)
          have HCL : Hid (xcs.length ≤ 33) := hid (Nat.le_trans HL.out.cl hn)
          have HNL2 : Hid (xns.length ≤ xn) := hid HL.out.nl
          have HCL2 : Hid (xcs.length ≤ xn) := hid HL.out.cl
          have HEQ0 := hid HL.out.eq
          simp only at HB HNR HCR HEQ0
          clear HL
          obtain ⟨G, hG⟩ : ∃ G, G = Rp.goes ⟨xns, xcs, xok, xn, xs, xb⟩ := ⟨_, rfl⟩
          have hG2 : G = (decide (xs ≠ []) && !xb && decide (xn ≤ 32)) := hG
          have HG := hid hG
          have HG2 := hid hG2
          clear hG hG2
          go_upto_region 39 with (fail)
          go_cut [168] from 240 (fun s168 wx => s168 = .bool G ∧ wx = wr)
          case first => as_aux_lemma =>
            have c0 := HB.out.rd.c0
            have c1 := HB.out.rd.c1
            simp only at c0 c1
            by_cases h0 : xs = []
            · have he := str_empty xs h0
              have HE : Hid (G = false) := hid (by rw [HG2.out]; simp [h0])
              clear h0
              go_wp2_with fail
              go_meet
              case rel => exact ⟨congrArg Value.bool HE.out.symm, rfl⟩
            have he := str_full xs h0
            cases xb with
            | true =>
              have HE : Hid (G = false) := hid (by rw [HG2.out]; simp)
              clear h0
              go_wp2_with fail
              go_meet
              case rel => exact ⟨congrArg Value.bool HE.out.symm, rfl⟩
            | false =>
            by_cases h32 : xn ≤ 32
            · have hd : decide ((xn : Int) ≤ 32) = true := decide_eq_true (by omega)
              have HE : Hid (G = true) := hid (by rw [HG2.out, decide_eq_true h32, decide_eq_true h0]; rfl)
              clear h0 h32
              go_wp2_with fail
              go_meet
              case rel => exact ⟨congrArg Value.bool HE.out.symm, rfl⟩
            · have hd : decide ((xn : Int) ≤ 32) = false := decide_eq_false (by omega)
              have HE : Hid (G = false) := hid (by rw [HG2.out, decide_eq_false h32]; simp)
              clear h0 h32
              go_wp2_with fail
              go_meet
              case rel => exact ⟨congrArg Value.bool HE.out.symm, rfl⟩
          case rest =>
            obtain ⟨rfl, hwx⟩ := hcut
            rw [hwx]
            clear hwx
            cases G with
            | false => as_aux_lemma =>
              have HYX : Hid ((⟨xns, xcs, xok, xn, xs, xb⟩ : Rp.Lp) = Y) := hid (by rw [← HEQ0.out]; exact (Rp.loop_stop HG.out.symm).symm)
              clear HG HG2 HEQ0
              have c2 : wr.cell? ⟨p, 2, none⟩ = some (I i.1) := HB.out.pk.cell 2
              cases xok with
              | false =>
                go_wp2_with fail
                go_meet
                case rel => exact ⟨false && decide (0 < i.1) && decide (1 ≤ xn) && decide (xn ≤ 32), (xs, xb), { Pk.new 10 f with id := (i.1 : Nat), names := xns, codes := xcs }, nv, cv, rfl, hid ⟨⟨HB.out.rd, HB.out.pk, HB.out.qk, HB.out.below, HB.out.lo, HB.out.qr, HB.out.rp⟩, HNR.out, HCR.out, (by rw [HX.out, ← HYX.out])⟩⟩
              | true =>
              by_cases h1 : 0 < i.1
              rotate_left
              · have hd : decide ((0 : Int) < (i.1 : Int)) = false := decide_eq_false (by omega)
                have hz : ¬ (0 : Int) < (i.1 : Int) := by omega
                have HD := hid (decide_eq_false h1)
                clear h1
                go_wp2_with fail
                go_meet
                case rel => exact ⟨true && decide (0 < i.1) && decide (1 ≤ xn) && decide (xn ≤ 32), (xs, xb), { Pk.new 10 f with id := (i.1 : Nat), names := xns, codes := xcs }, nv, cv, congrArg Value.bool (by rw [HD.out]; rfl), hid ⟨⟨HB.out.rd, HB.out.pk, HB.out.qk, HB.out.below, HB.out.lo, HB.out.qr, HB.out.rp⟩, HNR.out, HCR.out, (by rw [HX.out, ← HYX.out])⟩⟩
              have hd1 : decide ((0 : Int) < (i.1 : Int)) = true := decide_eq_true (by omega)
              have HD1 := hid (decide_eq_true h1)
              have hz1 : (0 : Int) < (i.1 : Int) := by omega
              clear h1
              by_cases h2 : 1 ≤ xn
              rotate_left
              · obtain rfl : xn = 0 := by omega
                clear h2
                go_wp2_with fail
                go_meet
                case rel => exact ⟨true && decide (0 < i.1) && decide (1 ≤ 0) && decide (0 ≤ 32), (xs, xb), { Pk.new 10 f with id := (i.1 : Nat), names := xns, codes := xcs }, nv, cv, congrArg Value.bool (by rw [HD1.out]; rfl), hid ⟨⟨HB.out.rd, HB.out.pk, HB.out.qk, HB.out.below, HB.out.lo, HB.out.qr, HB.out.rp⟩, HNR.out, HCR.out, (by rw [HX.out, ← HYX.out])⟩⟩
              have hd2 : decide ((1 : Int) ≤ (xn : Int)) = true := decide_eq_true (by omega)
              have HD2 := hid (decide_eq_true h2)
              have hz2 : (1 : Int) ≤ (xn : Int) := by omega
              clear h2
              go_wp2_with fail
              go_meet
              case rel => exact ⟨true && decide (0 < i.1) && decide (1 ≤ xn) && decide (xn ≤ 32), (xs, xb), { Pk.new 10 f with id := (i.1 : Nat), names := xns, codes := xcs }, nv, cv, congrArg Value.bool (by rw [HD2.out, HD1.out, Bool.true_and, Bool.true_and, Bool.true_and, decide_eq_decide] <;> omega), hid ⟨⟨HB.out.rd, HB.out.pk, HB.out.qk, HB.out.below, HB.out.lo, HB.out.qr, HB.out.rp⟩, HNR.out, HCR.out, (by rw [HX.out, ← HYX.out])⟩⟩
            | true => as_aux_lemma =>
              have hgo : xs ≠ [] ∧ xb = false ∧ xn ≤ 32 := by
                have h := HG2.out.symm
                simp only [Bool.and_eq_true, decide_eq_true_eq, Bool.not_eq_true'] at h
                exact ⟨h.1.1, h.1.2, h.2⟩
              have HEQ1 := hid (HEQ0.out.symm.trans (Rp.loop_go HG.out.symm hgo.2.2))
              have HN32 := hid hgo.2.2
              obtain ⟨-, rfl, hn32⟩ := hgo
              clear HG HG2 HEQ0
              go_upto_region 42 with (fail)
              have lp := HB.out.lt
              have k10 : ∀ w', KeepOne p wr.drew w' → w'.cell? ⟨p, 10, none⟩ = some nv := fun w' hh => by rw [World.cell?_of_block hh.1]; exact HB.out.drew.pk.cell 10
              have hfr : ∀ w', KeepOne p wr.drew w' → ∀ i, w'.frozen? ⟨p, i, none⟩ = false := fun w' hh => frozen_row (hh.1.trans HB.out.drew.pk)
              obtain ⟨t, ht⟩ : ∃ t, t = Rp.text (xs, false) := ⟨_, rfl⟩
              have hct := text36_any wr.drew r (xs, false) HB.out.drew.rd
              rw [← ht] at hct
              have hrp := HB.out.rp
              have HT := hid ht
              clear ht
              obtain ⟨a0, o0, rfl⟩ := own_form HNR.out
              refine wp_region_order (KeepOne p) [7] [(0,0),(1,0),(2,0),(3,1),(4,1),(5,1),(6,0),(7,2)] _ (by kernel_rfl) rfl KeepOne.refl KeepOne.trans (by kernel_rfl) (by simp only [pick, List.getElem?_toArray, List.getElem?_cons_zero, List.getElem?_cons_succ]; rfl) (fun c a d v w h => by cases d <;> exact h) ?_
              refine wpK_q (v := ?_) (a' := ?_) (by rfl) (fun w' hR => ?_) ?_ ?_
              rotate_left 2
              · go_simp; with_reducible rfl
              · simp only [Act.put, List.setIfInBounds_toArray, List.set_cons_zero, List.set_cons_succ]; rfl
              refine wpK_q (v := ?_) (a' := ?_) (by rfl) (fun w' hR => ?_) ?_ ?_
              rotate_left 2
              · go_simp; with_reducible rfl
              · simp only [Act.put, List.setIfInBounds_toArray, List.set_cons_zero, List.set_cons_succ]; rfl
              refine wpK_q (v := ?_) (a' := ?_) (by rfl) (fun w' hR => ?_) ?_ ?_
              rotate_left 2
              · go_simp; with_reducible rfl
              · simp only [Act.put, List.setIfInBounds_toArray, List.set_cons_zero, List.set_cons_succ]; rfl
              refine wpK_call Try.func36 (by kernel_rfl) rfl rfl (by rfl) #[.pointer (some ⟨r, 0, none⟩)] (by simp only [List.map_toArray, List.map_cons, List.map_nil]; rfl) ?_
              refine hct.mono ?_
              rintro e w1 ⟨rfl, hr, hm⟩
              refine ⟨_, rfl, fun _ => KeepOne.mod hm lp (by omega), ?_⟩
              refine wpK_v (v := .slice (some ⟨w1.heap.size, 0, none⟩) 1 1) (w' := w1.alloc (.cells #[S t.1] 9)) (by rfl) (by go_simp) (fun _ => KeepOne.alloc _ (Nat.lt_of_lt_of_le lp hm.size)) (by simp only [Act.put, List.setIfInBounds_toArray, List.set_cons_zero, List.set_cons_succ]; rfl) ?_
              have hms := hm.size
              have hown : (w1.alloc (.cells #[S t.1] 9)).ownsRow (p + 1) 9 1 (.slice a0 xns.length o0) xns.length (xns.map S) := own_mod HNR.out (fun k hk => (Below.heap_alloc w1 _ _ (Nat.lt_of_lt_of_le (own_lt HNR.out k hk).2 hm.size)).trans (hm.block k (own_lt HNR.out k hk).2 (by have := (own_lt HNR.out k hk).1; omega)))
              have hbase : p + 1 ≤ (w1.alloc (.cells #[S t.1] 9)).heap.size := by have h2 : p < wr.drew.heap.size := lp; simp; omega
              obtain ⟨v20, w3, hr3, ho3, hg3, hb3⟩ := run_app (P := Try.prog) (w1.alloc (.cells #[S t.1] 9)) (p + 1) 22 22 9 _ 1 16 Try.underlying22 info9 rfl (by decide) (.slice a0 xns.length o0) xns.length (xns.map S) hown _ 1 [S t.1] (Src.new w1 1 9 [S t.1] rfl (fun u hu => by obtain rfl := List.mem_singleton.1 hu; rfl)) (by have := HNL.out; unfold maxLen; omega) (by have := HNL.out; omega) hbase
              refine wpK_v (by rfl) (exec_append rfl _ (by simp only [List.map_toArray, List.map_cons, List.map_nil]; rfl) hr3) (fun _ => KeepOne.grown hg3 (by have h2 : p < wr.drew.heap.size := lp; simp; omega) (own_ge HNR.out (by omega))) (by simp only [Act.put, List.setIfInBounds_toArray, List.set_cons_zero, List.set_cons_succ]; rfl) ?_
              refine wpK_q (v := ?_) (a' := ?_) (by rfl) (fun w' hR => ?_) ?_ ?_
              rotate_left 2
              · go_simp; with_reducible rfl
              · simp only [Act.put, List.setIfInBounds_toArray, List.set_cons_zero, List.set_cons_succ]; rfl
              have hX : KeepOne p wr.drew w3 := KeepOne.trans _ _ _ (KeepOne.trans _ _ _ (KeepOne.mod hm lp (by omega)) (KeepOne.alloc _ (Nat.lt_of_lt_of_le lp hm.size))) (KeepOne.grown hg3 (by have h2 : p < wr.drew.heap.size := lp; simp; omega) (own_ge HNR.out (by omega)))
              obtain ⟨a20, o20, rfl⟩ := own_form ho3
              refine wpK_s (by rfl) rfl (exec_store rfl (vx := .pointer (some ⟨p, 10, none⟩)) (vy := .slice a20 (xns.length + 1) o20) rfl rfl (run_store1 (by kernel_rfl) rfl rfl (k10 _ hX) (hfr _ hX 10))) (fun h => by cases h) ?_
              refine wpK_done ?_
              have hgr := HB.out.drew.grow (own_mod (w' := wr.drew) HNR.out (fun _ _ => rfl)) (own_mod (w' := wr.drew) HCR.out (fun _ _ => rfl)) HDJ.out hm hr (.cells #[S t.1] 9) ho3 hg3 hb3
              have HB2 := hid (hgr.1.set 10 (.slice a20 (xns.length + 1) o20) (P' := { Pk.new 10 f with id := (i.1 : Nat) }) (nv' := .slice a20 (xns.length + 1) o20) (cv' := cv) rfl)
              have HNR2 := hid (own_setCell_other ho3 (own_ge ho3 (show p < p + 1 by omega)) (a := ⟨p, 10, none⟩) (.slice a20 (xns.length + 1) o20))
              have HCR2 := hid (own_setCell_other hgr.2.1 (own_ge hgr.2.1 (show p < p + 1 by omega)) (a := ⟨p, 10, none⟩) (.slice a20 (xns.length + 1) o20))
              have HDJ2 := hid hgr.2.2
              clear hgr hX hr3 ho3 hg3 hb3 hbase hown hms hm hr hct k10 hfr lp hrp HB HNR HCR HDJ
              generalize w3.setCell ⟨p, 10, none⟩ (.slice a20 (xns.length + 1) o20) = wn at *
              have HB := HB2
              have HNR := hid (own_len HNR2.out (m := (xns ++ [t.1]).length) (ys := (xns ++ [t.1]).map S) (by simp) (by rw [List.map_append]; rfl))
              have HCR := HCR2
              have HDJ := HDJ2
              clear HB2 HNR2 HCR2 HDJ2
              go_wp2_with fail
              go_roundw
              case measure => simp [intOf]; omega
              case rel => exact ⟨⟨xns ++ [t.1], xcs, xok, xn + 1, t.2⟩, _, _, rfl, by go_num, by have := HN32.out; show xn + 1 ≤ 33; omega, hid ⟨HB.out, HNR.out, HCR.out, HDJ.out, by have := HNL2.out; simp; omega, by have := HCL2.out; show xcs.length ≤ xn + 1; omega, (by rw [HEQ1.out, HT.out]; rfl)⟩⟩
end Go.Proofs.Ytnljmllkfmgclaa
