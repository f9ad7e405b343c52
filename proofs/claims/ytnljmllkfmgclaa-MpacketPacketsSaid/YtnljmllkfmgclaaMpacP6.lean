/-
  THE PROGRAM: body, of the kind 2. Conditions: those that each contract names.
-/
import Derived.Test.YtnljmllkfmgclaaMpacP5
namespace Go.Proofs.Ytnljmllkfmgclaa
open Go.RowKit
set_option linter.unusedVariables false
set_option linter.unusedSimpArgs false

/-- Block b stays. -/
def KeepOne (b : Nat) (w w' : World) : Prop := w'.heap[b]? = w.heap[b]? ∧ w.heap.size ≤ w'.heap.size
theorem KeepOne.refl {b : Nat} (w : World) : KeepOne b w w := ⟨rfl, Nat.le_refl _⟩
theorem KeepOne.trans {b : Nat} (w w' w'' : World) (h : KeepOne b w w') (k : KeepOne b w' w'') : KeepOne b w w'' := ⟨k.1.trans h.1, Nat.le_trans h.2 k.2⟩
theorem KeepOne.set {b : Nat} {w : World} {a : Addr} {v : Value} (h : b ≠ a.block) : KeepOne b w (w.setCell a v) := ⟨heap_setCell_other w a b v h, by simp⟩
theorem KeepOne.mod {b : Nat} {own : Nat → Prop} {w w' : World} (h : Mod own w w') (hb : b < w.heap.size) (ho : ¬ own b) : KeepOne b w w' := ⟨h.block b hb ho, h.size⟩
/-- Behind the box's laying: the box, the reader and the packet, as they were. -/
structure Boxed (w wa : World) (b r p : Nat) (s : List UInt8) (P : Pk) (nv cv : Value) : Prop where
  box : BoxIn wa b p
  rd : RdIn wa r s
  pk : PIn wa p P nv cv
  mod : Mod (fun k => k = r ∨ k = p) w wa
  br : b ≠ r
  bp : b ≠ p
  lt : b < wa.heap.size
  new : w.heap.size ≤ b
theorem boxed {w : World} {r p : Nat} {s : List UInt8} {P : Pk} {nv cv : Value} (h : RdIn w r s) (hp : PIn w p P nv cv) : Boxed w (w.alloc (.cells #[.pointer (some ⟨p, 0, none⟩)] 53)) w.heap.size r p s P nv cv := by
  have hB : Below w.heap.size w (w.alloc (.cells #[.pointer (some ⟨p, 0, none⟩)] 53)) := (Below.refl _ _).alloc (Nat.le_refl _) _
  have h1 := h.lt
  have h2 := hp.lt
  have hx : BoxIn (w.alloc (.cells #[.pointer (some ⟨p, 0, none⟩)] 53)) w.heap.size p := heap_alloc_new w _
  exact ⟨hx, h.below hB, hp.below hB, Mod.of_below _ hB, by omega, by omega, hx.lt, Nat.le_refl _⟩
theorem Boxed.drew {w wa : World} {b r p : Nat} {s : List UInt8} {P : Pk} {nv cv : Value} (h : Boxed w wa b r p s P nv cv) : Boxed w wa.drew b r p s P nv cv :=
  ⟨h.box.keep rfl, h.rd.keep rfl, h.pk.keep rfl, h.mod.trans (Mod.drew wa), h.br, h.bp, h.lt, h.new⟩
/-- Behind a reading. -/
theorem Boxed.read {w wa wb : World} {b r p : Nat} {s t : List UInt8} {P : Pk} {nv cv : Value} (h : Boxed w wa b r p s P nv cv) (hrp : r ≠ p) (hm : Mod (fun k => k = r) wa wb) (hr : RdIn wb r t) : Boxed w wb b r p t P nv cv :=
  ⟨h.box.mod hm h.br, hr, h.pk.mod hm (Ne.symm hrp), h.mod.trans hm.rp, h.br, h.bp, Nat.lt_of_lt_of_le h.lt hm.size, h.new⟩
/-- Behind a store into the packet. -/
theorem Boxed.set {w wa : World} {b r p : Nat} {s : List UInt8} {P : Pk} {nv cv : Value} (h : Boxed w wa b r p s P nv cv) (hrp : r ≠ p) (i : Nat) (u : Value) {P' : Pk} {nv' cv' : Value} (e : (pkCells P nv cv).setIfInBounds i u = pkCells P' nv' cv') : Boxed w (wa.setCell ⟨p, i, none⟩ u) b r p s P' nv' cv' :=
  ⟨h.box.keep (heap_setCell_other _ ⟨p, i, none⟩ b _ h.bp), h.rd.keep (heap_setCell_other _ ⟨p, i, none⟩ r _ hrp), h.pk.set i u e, h.mod.trans (Mod.set (.inr rfl)), h.br, h.bp, by simpa using h.lt, h.new⟩
theorem Boxed.keep {w wa : World} {b r p : Nat} {s : List UInt8} {P : Pk} {nv cv : Value} (h : Boxed w wa b r p s P nv cv) : ∀ w', KeepOne b wa w' → w'.cell? ⟨b, 0, none⟩ = some (.pointer (some ⟨p, 0, none⟩)) := fun w' hh => (h.box.keep hh.1).cell
theorem Boxed.step {w wa wb : World} {b r p : Nat} {s : List UInt8} {P : Pk} {nv cv : Value} (h : Boxed w wa b r p s P nv cv) (hm : Mod (fun k => k = r) wa wb) : KeepOne b wa wb := KeepOne.mod hm h.lt h.br
set_option maxRecDepth 100000 in
set_option maxHeartbeats 3200000 in
theorem body_2 (w : World) (r p f : Nat) (s : List UInt8) (h : RdIn w r s) (hp : PIn w p (Pk.new 2 f) nil0 nil0) (hrp : r ≠ p) : Calls Try.prog 24 #[.pointer (some ⟨r, 0, none⟩), .pointer (some ⟨p, 0, none⟩)] w (GotB w r p (Mp.body 2 f s)) := by
  obtain ⟨O, hO⟩ : ∃ O, O = Mp.body 2 f s := ⟨_, rfl⟩
  rw [← hO]
  have hO2 : O = (Mp.byte s).bind fun a => (Mp.byte a.2).bind fun c => if a.1 ≤ 1 ∧ c.1 ≤ 5 ∧ c.2 = [] then some { Pk.new 2 f with keep := a.1, code := c.1 } else none := hO
  have HO := hid hO2
  clear hO hO2
  have c0 : w.cell? ⟨p, 0, none⟩ = some (I 2) := hp.cell 0
  have lp := hp.lt
  have HB := hid (boxed h hp)
  clear h hp
  go_enter Try.func24, Try.ntmps24
  go_wp2_with fail
  obtain ⟨wa, hwa⟩ : ∃ wa, wa = w.alloc (.cells #[.pointer (some ⟨p, 0, none⟩)] 53) := ⟨_, rfl⟩
  obtain ⟨b, hb⟩ : ∃ b, b = w.heap.size := ⟨_, rfl⟩
  rw [← hwa, ← hb] at HB
  rw [← hwa, ← hb]
  clear c0 lp hwa hb
  have hbp := HB.out.bp
  have HD := hid HB.out.drew
  have kb := HB.out.drew.keep
  clear HB
  cases s with
  | nil =>
    refine wp_region_order (KeepOne b) [] [(0,0),(1,0),(2,0),(4,0),(3,1),(5,1),(6,0),(7,0),(8,1),(9,0),(10,0),(11,1)] _ (by kernel_rfl) rfl KeepOne.refl KeepOne.trans (by kernel_rfl) (by simp only [pick, List.getElem?_toArray, List.getElem?_cons_zero, List.getElem?_cons_succ]; rfl) (fun c a d v w h => by cases d <;> exact h) ?_
    refine wpK_q (v := ?_) (a' := ?_) (by rfl) (fun w' hR => ?_) ?_ ?_
    rotate_left 2
    · go_simp; with_reducible rfl
    · simp only [Act.put, List.setIfInBounds_toArray, List.set_cons_zero, List.set_cons_succ]; rfl
    refine wpK_q (v := ?_) (a' := ?_) (by rfl) (fun w' hR => ?_) ?_ ?_
    rotate_left 2
    · go_simp; with_reducible rfl
    · simp only [Act.put, List.setIfInBounds_toArray, List.set_cons_zero, List.set_cons_succ]; rfl
    refine wpK_q (v := ?_) (a' := ?_) (by rfl) (fun w' hR => ?_) ?_ ?_
    rotate_left 2
    · go_simp; with_reducible rfl
    · simp only [Act.put, List.setIfInBounds_toArray, List.set_cons_zero, List.set_cons_succ]; rfl
    refine wpK_q (v := ?_) (a' := ?_) (by rfl) (fun w' hR => ?_) ?_ ?_
    rotate_left 2
    · go_simp; with_reducible rfl
    · simp only [Act.put, List.setIfInBounds_toArray, List.set_cons_zero, List.set_cons_succ]; rfl
    refine wpK_callp Try.func30 (by kernel_rfl) rfl rfl (by rfl) #[.pointer (some ⟨r, 0, none⟩)] (by simp only [List.map_toArray, List.map_cons, List.map_nil]; rfl) ?_
    refine (byte_any _ r [] HD.out.rd).mono ?_
    intro e w1 hg
    obtain ⟨rfl, hm⟩ := hg.gone rfl
    refine ⟨_, rfl, ?_⟩
    exact And.intro rfl (GotB.no (HD.out.mod.trans hm.rp) (HD.out.pk.mod hm (Ne.symm hrp)) HO.out)
  | cons x s1 =>
    have hB1 : Mp.byte (x :: s1) = some (x.toNat, s1) := rfl
    rw [hB1, Option.bind_some] at HO
    cases s1 with
    | nil =>
      refine wp_region_order (KeepOne b) [] [(0,0),(1,0),(2,0),(4,0),(3,1),(5,1),(6,0),(7,0),(8,1),(9,0),(10,0),(11,1)] _ (by kernel_rfl) rfl KeepOne.refl KeepOne.trans (by kernel_rfl) (by simp only [pick, List.getElem?_toArray, List.getElem?_cons_zero, List.getElem?_cons_succ]; rfl) (fun c a d v w h => by cases d <;> exact h) ?_
      refine wpK_q (v := ?_) (a' := ?_) (by rfl) (fun w' hR => ?_) ?_ ?_
      rotate_left 2
      · go_simp; with_reducible rfl
      · simp only [Act.put, List.setIfInBounds_toArray, List.set_cons_zero, List.set_cons_succ]; rfl
      refine wpK_q (v := ?_) (a' := ?_) (by rfl) (fun w' hR => ?_) ?_ ?_
      rotate_left 2
      · go_simp; with_reducible rfl
      · simp only [Act.put, List.setIfInBounds_toArray, List.set_cons_zero, List.set_cons_succ]; rfl
      refine wpK_q (v := ?_) (a' := ?_) (by rfl) (fun w' hR => ?_) ?_ ?_
      rotate_left 2
      · go_simp; with_reducible rfl
      · simp only [Act.put, List.setIfInBounds_toArray, List.set_cons_zero, List.set_cons_succ]; rfl
      refine wpK_q (v := ?_) (a' := ?_) (by rfl) (fun w' hR => ?_) ?_ ?_
      rotate_left 2
      · go_simp; with_reducible rfl
      · simp only [Act.put, List.setIfInBounds_toArray, List.set_cons_zero, List.set_cons_succ]; rfl
      refine wpK_call Try.func30 (by kernel_rfl) rfl rfl (by rfl) #[.pointer (some ⟨r, 0, none⟩)] (by simp only [List.map_toArray, List.map_cons, List.map_nil]; rfl) ?_
      refine (byte_any _ r [x] HD.out.rd).mono ?_
      intro e w1 hg
      obtain ⟨rfl, hr, hm⟩ := hg.has (v := I x.toNat) (t := []) rfl
      refine ⟨_, rfl, fun _ => HD.out.step hm, ?_⟩
      refine wpK_callp Try.func30 (by kernel_rfl) rfl rfl (by rfl) #[.pointer (some ⟨r, 0, none⟩)] (by simp only [List.map_toArray, List.map_cons, List.map_nil]; rfl) ?_
      refine (byte_any _ r [] hr).mono ?_
      intro e w2 hg2
      obtain ⟨rfl, hm2⟩ := hg2.gone rfl
      refine ⟨_, rfl, ?_⟩
      exact And.intro rfl (GotB.no ((HD.out.mod.trans hm.rp).trans hm2.rp) ((HD.out.pk.mod hm (Ne.symm hrp)).mod hm2 (Ne.symm hrp)) HO.out)
    | cons y t =>
      have hB2 : Mp.byte (y :: t) = some (y.toNat, t) := rfl
      rw [hB2, Option.bind_some] at HO
      refine wp_region_order (KeepOne b) [] [(0,0),(1,0),(2,0),(4,0),(3,1),(5,1),(6,0),(7,0),(8,1),(9,0),(10,0),(11,1)] _ (by kernel_rfl) rfl KeepOne.refl KeepOne.trans (by kernel_rfl) (by simp only [pick, List.getElem?_toArray, List.getElem?_cons_zero, List.getElem?_cons_succ]; rfl) (fun c a d v w h => by cases d <;> exact h) ?_
      refine wpK_q (v := ?_) (a' := ?_) (by rfl) (fun w' hR => ?_) ?_ ?_
      rotate_left 2
      · go_simp; with_reducible rfl
      · simp only [Act.put, List.setIfInBounds_toArray, List.set_cons_zero, List.set_cons_succ]; rfl
      refine wpK_q (v := ?_) (a' := ?_) (by rfl) (fun w' hR => ?_) ?_ ?_
      rotate_left 2
      · go_simp; with_reducible rfl
      · simp only [Act.put, List.setIfInBounds_toArray, List.set_cons_zero, List.set_cons_succ]; rfl
      refine wpK_q (v := ?_) (a' := ?_) (by rfl) (fun w' hR => ?_) ?_ ?_
      rotate_left 2
      · go_simp; with_reducible rfl
      · simp only [Act.put, List.setIfInBounds_toArray, List.set_cons_zero, List.set_cons_succ]; rfl
      refine wpK_q (v := ?_) (a' := ?_) (by rfl) (fun w' hR => ?_) ?_ ?_
      rotate_left 2
      · go_simp; with_reducible rfl
      · simp only [Act.put, List.setIfInBounds_toArray, List.set_cons_zero, List.set_cons_succ]; rfl
      refine wpK_call Try.func30 (by kernel_rfl) rfl rfl (by rfl) #[.pointer (some ⟨r, 0, none⟩)] (by simp only [List.map_toArray, List.map_cons, List.map_nil]; rfl) ?_
      refine (byte_any _ r (x :: y :: t) HD.out.rd).mono ?_
      intro e w1 hg
      obtain ⟨rfl, hr, hm⟩ := hg.has (v := I x.toNat) (t := y :: t) rfl
      have HD1 := hid (HD.out.read hrp hm hr)
      refine ⟨_, rfl, fun _ => HD.out.step hm, ?_⟩
      refine wpK_call Try.func30 (by kernel_rfl) rfl rfl (by rfl) #[.pointer (some ⟨r, 0, none⟩)] (by simp only [List.map_toArray, List.map_cons, List.map_nil]; rfl) ?_
      refine (byte_any _ r (y :: t) hr).mono ?_
      intro e w2 hg2
      obtain ⟨rfl, hr2, hm2⟩ := hg2.has (v := I y.toNat) (t := t) rfl
      have HD2 := hid (HD1.out.read hrp hm2 hr2)
      refine ⟨_, rfl, fun _ => HD1.out.step hm2, ?_⟩
      clear hg hg2 hm hm2 hr hr2 HD HD1
      have hp2 := HD2.out.pk
      refine wpK_q (v := ?_) (a' := ?_) (by rfl) (fun w' hR => ?_) ?_ ?_
      rotate_left 2
      · go_simp; with_reducible rfl
      · simp only [Act.put, List.setIfInBounds_toArray, List.set_cons_zero, List.set_cons_succ]; rfl
      refine wpK_q (v := ?_) (a' := ?_) (by rfl) (fun w' hR => ?_) ?_ ?_
      rotate_left 2
      · go_simp; with_reducible rfl
      · simp only [Act.put, List.setIfInBounds_toArray, List.set_cons_zero, List.set_cons_succ]; rfl
      refine wpK_s (by rfl) rfl (exec_store rfl (vx := .pointer (some ⟨p, 6, none⟩)) (vy := I _) rfl rfl (run_store1 (u := I 0) (by kernel_rfl) rfl rfl (hp2.cell 6) (hp2.fr 6))) (fun _ => KeepOne.set hbp) ?_
      have HD3 := hid (HD2.out.set hrp 6 (I x.toNat) (P' := { Pk.new 2 f with keep := x.toNat }) (nv' := nil0) (cv' := nil0) rfl)
      have hp3 := HD3.out.pk
      refine wpK_q (v := ?_) (a' := ?_) (by rfl) (fun w' hR => ?_) ?_ ?_
      rotate_left 2
      · go_simp; with_reducible rfl
      · simp only [Act.put, List.setIfInBounds_toArray, List.set_cons_zero, List.set_cons_succ]; rfl
      refine wpK_q (v := ?_) (a' := ?_) (by rfl) (fun w' hR => ?_) ?_ ?_
      rotate_left 2
      · go_simp; with_reducible rfl
      · simp only [Act.put, List.setIfInBounds_toArray, List.set_cons_zero, List.set_cons_succ]; rfl
      refine wpK_s (by rfl) rfl (exec_store rfl (vx := .pointer (some ⟨p, 3, none⟩)) (vy := I _) rfl rfl (run_store1 (u := I 0) (by kernel_rfl) rfl rfl (hp3.cell 3) (hp3.fr 3))) (fun _ => KeepOne.set hbp) ?_
      have HD4 := hid (HD3.out.set hrp 3 (I y.toNat) (P' := { Pk.new 2 f with keep := x.toNat, code := y.toNat }) (nv' := nil0) (cv' := nil0) rfl)
      refine wpK_done ?_
      clear hp2 hp3 HD2 HD3 kb
      generalize (w2.setCell ⟨p, 6, none⟩ (I x.toNat)).setCell ⟨p, 3, none⟩ (I y.toNat) = w4 at *
      have cb := HD4.out.box.cell
      have c6 : w4.cell? ⟨p, 6, none⟩ = some (I x.toNat) := HD4.out.pk.cell 6
      have c3 : w4.cell? ⟨p, 3, none⟩ = some (I y.toNat) := HD4.out.pk.cell 3
      have cr := HD4.out.rd.c0
      by_cases hA : x.toNat ≤ 1
      rotate_left
      · rw [if_neg (by intro hh; exact hA hh.1)] at HO
        have hd : decide ((x.toNat : Int) ≤ 1) = false := decide_eq_false (by omega)
        clear hA
        go_wp2_with (first | (go_at_call 21; refine (unless_no _).mono ?_; rintro e w2 ⟨rfl, rfl⟩) | fail)
        exact And.intro rfl (GotB.no HD4.out.mod HD4.out.pk HO.out)
      have hd : decide ((x.toNat : Int) ≤ 1) = true := decide_eq_true (by omega)
      by_cases hC : y.toNat ≤ 5
      rotate_left
      · rw [if_neg (by intro hh; exact hC hh.2.1)] at HO
        have hd2 : decide ((y.toNat : Int) ≤ 5) = false := decide_eq_false (by omega)
        clear hA hC
        go_wp2_with (first | (go_at_call 21; refine (unless_no _).mono ?_; rintro e w2 ⟨rfl, rfl⟩) | fail)
        exact And.intro rfl (GotB.no HD4.out.mod HD4.out.pk HO.out)
      have hd2 : decide ((y.toNat : Int) ≤ 5) = true := decide_eq_true (by omega)
      by_cases ht : t = []
      · rw [if_pos ⟨hA, hC, ht⟩] at HO
        have he := str_empty t ht
        clear ht hA hC
        go_wp2_with (first | (go_at_call 21; refine (unless_ok _).mono ?_; rintro e w2 ⟨rfl, rfl⟩) | fail)
        ((try simp only [Exit.inBlock, Exit.then]); first | refine bodyPost_end (results_none rfl _ _ _) rfl ?_ | refine bodyPost_ret (results_none rfl _ _ _) rfl ?_)
        exact GotB.yes HD4.out.mod HO.out (PkIn.plain HD4.out.pk rfl rfl)
      · rw [if_neg (by intro hh; exact ht hh.2.2)] at HO
        have he := str_full t ht
        clear ht hA hC
        go_wp2_with (first | (go_at_call 21; refine (unless_ok _).mono ?_; rintro e w2 ⟨rfl, rfl⟩) | (go_at_call 21; refine (unless_no _).mono ?_; rintro e w2 ⟨rfl, rfl⟩) | fail)
        exact And.intro rfl (GotB.no HD4.out.mod HD4.out.pk HO.out)
end Go.Proofs.Ytnljmllkfmgclaa
