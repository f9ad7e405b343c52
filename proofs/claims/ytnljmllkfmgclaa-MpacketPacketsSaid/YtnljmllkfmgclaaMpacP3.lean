/-
  THE PROGRAM: connect. Conditions: those that each contract names.
-/
import Derived.Test.YtnljmllkfmgclaaMpacP2
namespace Go.Proofs.Ytnljmllkfmgclaa
open Go.RowKit
set_option linter.unusedVariables false
set_option linter.unusedSimpArgs false

theorem Got.cases {w w' : World} {r : Nat} {α : Type} {o : Option (α × List UInt8)} {f : α → Value} {e : Ending} (h : Got w r (o.map fun x => (f x.1, x.2)) e w') :
    (o = none ∧ e = .panicked gave ∧ Mod (fun k => k = r) w w') ∨ ∃ a t, o = some (a, t) ∧ e = .returned (f a) ∧ RdIn w' r t ∧ Mod (fun k => k = r) w w' := by
  cases o with
  | none => exact .inl ⟨rfl, h.2, h.1⟩
  | some x => exact .inr ⟨x.1, x.2, rfl, h.2.1, h.2.2, h.1⟩
theorem Got.text {w w' : World} {r : Nat} {s : List UInt8} {e : Ending} (h : Got w r ((Mp.text s).map fun x => (S x.1, x.2)) e w') :
    (Mp.text s = none ∧ e = .panicked gave ∧ Mod (fun k => k = r) w w') ∨ ∃ a t, Mp.text s = some (a, t) ∧ e = .returned (S a) ∧ RdIn w' r t ∧ Mod (fun k => k = r) w w' := Got.cases (f := S) h
theorem Got.int {w w' : World} {r : Nat} {o : Option (Nat × List UInt8)} {e : Ending} (h : Got w r (o.map fun x => (I x.1, x.2)) e w') :
    (o = none ∧ e = .panicked gave ∧ Mod (fun k => k = r) w w') ∨ ∃ (a : Nat) (t : List UInt8), o = some (a, t) ∧ e = .returned (I a) ∧ RdIn w' r t ∧ Mod (fun k => k = r) w w' := Got.cases (f := fun (n : Nat) => I n) h
/-- A packet's cells. -/
def pkCells (P : Pk) (nv cv : Value) : Array Value := #[I P.kind, I P.flags, I P.id, I P.code, S P.name, S P.text, I P.keep, .bool P.will, S P.topic, .bool P.clean, nv, cv]
/-- The packet at block p. -/
def PIn (w : World) (p : Nat) (P : Pk) (nv cv : Value) : Prop := w.heap[p]? = some (.cells (pkCells P nv cv) 25 (0, 0))
section
variable {w w' : World} {p : Nat} {P : Pk} {nv cv : Value}
theorem PIn.lt (h : PIn w p P nv cv) : p < w.heap.size := (Array.getElem?_eq_some_iff.1 h).1
theorem PIn.keep (h : PIn w p P nv cv) (hb : w'.heap[p]? = w.heap[p]?) : PIn w' p P nv cv := hb.trans h
theorem PIn.below (h : PIn w p P nv cv) (hb : Below w.heap.size w w') : PIn w' p P nv cv := h.keep (hb.block p h.lt)
theorem PIn.mod {own : Nat → Prop} (h : PIn w p P nv cv) (hm : Mod own w w') (ho : ¬ own p) : PIn w' p P nv cv := h.keep (hm.block p h.lt ho)
theorem PIn.cell (h : PIn w p P nv cv) (i : Nat) : w.cell? ⟨p, i, none⟩ = (pkCells P nv cv)[i]? := by rw [cell_of_row w p _ _ _ _ h]
theorem PIn.fr (h : PIn w p P nv cv) : ∀ i, w.frozen? ⟨p, i, none⟩ = false := frozen_row h
theorem PIn.set (h : PIn w p P nv cv) (i : Nat) (u : Value) {P' : Pk} {nv' cv' : Value} (e : (pkCells P nv cv).setIfInBounds i u = pkCells P' nv' cv') : PIn (w.setCell ⟨p, i, none⟩ u) p P' nv' cv' := by
  unfold PIn
  rw [heap_setCell_same w p i _ _ u h, e]
end
theorem andC (m : Int) (f : Nat → Nat) (h : ∀ x : Fin 256, Go.bits .and .i64 ((x.val : Nat) : Int) m = ((f x.val : Nat) : Int)) (c : Nat) (hc : c < 256) : Go.bits .and .i64 (c : Int) m = ((f c : Nat) : Int) := h ⟨c, hc⟩
theorem and4 (c : Nat) (h : c < 256) : Go.bits .and .i64 (c : Int) 4 = ((c / 4 % 2 * 4 : Nat) : Int) := andC 4 (fun c => c / 4 % 2 * 4) (by decide +kernel) c h
theorem and2 (c : Nat) (h : c < 256) : Go.bits .and .i64 (c : Int) 2 = ((c / 2 % 2 * 2 : Nat) : Int) := andC 2 (fun c => c / 2 % 2 * 2) (by decide +kernel) c h
theorem and193 (c : Nat) (h : c < 256) : Go.bits .and .i64 (c : Int) 193 = ((c / 64 * 64 + c % 2 : Nat) : Int) := andC 193 (fun c => c / 64 * 64 + c % 2) (by decide +kernel) c h
theorem and56 (c : Nat) (h : c < 256) : Go.bits .and .i64 (c : Int) 56 = ((c / 8 % 8 * 8 : Nat) : Int) := andC 56 (fun c => c / 8 % 8 * 8) (by decide +kernel) c h
theorem and3' (c : Nat) (h : c < 256) : Go.bits .and .i64 ((c : Int) / 8) 3 = ((c / 8 % 4 : Nat) : Int) := by
  have : ∀ m : Fin 256, Go.bits .and .i64 (((m.val : Nat) : Int) / 8) 3 = ((m.val / 8 % 4 : Nat) : Int) := by decide +kernel
  exact this ⟨c, h⟩
theorem byte_lt {s t : List UInt8} {n : Nat} (h : Mp.byte s = some (n, t)) : n < 256 := by
  obtain ⟨b, -, rfl⟩ := Mp.byte_len h
  exact b.toNat_lt
/-- What a reading into a packet comes to. -/
def GotP (w : World) (r p : Nat) (nv cv : Value) (o : Option (Pk × List UInt8)) (e : Ending) (w' : World) : Prop :=
  Mod (fun k => k = r ∨ k = p) w w' ∧ match o with
  | none => e = .panicked gave ∧ ∃ P' nv' cv', PIn w' p P' nv' cv'
  | some x => e = .returned (.tuple #[]) ∧ RdIn w' r x.2 ∧ PIn w' p x.1 nv cv
theorem GotP.no {w w' : World} {r p : Nat} {nv cv : Value} {o : Option (Pk × List UInt8)} (hm : Mod (fun k => k = r ∨ k = p) w w') {P' : Pk} {nv' cv' : Value} (hp : PIn w' p P' nv' cv') (ho : o = none) : GotP w r p nv cv o (.panicked gave) w' := by
  subst ho
  exact ⟨hm, rfl, _, _, _, hp⟩
theorem GotP.yes {w w' : World} {r p : Nat} {nv cv : Value} {o : Option (Pk × List UInt8)} {P : Pk} {t : List UInt8} (hm : Mod (fun k => k = r ∨ k = p) w w') (ho : o = some (P, t)) (hr : RdIn w' r t) (hp : PIn w' p P nv cv) : GotP w r p nv cv o (.returned (.tuple #[])) w' := by
  subst ho
  exact ⟨hm, rfl, hr, hp⟩
theorem Mod.rp {r p : Nat} {w w' : World} (h : Mod (fun k => k = r) w w') : Mod (fun k => k = r ∨ k = p) w w' := h.mono (fun i _ hi => .inl hi)
/-- Cell i of block p stays. -/
def KeepP (p i : Nat) (w w' : World) : Prop := w'.cell? ⟨p, i, none⟩ = w.cell? ⟨p, i, none⟩
theorem KeepP.refl {p i : Nat} (w : World) : KeepP p i w w := rfl
theorem KeepP.trans {p i : Nat} (w w' w'' : World) (h : KeepP p i w w') (k : KeepP p i w' w'') : KeepP p i w w'' := Eq.trans k h
theorem KeepP.set {p i q j : Nat} {w : World} {v : Value} (h : q ≠ p ∨ j ≠ i) : KeepP p i w (w.setCell ⟨q, j, none⟩ v) := World.cell?_setCell_other _ _ _ _ (by intro e; simp only [Addr.mk.injEq] at e; omega)
set_option maxRecDepth 100000 in
set_option maxHeartbeats 3200000 in
theorem connect_any (w : World) (r p : Nat) (s : List UInt8) (P : Pk) (nv cv : Value) (h : RdIn w r s) (hp : PIn w p P nv cv) (hrp : r ≠ p) : Calls Try.prog 29 #[.pointer (some ⟨r, 0, none⟩), .pointer (some ⟨p, 0, none⟩)] w (GotP w r p nv cv (Mp.connect P s)) := by
  obtain ⟨O, hO⟩ : ∃ O, O = Mp.connect P s := ⟨_, rfl⟩
  rw [← hO]
  unfold Mp.connect at hO
  have HO := hid hO
  have HR := hid h
  have HP := hid hp
  clear h hp hO
  go_enter Try.func29, Try.ntmps29
  go_wp2_with fail
  refine (text_any _ r s HR.out).mono ?_
  intro e w1 hg
  rcases hg.text with ⟨hk, rfl, hm⟩ | ⟨a, s1, hk, rfl, hr, hm⟩
  · refine ⟨rfl, GotP.no hm.rp (HP.out.mod hm (Ne.symm hrp)) ?_⟩
    rw [HO.out, hk]
    rfl
  have HR1 := hid hr
  have HM1 : Hid (Mod (fun k => k = r ∨ k = p) w w1) := hid hm.rp
  have HP1 := hid (HP.out.mod hm (Ne.symm hrp))
  rw [hk, Option.bind_some] at HO
  clear hg hr hm hk HR HP
  by_cases ha : a = Mp.mqtt
  rotate_left
  · rw [if_pos ha] at HO
    have hne : ((str a).toList == ([77, 81, 84, 84] : List UInt8)) = false := by
      rw [str_toList, beq_eq_false_iff_ne]; exact ha
    clear ha
    go_wp2_with (go_at_call 21; refine (unless_no _).mono ?_; rintro e w2 ⟨rfl, rfl⟩)
    exact ⟨rfl, GotP.no HM1.out HP1.out HO.out⟩
  subst ha
  rw [if_neg (by simp)] at HO
  have heq : ((str Mp.mqtt).toList == ([77, 81, 84, 84] : List UInt8)) = true := by rw [str_toList]; rfl
  go_wp2_with fail
  refine (byte_any _ r s1 HR1.out).mono ?_
  intro e w2 hg
  rcases hg.int with ⟨hk, rfl, hm⟩ | ⟨v, s2, hk, rfl, hr, hm⟩
  · refine ⟨rfl, GotP.no (HM1.out.trans hm.rp) (HP1.out.mod hm (Ne.symm hrp)) ?_⟩
    rw [HO.out, hk]
    rfl
  have HR2 := hid hr
  have HM2 : Hid (Mod (fun k => k = r ∨ k = p) w w2) := hid (HM1.out.trans hm.rp)
  have HP2 := hid (HP1.out.mod hm (Ne.symm hrp))
  rw [hk, Option.bind_some] at HO
  clear hg hr hm hk HR1 HP1 HM1
  by_cases hv : v = 4
  rotate_left
  · rw [if_pos hv] at HO
    have hne : ((v : Int) == 4) = false := by rw [beq_eq_false_iff_ne]; omega
    clear hv
    go_wp2_with (go_at_call 21; refine (unless_no _).mono ?_; rintro e w2 ⟨rfl, rfl⟩)
    exact ⟨rfl, GotP.no HM2.out HP2.out HO.out⟩
  subst hv
  rw [if_neg (by simp)] at HO
  go_wp2_with (first | (go_at_call 21; refine (unless_ok _).mono ?_; rintro e w2 ⟨rfl, rfl⟩) | fail)
  refine (byte_any _ r s2 HR2.out).mono ?_
  intro e w3 hg
  rcases hg.int with ⟨hk, rfl, hm⟩ | ⟨c, s3, hk, rfl, hr, hm⟩
  · refine ⟨rfl, GotP.no (HM2.out.trans hm.rp) (HP2.out.mod hm (Ne.symm hrp)) ?_⟩
    rw [HO.out, hk]
    rfl
  have HR3 := hid hr
  have HM3 : Hid (Mod (fun k => k = r ∨ k = p) w w3) := hid (HM2.out.trans hm.rp)
  have hp3 := HP2.out.mod hm (Ne.symm hrp)
  have HC := hid (byte_lt hk)
  rw [hk, Option.bind_some] at HO
  have c3 : w3.cell? ⟨p, 3, none⟩ = some (I P.code) := hp3.cell 3
  have cf := hp3.fr
  have HP3 := hid hp3
  clear hg hr hm hk HR2 HP2 HM2 heq hp3
  go_wp2_with fail
  obtain ⟨w4, hw4⟩ : ∃ w4, w4 = w3.setCell ⟨p, 3, none⟩ (I c) := ⟨_, rfl⟩
  rw [← hw4]
  obtain ⟨P4, hP4⟩ : ∃ P4 : Pk, P4 = { P with code := c } := ⟨_, rfl⟩
  have HP4 : Hid (PIn w4 p P4 nv cv) := hid (by rw [hw4, hP4]; exact HP3.out.set 3 _ rfl)
  have HR4 : Hid (RdIn w4 r s3) := hid (by rw [hw4]; exact HR3.out.keep (heap_setCell_other w3 ⟨p, 3, none⟩ r _ hrp))
  have HM4 : Hid (Mod (fun k => k = r ∨ k = p) w w4) := hid (by rw [hw4]; exact HM3.out.trans (Mod.set (.inr rfl)))
  clear hw4 HP3 HR3 HM3 c3 cf
  have e4 := and4 c HC.out
  have e2 := and2 c HC.out
  have k3 : ∀ w', KeepP p 3 w4.drew w' → w'.cell? ⟨p, 3, none⟩ = some (I c) := fun w' hh => Eq.trans hh (by have := HP4.out.cell 3; rw [hP4] at this; exact this)
  refine wp_region_order (KeepP p 3) [] [(0,0),(1,0),(2,0),(3,0),(4,0),(5,0),(6,0),(7,0),(8,0),(9,0),(10,0),(11,0),(12,0),(13,0),(14,0),(15,0),(16,1),(17,0),(18,0),(19,1)] _ (by kernel_rfl) rfl KeepP.refl KeepP.trans (by kernel_rfl) (by simp only [pick, List.getElem?_toArray, List.getElem?_cons_zero, List.getElem?_cons_succ]; rfl) (fun c a d v w h => by cases d <;> exact h) ?_
  refine wpK_q (v := ?_) (a' := ?_) (by rfl) (fun w' hR => ?_) ?_ ?_
  rotate_left 2
  · go_simp; with_reducible rfl
  · simp only [Act.put, List.setIfInBounds_toArray, List.set_cons_zero, List.set_cons_succ]; rfl
  refine wpK_q (v := ?_) (a' := ?_) (by rfl) (fun w' hR => ?_) ?_ ?_
  rotate_left 2
  · go_simp; with_reducible rfl
  · simp only [Act.put, List.setIfInBounds_toArray, List.set_cons_zero, List.set_cons_succ]; rfl
  refine wpK_q (v := ?_) (a' := ?_) (by rfl) (fun w' hR => ?_) ?_ ?_
  rotate_left 2
  · go_simp; with_reducible rfl
  · simp only [Act.put, List.setIfInBounds_toArray, List.set_cons_zero, List.set_cons_succ]; rfl
  refine wpK_q (v := ?_) (a' := ?_) (by rfl) (fun w' hR => ?_) ?_ ?_
  rotate_left 2
  · go_simp; with_reducible rfl
  · simp only [Act.put, List.setIfInBounds_toArray, List.set_cons_zero, List.set_cons_succ]; rfl
  refine wpK_q (v := ?_) (a' := ?_) (by rfl) (fun w' hR => ?_) ?_ ?_
  rotate_left 2
  · go_simp; with_reducible rfl
  · simp only [Act.put, List.setIfInBounds_toArray, List.set_cons_zero, List.set_cons_succ]; rfl
  refine wpK_q (v := ?_) (a' := ?_) (by rfl) (fun w' hR => ?_) ?_ ?_
  rotate_left 2
  · go_simp; with_reducible rfl
  · simp only [Act.put, List.setIfInBounds_toArray, List.set_cons_zero, List.set_cons_succ]; rfl
  refine wpK_q (v := ?_) (a' := ?_) (by rfl) (fun w' hR => ?_) ?_ ?_
  rotate_left 2
  · go_simp; with_reducible rfl
  · simp only [Act.put, List.setIfInBounds_toArray, List.set_cons_zero, List.set_cons_succ]; rfl
  refine wpK_q (v := ?_) (a' := ?_) (by rfl) (fun w' hR => ?_) ?_ ?_
  rotate_left 2
  · go_simp; with_reducible rfl
  · simp only [Act.put, List.setIfInBounds_toArray, List.set_cons_zero, List.set_cons_succ]; rfl
  refine wpK_q (v := ?_) (a' := ?_) (by rfl) (fun w' hR => ?_) ?_ ?_
  rotate_left 2
  · go_simp; with_reducible rfl
  · simp only [Act.put, List.setIfInBounds_toArray, List.set_cons_zero, List.set_cons_succ]; rfl
  refine wpK_q (v := ?_) (a' := ?_) (by rfl) (fun w' hR => ?_) ?_ ?_
  rotate_left 2
  · go_simp; with_reducible rfl
  · simp only [Act.put, List.setIfInBounds_toArray, List.set_cons_zero, List.set_cons_succ]; rfl
  refine wpK_q (v := ?_) (a' := ?_) (by rfl) (fun w' hR => ?_) ?_ ?_
  rotate_left 2
  · go_simp; with_reducible rfl
  · simp only [Act.put, List.setIfInBounds_toArray, List.set_cons_zero, List.set_cons_succ]; rfl
  refine wpK_q (v := ?_) (a' := ?_) (by rfl) (fun w' hR => ?_) ?_ ?_
  rotate_left 2
  · go_simp; with_reducible rfl
  · simp only [Act.put, List.setIfInBounds_toArray, List.set_cons_zero, List.set_cons_succ]; rfl
  refine wpK_q (v := ?_) (a' := ?_) (by rfl) (fun w' hR => ?_) ?_ ?_
  rotate_left 2
  · go_simp; with_reducible rfl
  · simp only [Act.put, List.setIfInBounds_toArray, List.set_cons_zero, List.set_cons_succ]; rfl
  refine wpK_q (v := ?_) (a' := ?_) (by rfl) (fun w' hR => ?_) ?_ ?_
  rotate_left 2
  · go_simp; with_reducible rfl
  · simp only [Act.put, List.setIfInBounds_toArray, List.set_cons_zero, List.set_cons_succ]; rfl
  refine wpK_q (v := ?_) (a' := ?_) (by rfl) (fun w' hR => ?_) ?_ ?_
  rotate_left 2
  · go_simp; with_reducible rfl
  · simp only [Act.put, List.setIfInBounds_toArray, List.set_cons_zero, List.set_cons_succ]; rfl
  refine wpK_q (v := ?_) (a' := ?_) (by rfl) (fun w' hR => ?_) ?_ ?_
  rotate_left 2
  · go_simp; with_reducible rfl
  · simp only [Act.put, List.setIfInBounds_toArray, List.set_cons_zero, List.set_cons_succ]; rfl
  have hp4d : PIn w4.drew p P4 nv cv := HP4.out.keep rfl
  refine wpK_s (by rfl) rfl (exec_store rfl (vx := .pointer (some ⟨p, 7, none⟩)) (vy := .bool _) rfl rfl (run_store1 (u := .bool P4.will) (by kernel_rfl) rfl rfl (hp4d.cell 7) (hp4d.fr 7))) (fun _ => KeepP.set (.inr (by decide))) ?_
  obtain ⟨b1, hb1⟩ : ∃ b1 : Bool, b1 = ((c : Int) / 4 % 2 * 4 != 0) := ⟨_, rfl⟩
  rw [← hb1]
  have hp5 : PIn (w4.drew.setCell ⟨p, 7, none⟩ (.bool b1)) p { P4 with will := b1 } nv cv := hp4d.set 7 _ rfl
  refine wpK_q (v := ?_) (a' := ?_) (by rfl) (fun w' hR => ?_) ?_ ?_
  rotate_left 2
  · go_simp; with_reducible rfl
  · simp only [Act.put, List.setIfInBounds_toArray, List.set_cons_zero, List.set_cons_succ]; rfl
  refine wpK_q (v := ?_) (a' := ?_) (by rfl) (fun w' hR => ?_) ?_ ?_
  rotate_left 2
  · go_simp; with_reducible rfl
  · simp only [Act.put, List.setIfInBounds_toArray, List.set_cons_zero, List.set_cons_succ]; rfl
  refine wpK_s (by rfl) rfl (exec_store rfl (vx := .pointer (some ⟨p, 9, none⟩)) (vy := .bool _) rfl rfl (run_store1 (u := .bool P4.clean) (by kernel_rfl) rfl rfl (hp5.cell 9) (hp5.fr 9))) (fun _ => KeepP.set (.inr (by decide))) ?_
  obtain ⟨b2, hb2⟩ : ∃ b2 : Bool, b2 = ((c : Int) / 2 % 2 * 2 != 0) := ⟨_, rfl⟩
  rw [← hb2]
  refine wpK_done ?_
  obtain ⟨w6, hw6⟩ : ∃ w6, w6 = (w4.drew.setCell ⟨p, 7, none⟩ (.bool b1)).setCell ⟨p, 9, none⟩ (.bool b2) := ⟨_, rfl⟩
  rw [← hw6]
  obtain ⟨P6, hP6⟩ : ∃ P6 : Pk, P6 = { P with code := c, will := b1, clean := b2 } := ⟨_, rfl⟩
  have HP6 : Hid (PIn w6 p P6 nv cv) := hid (by rw [hw6, hP6]; have := hp5.set 9 (.bool b2) (P' := { P4 with will := b1, clean := b2 }) (nv' := nv) (cv' := cv) rfl; rw [hP4] at this; exact this)
  have HR6 : Hid (RdIn w6 r s3) := hid (by rw [hw6]; exact (HR4.out.keep (show w4.drew.heap[r]? = _ from rfl)).keep ((heap_setCell_other _ ⟨p, 9, none⟩ r _ hrp).trans (heap_setCell_other _ ⟨p, 7, none⟩ r _ hrp)))
  have HM6 : Hid (Mod (fun k => k = r ∨ k = p) w w6) := hid (by rw [hw6]; exact ((HM4.out.trans (Mod.drew w4)).trans (Mod.set (.inr rfl))).trans (Mod.set (.inr rfl)))
  have hB1 : b1 = decide (c / 4 % 2 = 1) := by
    have : c / 4 % 2 = 0 ∨ c / 4 % 2 = 1 := by omega
    rcases this with h | h
    · have h2 : (c : Int) / 4 % 2 * 4 = 0 := by omega
      rw [hb1, h2, h]; rfl
    · have h2 : (c : Int) / 4 % 2 * 4 = 4 := by omega
      rw [hb1, h2, h]; rfl
  have hB2 : b2 = decide (c / 2 % 2 = 1) := by
    have : c / 2 % 2 = 0 ∨ c / 2 % 2 = 1 := by omega
    rcases this with h | h
    · have h2 : (c : Int) / 2 % 2 * 2 = 0 := by omega
      rw [hb2, h2, h]; rfl
    · have h2 : (c : Int) / 2 % 2 * 2 = 2 := by omega
      rw [hb2, h2, h]; rfl
  rw [← hB1, ← hB2] at HO
  have HB1 := hid hB1
  have c3 : w6.cell? ⟨p, 3, none⟩ = some (I c) := by have := HP6.out.cell 3; rw [hP6] at this; exact this
  have c7 : w6.cell? ⟨p, 7, none⟩ = some (.bool b1) := by have := HP6.out.cell 7; rw [hP6] at this; exact this
  have cf := HP6.out.fr
  have HPP := hid hP6
  clear hw6 hP6 hp5 hp4d hP4 HP4 HR4 HM4 hb1 hb2 hB1 hB2 k3 e4 e2
  have e193 := and193 c HC.out
  have e56 := and56 c HC.out
  have e3 := and3' c HC.out
  by_cases hA : c % 2 ≠ 0 ∨ 64 ≤ c
  · rw [if_pos (by omega)] at HO
    obtain ⟨X, hX, eX⟩ : ∃ X : Int, (X == 0) = false ∧ Go.bits .and .i64 (c : Int) 193 = X := ⟨_, by rw [beq_eq_false_iff_ne]; omega, e193⟩
    clear e193 hA e56 e3
    go_wp2_with (first | (go_at_call 21; refine (unless_no _).mono ?_; rintro e w2 ⟨rfl, rfl⟩) | fail)
    exact ⟨rfl, GotP.no HM6.out HP6.out HO.out⟩
  have e193' : Go.bits .and .i64 (c : Int) 193 = 0 := by rw [e193]; omega
  clear e193
  by_cases hB : c / 8 % 4 = 3
  · rw [if_pos (by omega)] at HO
    have e3' : Go.bits .and .i64 ((c : Int) / 8) 3 = 3 := by rw [e3, hB]; rfl
    clear hA hB e56 e3
    go_wp2_with (first | (go_at_call 21; refine (unless_no _).mono ?_; rintro e w2 ⟨rfl, rfl⟩) | fail)
    exact ⟨rfl, GotP.no HM6.out HP6.out HO.out⟩
  obtain ⟨Y, hY, eY⟩ : ∃ Y : Int, (Y != 3) = true ∧ Go.bits .and .i64 ((c : Int) / 8) 3 = Y := ⟨_, by rw [bne_iff_ne]; omega, e3⟩
  clear e3
  by_cases hC : c / 4 % 2 = 0 ∧ 8 ≤ c
  · rw [if_pos (by omega)] at HO
    obtain rfl : b1 = false := by rw [HB1.out, decide_eq_false (by omega)]
    obtain ⟨X, hX, eX⟩ : ∃ X : Int, (X == 0) = false ∧ Go.bits .and .i64 (c : Int) 56 = X := ⟨_, by rw [beq_eq_false_iff_ne]; omega, e56⟩
    clear hA hB e56 hC
    go_wp2_with (first | (go_at_call 21; refine (unless_no _).mono ?_; rintro e w2 ⟨rfl, rfl⟩) | fail)
    exact ⟨rfl, GotP.no HM6.out HP6.out HO.out⟩
  rw [if_neg (by omega)] at HO
  have HGO : Hid (b1 = false → Go.bits .and .i64 (c : Int) 56 = 0) := hid (fun hb => by
    have h0 : ¬ c / 4 % 2 = 1 := by have h := HB1.out; rw [hb] at h; exact of_decide_eq_false h.symm
    rw [e56]; omega)
  clear hA hB hC e56
  have hgo := HGO.out
  clear HGO
  cases b1
  have e56 := hgo rfl
  rotate_left
  have e56 : True := trivial
  rotate_left
  all_goals
    clear hgo
    go_wp2_with (first | (go_at_call 21; refine (unless_ok _).mono ?_; rintro e w2 ⟨rfl, rfl⟩) | fail)
    refine (short_any _ r s3 HR6.out).mono ?_
    intro e w7 hg
    rcases hg.int with ⟨hk, rfl, hm⟩ | ⟨k, s4, hk, rfl, hr, hm⟩
    · refine ⟨rfl, GotP.no (HM6.out.trans hm.rp) (HP6.out.mod hm (Ne.symm hrp)) ?_⟩
      rw [HO.out, hk]
      rfl
    rw [hk, Option.bind_some] at HO
    have hp7 := HP6.out.mod hm (Ne.symm hrp)
    have HP7 := hid hp7
    have HR7 := hid hr
    have HM7 := hid (HM6.out.trans hm.rp)
    clear c3 c7 cf e56 hg hr hm hk HR6 HM6 HP6 hY eY e193'
    have c6 : w7.cell? ⟨p, 6, none⟩ = some (I P6.keep) := hp7.cell 6
    have cf := hp7.fr
    clear hp7
    go_wp2_with fail
    obtain ⟨w8, hw8⟩ : ∃ w8, w8 = w7.setCell ⟨p, 6, none⟩ (I k) := ⟨_, rfl⟩
    rw [← hw8]
    obtain ⟨P8, hP8⟩ : ∃ P8 : Pk, P8 = { P6 with keep := k } := ⟨_, rfl⟩
    have HP8 : Hid (PIn w8 p P8 nv cv) := hid (by rw [hw8, hP8]; exact HP7.out.set 6 _ rfl)
    have HR8 : Hid (RdIn w8 r s4) := hid (by rw [hw8]; exact HR7.out.keep (heap_setCell_other w7 ⟨p, 6, none⟩ r _ hrp))
    have HM8 : Hid (Mod (fun k => k = r ∨ k = p) w w8) := hid (by rw [hw8]; exact HM7.out.trans (Mod.set (.inr rfl)))
    clear hw8 HP7 HR7 HM7 c6 cf
    refine (text_any _ r s4 HR8.out).mono ?_
    intro e w9 hg
    rcases hg.text with ⟨hk, rfl, hm⟩ | ⟨n, s5, hk, rfl, hr, hm⟩
    · refine ⟨rfl, GotP.no (HM8.out.trans hm.rp) (HP8.out.mod hm (Ne.symm hrp)) ?_⟩
      rw [HO.out, hk]
      rfl
    rw [hk, Option.bind_some] at HO
    have hp9 := HP8.out.mod hm (Ne.symm hrp)
    have HP9 := hid hp9
    have HR9 := hid hr
    have HM9 := hid (HM8.out.trans hm.rp)
    clear hg hr hm hk HR8 HM8 HP8
    have c4 : w9.cell? ⟨p, 4, none⟩ = some (S P8.name) := hp9.cell 4
    have c7 := hp9.cell 7
    rw [show (pkCells P8 nv cv)[7]? = some (.bool P8.will) from rfl, show P8.will = _ from by rw [hP8, HPP.out]] at c7
    have cf := hp9.fr
    clear hp9
    have HPP8 := hid hP8
    clear hP8
    go_wp2_with fail
  all_goals
    obtain ⟨w10, hw10⟩ : ∃ w10, w10 = w9.setCell ⟨p, 4, none⟩ (S n) := ⟨_, rfl⟩
    rw [← hw10]
    obtain ⟨P10, hP10⟩ : ∃ P10 : Pk, P10 = { P8 with name := n } := ⟨_, rfl⟩
    have HP10 : Hid (PIn w10 p P10 nv cv) := hid (by rw [hw10, hP10]; exact HP9.out.set 4 _ rfl)
    have HR10 : Hid (RdIn w10 r s5) := hid (by rw [hw10]; exact HR9.out.keep (heap_setCell_other w9 ⟨p, 4, none⟩ r _ hrp))
    have HM10 : Hid (Mod (fun k => k = r ∨ k = p) w w10) := hid (by rw [hw10]; exact HM9.out.trans (Mod.set (.inr rfl)))
    rw [HPP8.out, HPP.out] at hP10
    clear hw10 HP9 HR9 HM9 c4 c7 cf
  · have hb := of_decide_eq_false HB1.out.symm
    rw [if_neg hb] at HO
    ((try simp only [Exit.inBlock, Exit.then]); first | refine bodyPost_end (results_none rfl _ _ _) rfl ?_ | refine bodyPost_ret (results_none rfl _ _ _) rfl ?_)
    refine GotP.yes HM10.out ?_ HR10.out HP10.out
    rw [HO.out, hP10]
  have hb := of_decide_eq_true HB1.out.symm
  rw [if_pos hb] at HO
  refine (text_any _ r s5 HR10.out).mono ?_
  intro e w11 hg
  rcases hg.text with ⟨hk, rfl, hm⟩ | ⟨tp, s6, hk, rfl, hr, hm⟩
  · refine ⟨rfl, GotP.no (HM10.out.trans hm.rp) (HP10.out.mod hm (Ne.symm hrp)) ?_⟩
    rw [HO.out, hk]
    rfl
  rw [hk, Option.bind_some] at HO
  have HP11 := hid (HP10.out.mod hm (Ne.symm hrp))
  have HR11 := hid hr
  have HM11 : Hid (Mod (fun k => k = r ∨ k = p) w w11) := hid (HM10.out.trans hm.rp)
  clear hg hr hm hk HR10 HM10 HP10
  go_wp2_with fail
  refine (text_any _ r s6 HR11.out).mono ?_
  intro e w12 hg
  rcases hg.text with ⟨hk, rfl, hm⟩ | ⟨tx, s7, hk, rfl, hr, hm⟩
  · refine ⟨rfl, GotP.no (HM11.out.trans hm.rp) (HP11.out.mod hm (Ne.symm hrp)) ?_⟩
    rw [HO.out, hk]
    rfl
  rw [hk, Option.bind_some] at HO
  have hp12 := HP11.out.mod hm (Ne.symm hrp)
  have HP12 := hid hp12
  have HR12 := hid hr
  have HM12 : Hid (Mod (fun k => k = r ∨ k = p) w w12) := hid (HM11.out.trans hm.rp)
  clear hg hr hm hk HR11 HM11 HP11
  have c8 : w12.cell? ⟨p, 8, none⟩ = some (S P10.topic) := hp12.cell 8
  have c5 : w12.cell? ⟨p, 5, none⟩ = some (S P10.text) := hp12.cell 5
  have cf := hp12.fr
  have hz := str_size tx
  clear hp12
  have hp13 : PIn ((w12.setCell ⟨p, 8, none⟩ (S tp)).setCell ⟨p, 5, none⟩ (S tx)) p { P10 with topic := tp, text := tx } nv cv := (HP12.out.set 8 (S tp) (P' := { P10 with topic := tp }) (nv' := nv) (cv' := cv) rfl).set 5 _ rfl
  have hr13 : RdIn ((w12.setCell ⟨p, 8, none⟩ (S tp)).setCell ⟨p, 5, none⟩ (S tx)) r s7 := HR12.out.keep ((heap_setCell_other _ ⟨p, 5, none⟩ r _ hrp).trans (heap_setCell_other _ ⟨p, 8, none⟩ r _ hrp))
  have hm13 : Mod (fun k => k = r ∨ k = p) w ((w12.setCell ⟨p, 8, none⟩ (S tp)).setCell ⟨p, 5, none⟩ (S tx)) := (HM12.out.trans (Mod.set (.inr rfl))).trans (Mod.set (.inr rfl))
  have HP13 := hid hp13
  have HR13 := hid hr13
  have HM13 := hid hm13
  clear hp13 hr13 hm13
  by_cases hl : 1024 < tx.length
  · rw [if_pos hl] at HO
    have hd : decide ((tx.length : Int) ≤ 1024) = false := decide_eq_false (by omega)
    clear hl
    go_wp2_with (first | (go_at_call 21; refine (unless_no _).mono ?_; rintro e w2 ⟨rfl, rfl⟩) | fail)
    exact ⟨rfl, GotP.no HM13.out HP13.out HO.out⟩
  · rw [if_neg hl] at HO
    have hd : decide ((tx.length : Int) ≤ 1024) = true := decide_eq_true (by omega)
    clear hl
    go_wp2_with (first | (go_at_call 21; refine (unless_ok _).mono ?_; rintro e w2 ⟨rfl, rfl⟩) | fail)
    ((try simp only [Exit.inBlock, Exit.then]); first | refine bodyPost_end (results_none rfl _ _ _) rfl ?_ | refine bodyPost_ret (results_none rfl _ _ _) rfl ?_)
    refine GotP.yes HM13.out ?_ HR13.out HP13.out
    rw [HO.out, hP10]
end Go.Proofs.Ytnljmllkfmgclaa
