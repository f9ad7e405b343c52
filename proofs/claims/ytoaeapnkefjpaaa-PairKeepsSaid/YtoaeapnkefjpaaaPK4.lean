/-
  Part 4 of what PairFull, PairTurns lean on: contracts of the functions that they reach, and plain lemmas. Conditions: those that each lemma names.
-/
import Derived.Test.YtoaeapnkefjpaaaRows
import Derived.WalkKit
import Derived.ProofKit
import Derived.OpenShut
import Derived.ShutString
import Derived.ChangeOld
import Derived.Below
import Derived.Deep.Slices
import Derived.Test.YtoaeapnkefjpaaaPK3
import Derived.Test.YtoaeapnkefjpaaaPK1
import Derived.Test.YtoaeapnkefjpaaaPK2
namespace Go.Proofs.Ytoaeapnkefjpaaa
open Go.RowKit
set_option linter.unusedVariables false
set_option linter.unusedSimpArgs false
/-- All but block b stays. -/
structure AllBut (b : Nat) (w w' : World) : Prop where
  m : Mod (fun k => k = b) w w'
theorem AllBut.refl {b : Nat} (w : World) : AllBut b w w := ⟨Mod.refl _ _⟩
theorem AllBut.trans {b : Nat} (w w' w'' : World) (h : AllBut b w w') (k : AllBut b w' w'') : AllBut b w w'' := ⟨h.m.trans k.m⟩
theorem AllBut.sees {b : Nat} {w w' : World} (h : AllBut b w w') {v : Value} {l : List UInt8} (hv : Sees w v l) (hb : ∀ k, v.ownBlock = some k → k < w.heap.size ∧ k ≠ b) : Sees w' v l := hv.keep (fun k hk => h.m.block k (hb k hk).1 (hb k hk).2)
set_option maxRecDepth 100000 in
set_option maxHeartbeats 1600000 in
theorem wakes4_any (w : World) : Calls Try.prog 64 #[] w fun e w' => e = .returned (.bool true) ∧ Below w.heap.size w w' := by
  have k23 := fun (w : World) (C : Array Value) (n c : Nat) => Lib.run_convert_bytes_const (P := Try.prog) w 23 5 C n c Try.underlying23 Try.underlying5
  go_enter Try.func64, Try.ntmps64
  go_wp2_with (go_at_call 36; refine (st_new _ 3 (by omega)).mono ?_; rintro e w1 ⟨p, own, rfl, h⟩; have H := hid (show St w own p Wk4.D0 w1 from h); clear h)
  have hop := tst_open H.out 1 3 (by omega) (by omega)
  rw [Wk4.opn0] at hop
  refine hop.mono ?_
  rintro e w2 (⟨h1, -⟩ | ⟨-, t, v, rfl, ht, hlt, hrc, hb⟩)
  · exact absurd rfl h1
  obtain ⟨ao, co, rfl⟩ := hrc.form
  have HT := hid (show TSt w own p t Wk4.T0 Wk4.D0 w2 from ht)
  clear ht hrc hb hop H hlt
  rw [show (((0 : Int), ([] : List (List UInt8)), (0 : Nat), (0 : Nat)).snd.fst.length) = 0 from rfl]
  have hS := Sees.lit w2 Wk4.hi2 (2, 3) (by decide)
  have hcells : (Wk4.hi2.map B).toArray = #[Value.int .u8 104, Value.int .u8 105] := rfl
  rw [hcells] at hS
  have hb : Below w2.heap.size w2 (w2.alloc (.cells #[.int .u8 104, .int .u8 105] 5 (2, 3))) := (Below.refl _ _).alloc (Nat.le_refl _) _
  have hap := tst_append (HT.out.on hb) (v := .slice (some ⟨w2.heap.size, 0, none⟩) 2 2) (r := Wk4.hi2) hS (by decide)
  have hap2 : Calls Try.prog 66 #[.pointer (some ⟨t, 0, none⟩), .slice (some ⟨w2.heap.size, 0, none⟩) 2 2] (w2.alloc (.cells #[.int .u8 104, .int .u8 105] 5 (2, 3))) fun e w' => e = .returned (I 0) ∧ ∃ own', TSt w own' p t Wk4.T1 Wk4.D1 w' := hap.mono fun e w' hx => by
    obtain ⟨h1, own', h2, -⟩ := hx
    exact ⟨by rw [h1]; show Ending.returned (I Wk4.X1.1) = _; rw [Wk4.x1], own', h2⟩
  have HAP := hid hap2
  clear hS hcells hb hap hap2
  go_wp2_with (go_at_call 66; refine HAP.out.mono ?_; rintro e w4 ⟨rfl, own', ht⟩; have HT2 := hid ht; clear ht)
  have hops := ops_any w4 p own' Wk4.D1 HT2.out.drum.at'
  rw [Wk4.ops1] at hops
  refine hops.mono ?_
  rintro e w5 ⟨rfl, rfl⟩
  clear hops
  go_wp2_with fail
  have hrd := st_read HT2.out.drum 1 (by omega)
  rw [Wk4.rd1] at hrd
  refine hrd.mono ?_
  rintro e w6 ⟨v6, rfl, hst, ho, hb⟩
  have ho' : w6.ownsRow w4.heap.size 5 1 v6 256 (Wk4.P1.map B) := own_len ho Wk4.len1 rfl
  obtain ⟨g6, cap6, rfl, g1, g2, g3, g4⟩ := own_slice ho' (by decide)
  have HS6 := hid (own_sees' ho' Wk4.len1)
  have HB6 := hid (hst.below)
  clear hrd hst ho hb ho' HAP
  go_wp2_with fail
  obtain ⟨n0, hn0⟩ : ∃ n, n = w6.heap.size := ⟨_, rfl⟩
  have hgn : g6 < n0 := by omega
  have k1 : ∀ w', AllBut n0 w6.drew w' → (convert 23 9 (.slice (some ⟨g6, 0, none⟩) 14 cap6)).run Try.prog w' = .ok (.string (str (Wk4.P1.take 14))) w' := fun w' hh => run_str Try.underlying23 Try.underlying5 Try.underlying9 (hh.sees (by
    have h0 := HS6.out
    have := Sees.take (g := g6) (off := 0) (n := 256) (cap := cap6) (L := Wk4.P1) h0 14 (by rw [Wk4.len1]; omega)
    exact this.drew) (fun k hk => by have h2 : g6 = k := Option.some.inj hk; have h3 : w6.drew.heap.size = w6.heap.size := rfl; exact ⟨by omega, by omega⟩))
  have HN0 := hid hn0
  have hcap : (14 : Int) ≤ (cap6 : Int) := by omega
  clear hn0 g1 g2 g3 g4
  refine wp_region_order (AllBut n0) [] [(0,0),(1,0),(2,0),(3,0),(4,0),(5,0),(6,0),(7,0),(8,0),(9,0),(10,0),(11,1),(12,1),(13,1),(14,0),(15,0),(16,0),(17,0)] _ (by kernel_rfl) rfl AllBut.refl AllBut.trans (by kernel_rfl) (by simp only [pick, List.getElem?_toArray, List.getElem?_cons_zero, List.getElem?_cons_succ]; rfl) (fun c a d v w h => by cases d <;> exact h) ?_
  refine wpK_q (v := ?_) (a' := ?_) (by rfl) (fun w' hR => ?_) ?_ ?_
  rotate_left 2
  · go_simp; with_reducible rfl
  · simp only [Act.put, List.setIfInBounds_toArray, List.set_cons_zero, List.set_cons_succ]; rfl
  refine wpK_q (v := ?_) (a' := ?_) (by rfl) (fun w' hR => ?_) ?_ ?_
  rotate_left 2
  · go_simp; with_reducible rfl
  · simp only [Act.put, List.setIfInBounds_toArray, List.set_cons_zero, List.set_cons_succ]; rfl
  refine wpK_q (v := ?_) (a' := ?_) (by rfl) (fun w' hR => ?_) ?_ ?_
  rotate_left 2
  · go_simp; with_reducible rfl
  · simp only [Act.put, List.setIfInBounds_toArray, List.set_cons_zero, List.set_cons_succ]; rfl
  refine wpK_q (v := ?_) (a' := ?_) (by rfl) (fun w' hR => ?_) ?_ ?_
  rotate_left 2
  · go_simp; with_reducible rfl
  · simp only [Act.put, List.setIfInBounds_toArray, List.set_cons_zero, List.set_cons_succ]; rfl
  refine wpK_q (v := ?_) (a' := ?_) (by rfl) (fun w' hR => ?_) ?_ ?_
  rotate_left 2
  · go_simp; with_reducible rfl
  · simp only [Act.put, List.setIfInBounds_toArray, List.set_cons_zero, List.set_cons_succ]; rfl
  refine wpK_q (v := ?_) (a' := ?_) (by rfl) (fun w' hR => ?_) ?_ ?_
  rotate_left 2
  · go_simp; with_reducible rfl
  · simp only [Act.put, List.setIfInBounds_toArray, List.set_cons_zero, List.set_cons_succ]; rfl
  refine wpK_q (v := ?_) (a' := ?_) (by rfl) (fun w' hR => ?_) ?_ ?_
  rotate_left 2
  · go_simp; with_reducible rfl
  · simp only [Act.put, List.setIfInBounds_toArray, List.set_cons_zero, List.set_cons_succ]; rfl
  refine wpK_q (v := ?_) (a' := ?_) (by rfl) (fun w' hR => ?_) ?_ ?_
  rotate_left 2
  · go_simp; with_reducible rfl
  · simp only [Act.put, List.setIfInBounds_toArray, List.set_cons_zero, List.set_cons_succ]; rfl
  refine wpK_q (v := ?_) (a' := ?_) (by rfl) (fun w' hR => ?_) ?_ ?_
  rotate_left 2
  · go_simp; with_reducible rfl
  · simp only [Act.put, List.setIfInBounds_toArray, List.set_cons_zero, List.set_cons_succ]; rfl
  refine wpK_q (v := ?_) (a' := ?_) (by rfl) (fun w' hR => ?_) ?_ ?_
  rotate_left 2
  · go_simp; with_reducible rfl
  · simp only [Act.put, List.setIfInBounds_toArray, List.set_cons_zero, List.set_cons_succ]; rfl
  refine wpK_q (v := ?_) (a' := ?_) (by rfl) (fun w' hR => ?_) ?_ ?_
  rotate_left 2
  · go_simp; with_reducible rfl
  · simp only [Act.put, List.setIfInBounds_toArray, List.set_cons_zero, List.set_cons_succ]; rfl
  refine wpK_v (v := .slice (some ⟨w6.heap.size, 0, none⟩) 2 2) (w' := w6.drew.alloc (.cells #[.int .u8 104, .int .u8 105] 5)) (by rfl) (by go_simp) (fun _ => ⟨Mod.alloc _⟩) (by simp only [Act.put, List.setIfInBounds_toArray, List.set_cons_zero, List.set_cons_succ]; rfl) ?_
  refine wpK_v (v := .slice (some ⟨w6.heap.size, 0, none⟩) 2 2) (w' := w6.drew.alloc (.cells #[.int .u8 104, .int .u8 105] 5 (2, 3))) (by rfl) (by have hh := val_of (k23 w6.drew #[.int .u8 104, .int .u8 105] 2 2); exact hh) (fun _ => ⟨?_⟩) (by simp only [Act.put, List.setIfInBounds_toArray, List.set_cons_zero, List.set_cons_succ]; rfl) ?_
  · refine ⟨rfl, rfl, rfl, by simp, fun k hk ho => ?_⟩
    have h1 : w6.drew.heap.size = n0 := HN0.out.symm
    have h2 : (w6.drew.alloc (.cells #[.int .u8 104, .int .u8 105] 5)).heap.size = n0 + 1 := by simp [HN0.out]
    rw [Below.heap_alloc _ _ _ (by omega), Below.heap_alloc _ _ _ (by omega)]
  have hS := Sees.lit w6.drew Wk4.hi2 (2, 3) (by decide)
  have hb7 : Below w6.heap.size w6 (w6.drew.alloc (.cells #[.int .u8 104, .int .u8 105] 5 (2, 3))) := Ext.trans _ _ _ (Ext.drew w6) ((Below.refl _ _).alloc (Nat.le_refl _) _)
  have HS7 : Hid (Sees (w6.drew.alloc (.cells #[.int .u8 104, .int .u8 105] 5 (2, 3))) (.slice (some ⟨w6.heap.size, 0, none⟩) 2 2) Wk4.hi2) := hid hS
  have HB7 := hid hb7
  have hz7 : (w6.drew.alloc (.cells #[.int .u8 104, .int .u8 105] 5 (2, 3))).heap.size = n0 + 1 := by simp [HN0.out]
  generalize w6.drew.alloc (.cells #[.int .u8 104, .int .u8 105] 5 (2, 3)) = w7 at *
  clear hS hb7
  refine wpK_call Try.func95 (by kernel_rfl) rfl rfl (by rfl) #[B 1, I 0, .slice (some ⟨w6.heap.size, 0, none⟩) 2 2] (by simp only [List.map_toArray, List.map_cons, List.map_nil]; rfl) ?_
  refine (rframe_of w7 1 0 (by omega) _ Wk4.hi2 HS7.out (by decide)).mono ?_
  rintro e w8 ⟨v8, rfl, ho8, hb8⟩
  refine ⟨_, rfl, fun _ => ⟨Mod.of_below _ hb8⟩, ?_⟩
  have hs8 := own_sees ho8
  have hl8 := fun k hk => own_lt ho8 k hk
  rw [← Wk4.frame1] at hs8
  have k2 : ∀ w', AllBut n0 w8 w' → (convert 23 9 v8).run Try.prog w' = .ok (.string (str (Wk4.P1.take 14))) w' := fun w' hh => run_str Try.underlying23 Try.underlying5 Try.underlying9 (hh.sees hs8 (fun k hk => by have := hl8 k hk; exact ⟨this.2, by omega⟩))
  have HB8 := hid hb8
  clear ho8 hb8 hs8 hl8 k1 hz7
  refine wpK_q (v := ?_) (a' := ?_) (by rfl) (fun w' hR => ?_) ?_ ?_
  rotate_left 2
  · go_simp; with_reducible rfl
  · simp only [Act.put, List.setIfInBounds_toArray, List.set_cons_zero, List.set_cons_succ]; rfl
  refine wpK_q (v := ?_) (a' := ?_) (by rfl) (fun w' hR => ?_) ?_ ?_
  rotate_left 2
  · go_simp; with_reducible rfl
  · simp only [Act.put, List.setIfInBounds_toArray, List.set_cons_zero, List.set_cons_succ]; rfl
  refine wpK_q (v := ?_) (a' := ?_) (by rfl) (fun w' hR => ?_) ?_ ?_
  rotate_left 2
  · go_simp; with_reducible rfl
  · simp only [Act.put, List.setIfInBounds_toArray, List.set_cons_zero, List.set_cons_succ]; rfl
  refine wpK_q (v := ?_) (a' := ?_) (by rfl) (fun w' hR => ?_) ?_ ?_
  rotate_left 2
  · go_simp; with_reducible rfl
  · simp only [Act.put, List.setIfInBounds_toArray, List.set_cons_zero, List.set_cons_succ]; rfl
  refine wpK_done ?_
  clear k2
  go_wp2
  go_ret
  exact ⟨rfl, HB6.out.trans ((Ext.trans _ _ _ HB7.out HB8.out).mono HB6.out.size)⟩
end Go.Proofs.Ytoaeapnkefjpaaa

namespace Go.Proofs.Ytoaeapnkefjpaaa
open Go.RowKit
set_option linter.unusedVariables false
set_option linter.unusedSimpArgs false

theorem PS.lay_len (D : DS) (a h : Nat) (b : List UInt8) : (PS.lay D a h b).2.safe.length = D.safe.length := by
  unfold PS.lay
  simp only
  have h1 := TS.wr_len (PS.paged b) D a
  have h2 := DS.write_len (TS.wr D a (PS.paged b)).2 (a + PS.takes b.length : Nat) (List.replicate 256 0)
  have h3 := DS.Flush_len ((TS.wr D a (PS.paged b)).2.write (a + PS.takes b.length : Nat) (List.replicate 256 0)).2
  have h4 := DS.write_len ((TS.wr D a (PS.paged b)).2.write (a + PS.takes b.length : Nat) (List.replicate 256 0)).2.Flush.2 0 (PS.rootPage h)
  have h5 := DS.Flush_len (((TS.wr D a (PS.paged b)).2.write (a + PS.takes b.length : Nat) (List.replicate 256 0)).2.Flush.2.write 0 (PS.rootPage h)).2
  split
  · exact h1
  · split
    · exact h2.trans h1
    · split
      · exact h3.trans (h2.trans h1)
      · split
        · exact h4.trans (h3.trans (h2.trans h1))
        · exact h5.trans (h4.trans (h3.trans (h2.trans h1)))
theorem PS.save_len (D : DS) (P : PS) (b : List UInt8) : (PS.save D P b).2.1.safe.length = D.safe.length := by
  unfold PS.save
  split
  · rfl
  · split
    · rfl
    · have := PS.lay_len D (1 + (1 - P.half) * PS.hp D.safe.length) (1 - P.half) b
      simp only
      split
      · exact this
      · split
        · exact this
        · exact this
theorem PS.append_len (D : DS) (P : PS) (r : List UInt8) : (PS.append D P r).2.1.safe.length = D.safe.length := by
  unfold PS.append
  split
  · rfl
  · exact TS.append_len D P.T r
theorem PS.append_waits (D : DS) (P : PS) (r : List UInt8) : (PS.append D P r).2.1.waits.length ≤ D.waits.length + 400 := by
  unfold PS.append
  split
  · simp
  · exact TS.append_waits D P.T r
/-- Save, whatever is asked. -/
theorem psave_any (w : World) (q t p : Nat) (own : Nat → Prop) (P : PS) (D : DS) (v : Value) (b : List UInt8) (h : PairIn w q t p D.safe.length P) (hd : DrumAt w p own D) (hv : Sees w v b) (hb : b.length ≤ 1073741824) (hq : ¬ own q) (ht : ¬ own t) (hN : D.waits.length ≤ 700000000) :
    Calls Try.prog 42 #[.pointer (some ⟨q, 0, none⟩), v] w fun e w' => ∃ t', e = .returned (I (PS.save D P b).1) ∧ PairIn w' q t' p D.safe.length (PS.save D P b).2.2 ∧ (t' = t ∨ w.heap.size ≤ t') ∧ ∃ own', DrumAt w' p own' (PS.save D P b).2.1 ∧ (∀ j, own' j → own j ∨ w.heap.size ≤ j) ∧ ¬ own' t' ∧ Mod (fun j => own j ∨ j = q) w w' := by
  by_cases hno : PS.hp D.safe.length ≤ PS.takes b.length ∨ P.sick ≠ 0
  · refine (psave_no w q t p own P D v b h hd hv hb hno).mono ?_
    rintro e w' ⟨rfl, hb'⟩
    have e2 : (PS.save D P b).2 = (D, P) := by
      unfold PS.save
      by_cases h1 : PS.hp D.safe.length ≤ PS.takes b.length
      · rw [if_pos h1]
      · rw [if_neg h1, if_pos (hno.resolve_left h1)]
    rw [show (PS.save D P b).2.2 = P from by rw [e2], show (PS.save D P b).2.1 = D from by rw [e2]]
    exact ⟨t, rfl, h.below hb', .inl rfl, own, hd.below hb', fun j hj => .inl hj, ht, Mod.of_below _ hb'⟩
  · have h1 : PS.takes b.length < PS.hp D.safe.length := by omega
    have h2 : P.sick = 0 := by omega
    exact psave_yes w q t p own P D v b h hd hv hb hq ht h1 h2 hN
/-- A drum and a pair over it, newer than w0. -/
structure PSt (w0 : World) (own : Nat → Prop) (p q t : Nat) (P : PS) (D : DS) (w : World) : Prop where
  drum : St w0 own p D w
  pair : PairIn w q t p D.safe.length P
  nq : ¬ own q
  nt : ¬ own t
  qf : w0.heap.size ≤ q
section
variable {w0 w w' : World} {own : Nat → Prop} {p q t : Nat} {P : PS} {D : DS}
theorem PairIn.ql (h : PairIn w q t p D.safe.length P) : q < w.heap.size := (Array.getElem?_eq_some_iff.1 h.hq).1
theorem PSt.on (h : PSt w0 own p q t P D w) (hb : Below w.heap.size w w') : PSt w0 own p q t P D w' := ⟨h.drum.on hb, h.pair.below hb, h.nq, h.nt, h.qf⟩
theorem pst_open (h : St w0 own p D w) (h5 : 5 ≤ D.safe.length) :
    Calls Try.prog 38 #[.pointer (some ⟨p, 0, none⟩)] w fun e w' =>
      ((PS.open_ D).1 ≠ 0 ∧ e = .returned (.tuple #[.pointer none, .slice none 0 0, .slice none 0 0, I (PS.open_ D).1]) ∧ Below w.heap.size w w') ∨
      ((PS.open_ D).1 = 0 ∧ ∃ q t vb vl, e = .returned (.tuple #[.pointer (some ⟨q, 0, none⟩), vb, vl, I 0]) ∧ PSt w0 own p q t (PS.open_ D).2.2.2 D w' ∧ w.heap.size ≤ q ∧ Part w' (q + 1) vb (PS.open_ D).2.1 ∧ Recs w' (t + 1) vl (PS.open_ D).2.2.1 ∧ Below w.heap.size w w') := by
  refine (pair_open w p own D h.at' h5).mono fun e w' hx => ?_
  rcases hx with ⟨h1, h2, h3⟩ | ⟨h1, q, t, vb, vl, h2, h3, h4, h5', h6, h7⟩
  · exact .inl ⟨h1, h2, h3⟩
  · have hlt := h3.lt
    exact .inr ⟨h1, q, t, vb, vl, h2, ⟨h.on h7, h3, fun e => by have := h.at'.lt q e; omega, fun e => by have := h.at'.lt t e; omega, Nat.le_trans h.below.size h4⟩, h4, h5', h6, h7⟩
/-- An opening of which it is known what it comes to. -/
theorem pst_open_has {snap : List UInt8} {recs : List (List UInt8)} (h : St w0 own p D w) (hh : PS.Has D P snap recs) :
    Calls Try.prog 38 #[.pointer (some ⟨p, 0, none⟩)] w fun e w' => ∃ q t vb vl, e = .returned (.tuple #[.pointer (some ⟨q, 0, none⟩), vb, vl, I 0]) ∧ PSt w0 own p q t P D w' ∧ w.heap.size ≤ q ∧ Part w' (q + 1) vb snap ∧ Recs w' (t + 1) vl recs ∧ Below w.heap.size w w' := by
  have ho := hh.open
  have h1 := pst_open h hh.n5
  rw [ho] at h1
  refine h1.mono fun e w' hx => ?_
  rcases hx with ⟨h1, -⟩ | ⟨-, q, t, vb, vl, h2⟩
  · exact absurd rfl h1
  · exact ⟨q, t, vb, vl, h2⟩
theorem pst_append (h : PSt w0 own p q t P D w) {v : Value} {r : List UInt8} (hv : Sees w v r) (hN : D.waits.length ≤ 800000000) :
    Calls Try.prog 40 #[.pointer (some ⟨q, 0, none⟩), v] w fun e w' => e = .returned (I (PS.append D P r).1) ∧ ∃ own', PSt w0 own' p q t (PS.append D P r).2.2 (PS.append D P r).2.1 w' ∧ (∀ k, own' k → own k ∨ w.heap.size ≤ k) ∧ Mod (fun k => own k ∨ k = t) w w' := by
  refine (pair_append w q t p own P D v r h.pair h.drum.at' h.nq h.nt hv hN).mono fun e w' hx => ?_
  obtain ⟨h1, h2, own', h3, h4, h5⟩ := hx
  have hql := h.pair.ql
  have htl := h.pair.tape.lt
  have hqt := h.pair.lt
  have hqf := h.qf
  refine ⟨h1, own', ⟨⟨h3, fun k hk => ?_, h.drum.below.trans (h5.below h.drum.below.size (fun i hi ho => ?_))⟩, by rw [PS.append_len]; exact h2, fun e => ?_, fun e => ?_, h.qf⟩, h4, h5⟩
  · rcases h4 k hk with h' | h'
    · exact h.drum.fresh k h'
    · exact Nat.le_trans h.drum.below.size h'
  · rcases ho with ho | ho
    · have := h.drum.fresh i ho; omega
    · omega
  · exact (h4 q e).elim h.nq (fun h => by omega)
  · exact (h4 t e).elim h.nt (fun h => by omega)
theorem pst_save (h : PSt w0 own p q t P D w) {v : Value} {b : List UInt8} (hv : Sees w v b) (hb : b.length ≤ 1073741824) (hN : D.waits.length ≤ 700000000) :
    Calls Try.prog 42 #[.pointer (some ⟨q, 0, none⟩), v] w fun e w' => e = .returned (I (PS.save D P b).1) ∧ ∃ t' own', PSt w0 own' p q t' (PS.save D P b).2.2 (PS.save D P b).2.1 w' ∧ (t' = t ∨ w.heap.size ≤ t') ∧ (∀ k, own' k → own k ∨ w.heap.size ≤ k) ∧ Mod (fun k => own k ∨ k = q) w w' := by
  refine (psave_any w q t p own P D v b h.pair h.drum.at' hv hb h.nq h.nt hN).mono fun e w' hx => ?_
  obtain ⟨t', h1, h2, ht, own', h3, h4, h4', h5⟩ := hx
  have hql := h.pair.ql
  have hqf := h.qf
  refine ⟨h1, t', own', ⟨⟨h3, fun k hk => ?_, h.drum.below.trans (h5.below h.drum.below.size (fun i hi ho => ?_))⟩, by rw [PS.save_len]; exact h2, fun e => ?_, h4', h.qf⟩, ht, h4, h5⟩
  · rcases h4 k hk with h' | h'
    · exact h.drum.fresh k h'
    · exact Nat.le_trans h.drum.below.size h'
  · rcases ho with ho | ho
    · have := h.drum.fresh i ho; omega
    · omega
  · exact (h4 q e).elim h.nq (fun h => by omega)
end
namespace Wk5
def D0 : DS := DS.new 9
def P0 : PS := ⟨0, ⟨2, 5, 0, 0, 0⟩, 0⟩
def hi2 : List UInt8 := [104, 105]
def X1 : Int × DS × PS := PS.save D0 P0 hi2
def D1 : DS := X1.2.1
def P1 : PS := X1.2.2
def G1 : List UInt8 := (D1.read 5).2
set_option maxRecDepth 100000
theorem has0 : PS.Has D0 P0 [] [] := PS.Has.new (n := 9) (by decide) (by decide)
theorem x1 : X1.1 = 0 := (has0.save (b := hi2) (by decide) (by decide)).1
theorem has1 : PS.Has D1 P1 hi2 [] := (has0.save (b := hi2) (by decide) (by decide)).2.1
theorem len1' : D1.safe.length = 9 := (has0.save (b := hi2) (by decide) (by decide)).2.2.1
theorem ops1 : D1.ops = 5 := by kernel_rfl
theorem waits1 : D1.waits.length = 0 := by kernel_rfl
theorem rd1 : (D1.read 5).1 = 0 := by kernel_rfl
theorem len1 : G1.length = 256 := by kernel_rfl
theorem frame1 : G1.take 14 = PS.framed hi2 := by kernel_rfl
end Wk5
end Go.Proofs.Ytoaeapnkefjpaaa

namespace Go.Proofs.Ytoaeapnkefjpaaa
open Go.RowKit
set_option linter.unusedVariables false
set_option linter.unusedSimpArgs false
def zeros757 : List UInt8 := List.replicate 757 0
theorem zeros757_len : zeros757.length = 757 := List.length_replicate
set_option maxRecDepth 100000 in
theorem run_zeros757 (w : World) : ∀ ty : TypeId, ty = 23 → (Instr.makeSlice 23 (.int .i64 757) (.int .i64 757)).run Try.prog w = .ok (.slice (some ⟨w.heap.size, 0, none⟩) 757 757) (w.alloc (.cells (zeros757.map B).toArray 5)) := by
  intro ty hty
  obtain ⟨i5, hi, hz, hs, hb⟩ := info_parts info5'
  have hmk := run_makeSlice (P := Try.prog) w 23 5 i5 _ Try.underlying23 hi hz .i64 .i64 757 757 (by omega) (by omega) (by rw [hs]; decide) (by rw [hb]; decide) (by omega)
  rw [hs] at hmk
  have hcells : madeCells (Value.int .u8 0).cells ((757 : Int).toNat * 1) = (zeros757.map B).toArray := by
    unfold zeros757
    rw [List.map_replicate]
    have h := toList_madeCells_one (Value.int .u8 0) 757
    exact Array.toList_inj.1 h
  rw [hcells] at hmk
  exact hmk
theorem sees_zeros757 (w : World) : Sees (w.alloc (.cells (zeros757.map B).toArray 5)) (.slice (some ⟨w.heap.size, 0, none⟩) 757 757) zeros757 := by
  have := Sees.lit w zeros757 (0, 0) (by rw [zeros757_len]; unfold maxLen; omega)
  rw [zeros757_len] at this
  exact this
theorem Ext.alloc (w : World) (o : Obj) : Below w.heap.size w (w.alloc o) := (Below.refl _ _).alloc (Nat.le_refl _) _
theorem Wk5.save2 : PS.save Wk5.D1 Wk5.P1 zeros757 = (3, Wk5.D1, Wk5.P1) := Wk5.has1.long (by rw [Wk5.len1', zeros757_len]; decide)
set_option maxRecDepth 100000 in
set_option maxHeartbeats 1600000 in
theorem wakes5_any (w : World) : Calls Try.prog 34 #[] w fun e w' => e = .returned (.bool true) ∧ Below w.heap.size w w' := by
  have k23 := fun (w : World) (C : Array Value) (n c : Nat) => Lib.run_convert_bytes_const (P := Try.prog) w 23 5 C n c Try.underlying23 Try.underlying5
  have hmk := fun w => run_zeros757 w 23 rfl
  go_enter Try.func34, Try.ntmps34
  go_wp2_with (go_at_call 36; refine (st_new _ 9 (by omega)).mono ?_; rintro e w1 ⟨p, own, rfl, h⟩; have H := hid (show St w own p Wk5.D0 w1 from h); clear h)
  refine (pst_open_has H.out Wk5.has0).mono ?_
  rintro e w2 ⟨q, t, vb, vl, rfl, hp, hqf, hvb, hvl, hb⟩
  obtain ⟨ab, cb, rfl, -⟩ := hvb.sees.form0
  obtain ⟨al, cl, rfl⟩ := hvl.form
  have HP := hid hp
  clear hp hqf hvb hvl hb H
  rw [show ([] : List UInt8).length = 0 from rfl, show ([] : List (List UInt8)).length = 0 from rfl]
  have hS := Sees.lit w2 Wk5.hi2 (2, 3) (by decide)
  have hcells : (Wk5.hi2.map B).toArray = #[Value.int .u8 104, Value.int .u8 105] := rfl
  rw [hcells] at hS
  have hb : Below w2.heap.size w2 (w2.alloc (.cells #[.int .u8 104, .int .u8 105] 5 (2, 3))) := (Below.refl _ _).alloc (Nat.le_refl _) _
  have hap := pst_save (HP.out.on hb) (v := .slice (some ⟨w2.heap.size, 0, none⟩) 2 2) (b := Wk5.hi2) hS (by decide) (by decide)
  have hap2 : Calls Try.prog 42 #[.pointer (some ⟨q, 0, none⟩), .slice (some ⟨w2.heap.size, 0, none⟩) 2 2] (w2.alloc (.cells #[.int .u8 104, .int .u8 105] 5 (2, 3))) fun e w' => e = .returned (I 0) ∧ ∃ t' own', PSt w own' p q t' Wk5.P1 Wk5.D1 w' := hap.mono fun e w' hx => by
    obtain ⟨h1, t', own', h2, -⟩ := hx
    exact ⟨by rw [h1]; show Ending.returned (I Wk5.X1.1) = _; rw [Wk5.x1], t', own', h2⟩
  have HAP := hid hap2
  clear hS hcells hb hap hap2
  go_wp2_with (first | (go_at_call_of 42 (Value.int .i64 0); fail) | (go_at_call 42; refine HAP.out.mono ?_; rintro e w4 ⟨rfl, t', own', hp⟩; have HP2 := hid hp; clear hp; have HOP := hid (ops_any w4 p own' Wk5.D1 HP2.out.drum.at'); rw [Wk5.ops1] at HOP; clear HAP) | (go_at_call 59; refine HOP.out.mono ?_; rintro e w5 ⟨rfl, rfl⟩; clear HOP))
  have hs2 := pst_save (HP2.out.on (Ext.alloc w4 (.cells (zeros757.map B).toArray 5))) (sees_zeros757 w4) (by rw [zeros757_len]; decide) (by rw [Wk5.waits1]; decide)
  rw [Wk5.save2] at hs2
  have HS2 := hid hs2
  clear hs2
  refine HS2.out.mono ?_
  rintro e w5 ⟨rfl, t2, own2, hp, -⟩
  have HP3 := hid hp
  clear hp HS2 HP2
  go_wp2_with fail
  refine (pst_open_has HP3.out.drum Wk5.has1).mono ?_
  rintro e w6 ⟨q6, t6, vb6, vl6, rfl, hp, hqf, hvb, hvl, hb⟩
  obtain ⟨ab6, cb6, rfl, -⟩ := hvb.sees.form0
  obtain ⟨al6, cl6, rfl⟩ := hvl.form
  have HP6 := hid hp
  have HVB := hid hvb.sees
  clear hp hqf hvb hvl hb HP3
  rw [show (Wk5.hi2).length = 2 from rfl, show ([] : List (List UInt8)).length = 0 from rfl] at *
  go_wp2_with fail
  have hrd := st_read HP6.out.drum 5 (by omega)
  rw [Wk5.rd1] at hrd
  refine hrd.mono ?_
  rintro e w7 ⟨v7, rfl, hst, ho, hb⟩
  have ho' : w7.ownsRow w6.heap.size 5 1 v7 256 (Wk5.G1.map B) := own_len ho Wk5.len1 rfl
  obtain ⟨g6, cap6, rfl, g1, g2, g3, g4⟩ := own_slice ho' (by decide)
  have HS6 := hid (own_sees' ho' Wk5.len1)
  have HB6 := hid (hst.below)
  have HVB7 := hid (HVB.out.below hb)
  clear hrd hst ho hb ho' HP6
  rcases HVB7.out.open with ⟨h0, -⟩ | ⟨gb, ob, cb7, -, hvb7, -, -, hcb⟩
  · cases h0
  have hgb : gb < w7.heap.size := block_lt_of_cell (hcb 0 104 rfl)
  simp only [Value.slice.injEq] at hvb7
  obtain ⟨rfl, -, rfl⟩ := hvb7
  clear hcb
  go_wp2_with fail
  obtain ⟨n0, hn0⟩ : ∃ n, n = w7.heap.size := ⟨_, rfl⟩
  have hgn : g6 < n0 := by omega
  have k1 : ∀ w', AllBut n0 w7.drew w' → (convert 23 9 (.slice (some ⟨g6, 0, none⟩) 14 cap6)).run Try.prog w' = .ok (.string (str (Wk5.G1.take 14))) w' := fun w' hh => run_str Try.underlying23 Try.underlying5 Try.underlying9 (hh.sees (by
    have h0 := HS6.out
    have := Sees.take (g := g6) (off := 0) (n := 256) (cap := cap6) (L := Wk5.G1) h0 14 (by rw [Wk5.len1]; omega)
    exact this.drew) (fun k hk => by have h2 : g6 = k := Option.some.inj hk; have h3 : w7.drew.heap.size = w7.heap.size := rfl; exact ⟨by omega, by omega⟩))
  have k3 : ∀ w', AllBut n0 w7.drew w' → (convert 23 9 (.slice (some ⟨gb, ob, none⟩) 2 cb6)).run Try.prog w' = .ok (.string ⟨#[104, 105]⟩) w' := fun w' hh => run_str (l := Wk5.hi2) Try.underlying23 Try.underlying5 Try.underlying9 (hh.sees HVB7.out.drew (fun k hk => by have h2 : gb = k := Option.some.inj hk; have h3 : w7.drew.heap.size = w7.heap.size := rfl; exact ⟨by omega, by omega⟩))
  have HN0 := hid hn0
  have hcap : (14 : Int) ≤ (cap6 : Int) := by omega
  clear hn0 g1 g2 g3 g4 HVB7 HVB
  refine wp_region_order (AllBut n0) [] [(0,0),(1,0),(2,0),(3,0),(4,0),(5,0),(6,0),(7,0),(8,0),(9,0),(10,0),(11,0),(12,0),(13,0),(14,0),(15,0),(16,0),(17,0),(18,0),(19,0),(20,1),(21,1),(22,1),(23,0),(24,0),(25,0),(26,0)] _ (by kernel_rfl) rfl AllBut.refl AllBut.trans (by kernel_rfl) (by simp only [pick, List.getElem?_toArray, List.getElem?_cons_zero, List.getElem?_cons_succ]; rfl) (fun c a d v w h => by cases d <;> exact h) ?_
  refine wpK_q (v := ?_) (a' := ?_) (by rfl) (fun w' hR => ?_) ?_ ?_
  rotate_left 2
  · go_simp; with_reducible rfl
  · simp only [Act.put, List.setIfInBounds_toArray, List.set_cons_zero, List.set_cons_succ]; rfl
  refine wpK_q (v := ?_) (a' := ?_) (by rfl) (fun w' hR => ?_) ?_ ?_
  rotate_left 2
  · go_simp; with_reducible rfl
  · simp only [Act.put, List.setIfInBounds_toArray, List.set_cons_zero, List.set_cons_succ]; rfl
  refine wpK_q (v := ?_) (a' := ?_) (by rfl) (fun w' hR => ?_) ?_ ?_
  rotate_left 2
  · go_simp; with_reducible rfl
  · simp only [Act.put, List.setIfInBounds_toArray, List.set_cons_zero, List.set_cons_succ]; rfl
  refine wpK_q (v := ?_) (a' := ?_) (by rfl) (fun w' hR => ?_) ?_ ?_
  rotate_left 2
  · go_simp; with_reducible rfl
  · simp only [Act.put, List.setIfInBounds_toArray, List.set_cons_zero, List.set_cons_succ]; rfl
  refine wpK_q (v := ?_) (a' := ?_) (by rfl) (fun w' hR => ?_) ?_ ?_
  rotate_left 2
  · go_simp; with_reducible rfl
  · simp only [Act.put, List.setIfInBounds_toArray, List.set_cons_zero, List.set_cons_succ]; rfl
  refine wpK_q (v := ?_) (a' := ?_) (by rfl) (fun w' hR => ?_) ?_ ?_
  rotate_left 2
  · go_simp; with_reducible rfl
  · simp only [Act.put, List.setIfInBounds_toArray, List.set_cons_zero, List.set_cons_succ]; rfl
  refine wpK_q (v := ?_) (a' := ?_) (by rfl) (fun w' hR => ?_) ?_ ?_
  rotate_left 2
  · go_simp; with_reducible rfl
  · simp only [Act.put, List.setIfInBounds_toArray, List.set_cons_zero, List.set_cons_succ]; rfl
  refine wpK_q (v := ?_) (a' := ?_) (by rfl) (fun w' hR => ?_) ?_ ?_
  rotate_left 2
  · go_simp; with_reducible rfl
  · simp only [Act.put, List.setIfInBounds_toArray, List.set_cons_zero, List.set_cons_succ]; rfl
  refine wpK_q (v := ?_) (a' := ?_) (by rfl) (fun w' hR => ?_) ?_ ?_
  rotate_left 2
  · go_simp; with_reducible rfl
  · simp only [Act.put, List.setIfInBounds_toArray, List.set_cons_zero, List.set_cons_succ]; rfl
  refine wpK_q (v := ?_) (a' := ?_) (by rfl) (fun w' hR => ?_) ?_ ?_
  rotate_left 2
  · go_simp; with_reducible rfl
  · simp only [Act.put, List.setIfInBounds_toArray, List.set_cons_zero, List.set_cons_succ]; rfl
  refine wpK_q (v := ?_) (a' := ?_) (by rfl) (fun w' hR => ?_) ?_ ?_
  rotate_left 2
  · go_simp; with_reducible rfl
  · simp only [Act.put, List.setIfInBounds_toArray, List.set_cons_zero, List.set_cons_succ]; rfl
  refine wpK_q (v := ?_) (a' := ?_) (by rfl) (fun w' hR => ?_) ?_ ?_
  rotate_left 2
  · go_simp; with_reducible rfl
  · simp only [Act.put, List.setIfInBounds_toArray, List.set_cons_zero, List.set_cons_succ]; rfl
  refine wpK_q (v := ?_) (a' := ?_) (by rfl) (fun w' hR => ?_) ?_ ?_
  rotate_left 2
  · go_simp; with_reducible rfl
  · simp only [Act.put, List.setIfInBounds_toArray, List.set_cons_zero, List.set_cons_succ]; rfl
  refine wpK_q (v := ?_) (a' := ?_) (by rfl) (fun w' hR => ?_) ?_ ?_
  rotate_left 2
  · go_simp; with_reducible rfl
  · simp only [Act.put, List.setIfInBounds_toArray, List.set_cons_zero, List.set_cons_succ]; rfl
  refine wpK_q (v := ?_) (a' := ?_) (by rfl) (fun w' hR => ?_) ?_ ?_
  rotate_left 2
  · go_simp; with_reducible rfl
  · simp only [Act.put, List.setIfInBounds_toArray, List.set_cons_zero, List.set_cons_succ]; rfl
  refine wpK_q (v := ?_) (a' := ?_) (by rfl) (fun w' hR => ?_) ?_ ?_
  rotate_left 2
  · go_simp; with_reducible rfl
  · simp only [Act.put, List.setIfInBounds_toArray, List.set_cons_zero, List.set_cons_succ]; rfl
  refine wpK_q (v := ?_) (a' := ?_) (by rfl) (fun w' hR => ?_) ?_ ?_
  rotate_left 2
  · go_simp; with_reducible rfl
  · simp only [Act.put, List.setIfInBounds_toArray, List.set_cons_zero, List.set_cons_succ]; rfl
  refine wpK_q (v := ?_) (a' := ?_) (by rfl) (fun w' hR => ?_) ?_ ?_
  rotate_left 2
  · go_simp; with_reducible rfl
  · simp only [Act.put, List.setIfInBounds_toArray, List.set_cons_zero, List.set_cons_succ]; rfl
  refine wpK_q (v := ?_) (a' := ?_) (by rfl) (fun w' hR => ?_) ?_ ?_
  rotate_left 2
  · go_simp; with_reducible rfl
  · simp only [Act.put, List.setIfInBounds_toArray, List.set_cons_zero, List.set_cons_succ]; rfl
  refine wpK_q (v := ?_) (a' := ?_) (by rfl) (fun w' hR => ?_) ?_ ?_
  rotate_left 2
  · go_simp; with_reducible rfl
  · simp only [Act.put, List.setIfInBounds_toArray, List.set_cons_zero, List.set_cons_succ]; rfl
  refine wpK_v (v := .slice (some ⟨w7.heap.size, 0, none⟩) 2 2) (w' := w7.drew.alloc (.cells #[.int .u8 104, .int .u8 105] 5)) (by rfl) (by go_simp) (fun _ => ⟨Mod.alloc _⟩) (by simp only [Act.put, List.setIfInBounds_toArray, List.set_cons_zero, List.set_cons_succ]; rfl) ?_
  refine wpK_v (v := .slice (some ⟨w7.heap.size, 0, none⟩) 2 2) (w' := w7.drew.alloc (.cells #[.int .u8 104, .int .u8 105] 5 (2, 3))) (by rfl) (by have hh := val_of (k23 w7.drew #[.int .u8 104, .int .u8 105] 2 2); exact hh) (fun _ => ⟨?_⟩) (by simp only [Act.put, List.setIfInBounds_toArray, List.set_cons_zero, List.set_cons_succ]; rfl) ?_
  · refine ⟨rfl, rfl, rfl, by simp, fun k hk ho => ?_⟩
    have h1 : w7.drew.heap.size = n0 := HN0.out.symm
    have h2 : (w7.drew.alloc (.cells #[.int .u8 104, .int .u8 105] 5)).heap.size = n0 + 1 := by simp [HN0.out]
    rw [Below.heap_alloc _ _ _ (by omega), Below.heap_alloc _ _ _ (by omega)]
  have hS := Sees.lit w7.drew Wk5.hi2 (2, 3) (by decide)
  have hb7 : Below w7.heap.size w7 (w7.drew.alloc (.cells #[.int .u8 104, .int .u8 105] 5 (2, 3))) := Ext.trans _ _ _ (Ext.drew w7) ((Below.refl _ _).alloc (Nat.le_refl _) _)
  have HS7 : Hid (Sees (w7.drew.alloc (.cells #[.int .u8 104, .int .u8 105] 5 (2, 3))) (.slice (some ⟨w7.heap.size, 0, none⟩) 2 2) Wk5.hi2) := hid hS
  have HB7 := hid hb7
  have hz7 : (w7.drew.alloc (.cells #[.int .u8 104, .int .u8 105] 5 (2, 3))).heap.size = n0 + 1 := by simp [HN0.out]
  generalize w7.drew.alloc (.cells #[.int .u8 104, .int .u8 105] 5 (2, 3)) = w8 at *
  clear hS hb7
  refine wpK_call Try.func76 (by kernel_rfl) rfl rfl (by rfl) #[.slice (some ⟨w7.heap.size, 0, none⟩) 2 2] (by simp only [List.map_toArray, List.map_cons, List.map_nil]; rfl) ?_
  refine (rframe5_any w8 _ Wk5.hi2 HS7.out (by decide)).mono ?_
  rintro e w9 ⟨v8, rfl, ho8, hb8⟩
  refine ⟨_, rfl, fun _ => ⟨Mod.of_below _ hb8⟩, ?_⟩
  have hs8 := own_sees ho8
  have hl8 := fun k hk => own_lt ho8 k hk
  rw [← Wk5.frame1] at hs8
  have k2 : ∀ w', AllBut n0 w9 w' → (convert 23 9 v8).run Try.prog w' = .ok (.string (str (Wk5.G1.take 14))) w' := fun w' hh => run_str Try.underlying23 Try.underlying5 Try.underlying9 (hh.sees hs8 (fun k hk => by have := hl8 k hk; exact ⟨this.2, by omega⟩))
  have HB8 := hid hb8
  clear ho8 hb8 hs8 hl8 k1 k3 hz7
  refine wpK_q (v := ?_) (a' := ?_) (by rfl) (fun w' hR => ?_) ?_ ?_
  rotate_left 2
  · go_simp; with_reducible rfl
  · simp only [Act.put, List.setIfInBounds_toArray, List.set_cons_zero, List.set_cons_succ]; rfl
  refine wpK_q (v := ?_) (a' := ?_) (by rfl) (fun w' hR => ?_) ?_ ?_
  rotate_left 2
  · go_simp; with_reducible rfl
  · simp only [Act.put, List.setIfInBounds_toArray, List.set_cons_zero, List.set_cons_succ]; rfl
  refine wpK_q (v := ?_) (a' := ?_) (by rfl) (fun w' hR => ?_) ?_ ?_
  rotate_left 2
  · go_simp; with_reducible rfl
  · simp only [Act.put, List.setIfInBounds_toArray, List.set_cons_zero, List.set_cons_succ]; rfl
  refine wpK_q (v := ?_) (a' := ?_) (by rfl) (fun w' hR => ?_) ?_ ?_
  rotate_left 2
  · go_simp; with_reducible rfl
  · simp only [Act.put, List.setIfInBounds_toArray, List.set_cons_zero, List.set_cons_succ]; rfl
  refine wpK_done ?_
  clear k2
  go_wp2
  go_ret
  exact ⟨rfl, HB6.out.trans ((Ext.trans _ _ _ HB7.out HB8.out).mono HB6.out.size)⟩
end Go.Proofs.Ytoaeapnkefjpaaa

namespace Go.Proofs.Ytoaeapnkefjpaaa
open Go.RowKit
set_option linter.unusedVariables false
set_option linter.unusedSimpArgs false

section
variable {w0 w : World} {own : Nat → Prop} {p q t : Nat} {P : PS} {D : DS} {snap : List UInt8} {recs : List (List UInt8)}
theorem pst_append_has (h : PSt w0 own p q t P D w) (hh : PS.Has D P snap recs) {v : Value} {r : List UInt8} (hv : Sees w v r) (hr : r.length ≤ 65536) (hs : P.T.pos + 12 + r.length ≤ P.T.size) (hN : D.waits.length ≤ 800000000) :
    Calls Try.prog 40 #[.pointer (some ⟨q, 0, none⟩), v] w fun e w' => e = .returned (I 0) ∧ ∃ own' P' D', PSt w0 own' p q t P' D' w' ∧ PS.Has D' P' snap (recs ++ [r]) ∧ P'.T.pos = P.T.pos + 12 + r.length ∧ P'.T.size = P.T.size ∧ P'.half = P.half ∧ D'.waits.length ≤ D.waits.length + 400 ∧ D'.safe.length = D.safe.length ∧ (∀ k, own' k → own k ∨ w.heap.size ≤ k) ∧ Mod (fun k => own k ∨ k = t) w w' ∧
      ∀ k, k < D.safe.length → k < P.T.lo ∨ P.T.hi ≤ k → DS.look D'.safe D'.waits k = DS.look D.safe D.waits k := by
  obtain ⟨h1, h2, h3, h4, h5, h6, h7, h8⟩ := hh.append hr hs
  refine (pst_append h hv hN).mono fun e w' hx => ?_
  obtain ⟨k1, own', k2, k3, k4⟩ := hx
  rw [h1] at k1
  exact ⟨k1, own', _, _, k2, h2, h4, by unfold TS.size; rw [h5, h6], h7, PS.append_waits D P r, h3, k3, k4, h8⟩
theorem pst_append_full (h : PSt w0 own p q t P D w) (hh : PS.Has D P snap recs) {v : Value} {r : List UInt8} (hv : Sees w v r) (hr : r.length ≤ 65536) (hs : P.T.size < P.T.pos + 12 + r.length) (hN : D.waits.length ≤ 800000000) :
    Calls Try.prog 40 #[.pointer (some ⟨q, 0, none⟩), v] w fun e w' => e = .returned (I 22) ∧ ∃ own', PSt w0 own' p q t P D w' ∧ (∀ k, own' k → own k ∨ w.heap.size ≤ k) ∧ Mod (fun k => own k ∨ k = t) w w' := by
  have := pst_append h hv hN
  rw [hh.full hr hs] at this
  exact this
theorem pst_save_has (h : PSt w0 own p q t P D w) (hh : PS.Has D P snap recs) {v : Value} {b : List UInt8} (hv : Sees w v b) (hb : b.length ≤ 1073741824) (hK : PS.takes b.length < PS.hp D.safe.length) (hN : D.waits.length ≤ 700000000) :
    Calls Try.prog 42 #[.pointer (some ⟨q, 0, none⟩), v] w fun e w' => e = .returned (I 0) ∧ ∃ t' own' P' D', PSt w0 own' p q t' P' D' w' ∧ PS.Has D' P' b [] ∧ P'.T.pos = 0 ∧ P'.T.size = 256 * (PS.hp D.safe.length - PS.takes b.length) ∧ P'.half = 1 - P.half ∧ D'.safe.length = D.safe.length ∧ D' = (PS.save D P b).2.1 ∧ (t' = t ∨ w.heap.size ≤ t') ∧ (∀ k, own' k → own k ∨ w.heap.size ≤ k) ∧ Mod (fun k => own k ∨ k = q) w w' ∧
      ∀ k, k < D.safe.length → k ≠ 0 → k < 1 + (1 - P.half) * PS.hp D.safe.length ∨ 1 + (1 - P.half) * PS.hp D.safe.length + PS.hp D.safe.length ≤ k → DS.look D'.safe D'.waits k = DS.look D.safe D.waits k := by
  obtain ⟨h1, h2, h3, h4, h5, h6, h7⟩ := hh.save (by omega) hK
  refine (pst_save h hv hb hN).mono fun e w' hx => ?_
  obtain ⟨k1, t', own', k2, k3, k4, k5⟩ := hx
  rw [h1] at k1
  exact ⟨k1, t', own', _, _, k2, h2, h5, h6, h4, h3, rfl, k3, k4, k5, h7⟩
theorem pst_save_long (h : PSt w0 own p q t P D w) (hh : PS.Has D P snap recs) {v : Value} {b : List UInt8} (hv : Sees w v b) (hb : b.length ≤ 1073741824) (hK : PS.hp D.safe.length ≤ PS.takes b.length) (hN : D.waits.length ≤ 700000000) :
    Calls Try.prog 42 #[.pointer (some ⟨q, 0, none⟩), v] w fun e w' => e = .returned (I 3) ∧ ∃ t' own', PSt w0 own' p q t' P D w' ∧ (t' = t ∨ w.heap.size ≤ t') ∧ (∀ k, own' k → own k ∨ w.heap.size ≤ k) ∧ Mod (fun k => own k ∨ k = q) w w' := by
  have := pst_save h hv hb hN
  rw [hh.long hK] at this
  exact this
theorem pst_count (h : PSt w0 own p q t P D w) (hh : PS.Has D P snap recs) : Calls Try.prog 54 #[.pointer (some ⟨q, 0, none⟩)] w fun e w' => e = .returned (I recs.length) ∧ w = w' := by
  have := pair_count w q t p D.safe.length P h.pair
  rw [hh.tape.count] at this
  exact this
end
/-- Save leaves no write waiting, if all goes well. -/
theorem DS.Flush_none {D : DS} (h : D.Flush.1 = 0) : D.Flush.2.waits.length = 0 := by
  unfold DS.Flush at h ⊢
  by_cases h1 : D.off = true
  · rw [if_pos h1] at h; cases h
  · rw [if_neg h1] at h ⊢
    simp only at h ⊢
    by_cases h2 : D.op.off = true
    · rw [if_pos h2] at h; cases h
    · rw [if_neg h2]; rfl
theorem PS.lay_none {D : DS} {a hf : Nat} {b : List UInt8} (h : (PS.lay D a hf b).1 = 0) : (PS.lay D a hf b).2.waits.length = 0 := by
  unfold PS.lay at h ⊢
  simp only at h ⊢
  split at h
  · exact absurd h (by assumption)
  · split at h
    · exact absurd h (by assumption)
    · split at h
      · exact absurd h (by assumption)
      · split at h
        · exact absurd h (by assumption)
        · rw [if_neg (by assumption), if_neg (by assumption), if_neg (by assumption), if_neg (by assumption)]
          exact DS.Flush_none h
theorem PS.save_none {D : DS} {P : PS} {b : List UInt8} (h : (PS.save D P b).1 = 0) (h2 : P.sick = 0) : (PS.save D P b).2.1.waits.length = 0 := by
  unfold PS.save at h ⊢
  split at h
  · cases h
  · rw [if_neg (by assumption)]
    split at h
    · exact absurd h2 (by assumption)
    · rw [if_neg (by assumption)]
      simp only at h ⊢
      split at h
      · exact absurd h (by assumption)
      · rename_i h3
        rw [if_neg h3]
        have h4 := PS.lay_none (Decidable.not_not.1 h3)
        split at h
        · exact absurd h (by assumption)
        · rw [if_neg (by assumption)]
          exact h4
/-- Between two records. -/
def FuIn (w : World) (p q n : Nat) (snap r : List UInt8) (S C k : Nat) (wr : World) : Prop := ∃ t own P D recs, PSt w own p q t P D wr ∧ PS.Has D P snap recs ∧ recs.length = k ∧ P.T.pos = k * (12 + r.length) ∧ P.T.size = S ∧ P.half ≤ 1 ∧ D.waits.length ≤ C + 400 * k ∧ D.safe.length = n
theorem FuIn.bound {w wr : World} {p q n S C k : Nat} {snap r : List UInt8} (h : FuIn w p q n snap r S C k wr) : k * (12 + r.length) ≤ S := by
  obtain ⟨t, own, P, D, recs, h1, h2, h3, h4, h5, -⟩ := h
  have := h2.tape.ok.pos
  omega
theorem FuIn.more {w wr : World} {p q n S C k : Nat} {snap r : List UInt8} (h : FuIn w p q n snap r S C k wr) {v : Value} (hv : Sees w v r) (hr : r.length ≤ 65536) (hs : (k + 1) * (12 + r.length) ≤ S) (hC : C + 400 * k ≤ 100000000) :
    Calls Try.prog 40 #[.pointer (some ⟨q, 0, none⟩), v] wr fun e w' => e = .returned (I 0) ∧ FuIn w p q n snap r S C (k + 1) w' := by
  obtain ⟨t, own, P, D, recs, h1, h2, h3, h4, h5, h6, h7, h8⟩ := h
  have e : (k + 1) * (12 + r.length) = k * (12 + r.length) + 12 + r.length := by rw [Nat.succ_mul]; omega
  refine (pst_append_has h1 h2 (hv.below h1.drum.below) hr (by omega) (by omega)).mono fun e w' hx => ?_
  obtain ⟨k1, own', P', D', x1, x2, x3, x4, x5, x6, x7, -⟩ := hx
  have y1 : (recs ++ [r]).length = k + 1 := by rw [List.length_append, h3, List.length_singleton]
  have y2 : P'.T.pos = (k + 1) * (12 + r.length) := by omega
  have y3 : D'.waits.length ≤ C + 400 * (k + 1) := by rw [Nat.mul_succ, ← Nat.add_assoc]; exact Nat.le_trans x6 (Nat.add_le_add_right h7 400)
  exact ⟨k1, t, own', P', D', _, x1, x2, y1, y2, x4.trans h5, x5 ▸ h6, y3, x7.trans h8⟩
theorem FuIn.full {w wr : World} {p q n S C k : Nat} {snap r : List UInt8} (h : FuIn w p q n snap r S C k wr) {v : Value} (hv : Sees w v r) (hr : r.length ≤ 65536) (hs : S < (k + 1) * (12 + r.length)) (hC : C + 400 * k ≤ 100000000) :
    Calls Try.prog 40 #[.pointer (some ⟨q, 0, none⟩), v] wr fun e w' => e = .returned (I 22) ∧ ∃ own t P D recs, (PSt w own p q t P D w' ∧ PS.Has D P snap recs ∧ recs.length = k ∧ P.half ≤ 1 ∧ D.waits.length ≤ C + 400 * k ∧ D.safe.length = n) ∧ FuIn w p q n snap r S C k w' ∧ (Hid (Calls Try.prog 59 #[.pointer (some ⟨p, 0, none⟩)] w' fun e w'' => e = .returned (I D.ops) ∧ w' = w'')) ∧
      Hid (Calls Try.prog 40 #[.pointer (some ⟨q, 0, none⟩), v] w' fun e w'' => e = .returned (I 22) ∧ ∃ own', PSt w own' p q t P D w'' ∧ FuIn w p q n snap r S C k w'' ∧ Hid (Calls Try.prog 59 #[.pointer (some ⟨p, 0, none⟩)] w'' fun e w3 => e = .returned (I D.ops) ∧ w'' = w3) ∧ Hid (Calls Try.prog 54 #[.pointer (some ⟨q, 0, none⟩)] w'' fun e w3 => e = .returned (I k) ∧ w'' = w3)) := by
  obtain ⟨t, own, P, D, recs, h1, h2, h3, h4, h5, h6, h7, h8⟩ := h
  have e : (k + 1) * (12 + r.length) = k * (12 + r.length) + 12 + r.length := by rw [Nat.succ_mul]; omega
  refine (pst_append_full h1 h2 (hv.below h1.drum.below) hr (by omega) (by omega)).mono fun e w' hx => ?_
  obtain ⟨k1, own', x1, -⟩ := hx
  refine ⟨k1, own', t, P, D, recs, ⟨x1, h2, h3, h6, h7, h8⟩, ⟨t, own', P, D, recs, x1, h2, h3, h4, h5, h6, h7, h8⟩, hid (ops_any w' p own' D x1.drum.at'), hid ?_⟩
  refine (pst_append_full x1 h2 (hv.below x1.drum.below) hr (by omega) (by omega)).mono fun e w' hx => ?_
  obtain ⟨k1, own2, x1, -⟩ := hx
  have hc := pst_count x1 h2
  rw [h3] at hc
  exact ⟨k1, own2, x1, ⟨t, own2, P, D, recs, x1, h2, h3, h4, h5, h6, h7, h8⟩, hid (ops_any w' p own2 D x1.drum.at'), hid hc⟩
set_option maxRecDepth 100000 in
set_option maxHeartbeats 3200000 in
theorem full_walk (w : World) (n0 : Int) (hn0 : -9223372036854775808 ≤ n0 ∧ n0 ≤ 9223372036854775807) (a1 : Option Addr) (cap1 : Nat) (r : List UInt8) (h1 : Sees w (.slice a1 r.length cap1) r) (a2 : Option Addr) (cap2 : Nat) (b : List UInt8) (h2 : Sees w (.slice a2 b.length cap2) b) :
    Calls Try.prog 22 #[I n0, .slice a1 r.length cap1, .slice a2 b.length cap2] w fun e w' => e = .returned (.bool true) ∧ Below w.heap.size w w' := by
  have H1 := hid h1
  have H2 := hid h2
  obtain ⟨_, _, hv1, m1, m1', -⟩ := h1
  obtain ⟨_, _, hv2, m2, m2', -⟩ := h2
  unfold maxLen at m1' m2'
  clear hv1 hv2
  have hcases : (n0 < 5 ∨ 60 < n0 ∨ 2048 < r.length ∨ 8192 < b.length) ∨ (5 ≤ n0 ∧ n0 ≤ 60 ∧ r.length ≤ 2048 ∧ b.length ≤ 8192) := by omega
  rcases hcases with c | ⟨c1, c2, c3, c4⟩
  · have e1 : (decide (n0 < 5) = true) ∨ (decide (n0 < 5) = false ∧ decide (60 < n0) = true) ∨ (decide (n0 < 5) = false ∧ decide (60 < n0) = false ∧ decide ((2048 : Int) < (r.length : Int)) = true) ∨ (decide (n0 < 5) = false ∧ decide (60 < n0) = false ∧ decide ((2048 : Int) < (r.length : Int)) = false ∧ decide ((8192 : Int) < (b.length : Int)) = true) := by
      simp only [decide_eq_true_eq, decide_eq_false_iff_not]; omega
    clear c
    rcases e1 with e1 | ⟨e1, e2⟩ | ⟨e1, e2, e3⟩ | ⟨e1, e2, e3, e4⟩
    all_goals
      go_enter Try.func22, Try.ntmps22
      go_wp2_with (go_at_call 34; refine (wakes5_any _).mono ?_; rintro e w1 ⟨rfl, hb⟩; have HB := hid hb; clear hb)
      go_ret
      exact ⟨rfl, HB.out⟩
  obtain ⟨n, rfl⟩ : ∃ n : Nat, n0 = (n : Int) := ⟨n0.toNat, by omega⟩
  have e1 : decide ((n : Int) < 5) = false := decide_eq_false (by omega)
  have e2 : decide ((60 : Int) < (n : Int)) = false := decide_eq_false (by omega)
  have e3 : decide ((2048 : Int) < (r.length : Int)) = false := decide_eq_false (by omega)
  have e4 : decide ((8192 : Int) < (b.length : Int)) = false := decide_eq_false (by omega)
  have hcl : DS.clamp (n : Int) = n := by unfold DS.clamp; omega
  have HCL := hid hcl
  have HAS := hid (PS.Has.new (n := n) (by omega) (by omega))
  clear hcl
  go_enter Try.func22, Try.ntmps22
  go_wp2_with (first | (go_at_call 34; refine (wakes5_any _).mono ?_; rintro e w1 ⟨rfl, hb⟩; have HB := hid hb; clear hb) | (go_at_call 36; refine (st_new _ (n : Int) (by omega)).mono ?_; rw [HCL.out]; rintro e w2 ⟨p, own, rfl, h⟩; have HS := hid (h.back HB.out); clear h HB))
  refine (pst_open_has HS.out HAS.out).mono ?_
  rintro e w3 ⟨q, t, vb, vl, rfl, hp, hqf, hvb, hvl, hb⟩
  obtain ⟨ab, cb, rfl, -⟩ := hvb.sees.form0
  obtain ⟨al, cl, rfl⟩ := hvl.form
  have hpn : (n - 1) / 2 = PS.hp n := rfl
  have hln : (DS.new n).safe.length = n := by show (List.replicate n page0).length = n; rw [List.length_replicate]
  have HIN : Hid (FuIn w p q n [] r (256 * (PS.hp n - 1)) 0 0 w3) := hid ⟨t, own, _, _, [], hp, HAS.out, rfl, by simp, by unfold TS.size PS.hp; simp only; omega, Nat.zero_le _, Nat.le_refl _, hln⟩
  clear hp hqf hvb hvl hb HS HAS e1 e2 e3 e4 hln hpn
  have hS1 : PS.hp n ≤ 29 ∧ 2 ≤ PS.hp n := by unfold PS.hp; omega
  obtain ⟨m, hm⟩ : ∃ m, m = 12 + r.length := ⟨_, rfl⟩
  go_wp2
  go_loopw [12] (fun i wr => ∃ k : Nat, i = I k ∧ Hid (FuIn w p q n [] r (256 * (PS.hp n - 1)) 0 k wr)) (fun i _ => 8000 - (intOf i).toNat)
  case atStart => exact ⟨0, rfl, HIN⟩
  case round =>
    clear HIN
    obtain ⟨k, rfl, HIN⟩ := hrel
    have hkb := HIN.out.bound
    rw [← hm] at hkb
    have hk12 : k * 12 ≤ k * m := Nat.mul_le_mul_left _ (by omega)
    have hk1 : k ≤ 620 := by omega
    clear hk12
    by_cases hfit : (k + 1) * m ≤ 256 * (PS.hp n - 1)
    · have hap := HIN.out.more H1.out (by omega) (by rw [← hm]; exact hfit) (by omega)
      have HAP := hid hap
      clear hap
      go_wp2_with (go_at_call 40; refine HAP.out.mono ?_; rintro e w4 ⟨rfl, hx⟩; have HX := hid hx; clear hx)
      go_roundw
      case rel => exact ⟨k + 1, by go_num, HX⟩
      case measure => simp [intOf]; omega
    · have hap := HIN.out.full H1.out (by omega) (by rw [← hm]; omega) (by omega)
      have HAP := hid hap
      clear hap
      go_wp2_with (first | (go_at_call_of 40 (Value.int .i64 0); fail) | (go_at_call 40; refine HAP.out.mono ?_; rintro e w4 ⟨rfl, own1, t1, P1, D1, recs1, hx, hf, ho, ha⟩; have HX := hid hx; have HOP := ho; have HA2 := ha; clear hx hf ho ha HAP) | (go_at_call 40; refine HA2.out.mono ?_; rintro e w4 ⟨rfl, own2, hx2, hf2, ho2, hc2⟩; have HX2 := hid hx2; have HOP := ho2; have HC2 := hc2; clear hx2 hf2 ho2 hc2 HA2) | (go_at_call 59; refine HOP.out.mono ?_; rintro e w5 ⟨rfl, rfl⟩) | (go_at_call 54; refine HC2.out.mono ?_; rintro e w5 ⟨rfl, rfl⟩; clear HC2))
      obtain ⟨hp1, hh1, hr1, hf1, hw1, hl1⟩ := HX.out
      by_cases hK : PS.takes b.length < PS.hp n
      rotate_left
      · have f1 : decide ((12 + (b.length : Int) + 255) / 256 < ((n : Int) - 1) / 2) = false := decide_eq_false (by unfold PS.takes PS.hp at hK; omega)
        have hsv := pst_save_long HX2.out hh1 (H2.out.below HX2.out.drum.below) (by omega) (by rw [hl1]; omega) (by omega)
        have HSV := hid hsv
        have HH1 := hid hh1
        have HR1 := hid hr1
        clear hsv hp1 hh1 hr1 hf1 hw1 hl1 HX HX2
        rw [f1]
        refine HSV.out.mono ?_
        rintro e w6 ⟨rfl, t6, own6, hp6, -⟩
        have hct := pst_count hp6 HH1.out
        rw [HR1.out] at hct
        have HCT := hid hct
        have HOP := hid (ops_any w6 p own6 D1 hp6.drum.at')
        have HBE := hid hp6.drum.below
        clear hct hp6 HSV f1
        go_wp2_with (first | (go_at_call 59; refine HOP.out.mono ?_; rintro e w5 ⟨rfl, rfl⟩) | (go_at_call 54; refine HCT.out.mono ?_; rintro e w5 ⟨rfl, rfl⟩))
        go_ret
        exact ⟨rfl, HBE.out⟩
      · have f1 : decide ((12 + (b.length : Int) + 255) / 256 < ((n : Int) - 1) / 2) = true := decide_eq_true (by unfold PS.takes PS.hp at hK; omega)
        have hsv := pst_save_has HX2.out hh1 (H2.out.below HX2.out.drum.below) (by omega) (by rw [hl1]; exact hK) (by omega)
        have hs0 := PS.save_none (hh1.save (b := b) (by omega) (by rw [hl1]; exact hK)).1 hh1.sick
        have HSV := hid hsv
        have HS0 := hid hs0
        have HL1 := hid hl1
        clear hsv hs0 hp1 hh1 hr1 hf1 hw1 hl1 HX HX2
        rw [f1]
        refine HSV.out.mono ?_
        rintro e w6 ⟨rfl, t6, own6, P6, D6, hp6, hh6, hps, hsz, hhf, hln, hD6, -⟩
        have hct := pst_count hp6 hh6
        rw [List.length_nil] at hct
        rw [HL1.out] at hsz hln
        have HCT := hid hct
        have HIN : Hid (FuIn w p q n b r (256 * (PS.hp n - PS.takes b.length)) 0 0 w6) := hid ⟨t6, own6, P6, D6, [], hp6, hh6, rfl, by rw [hps, Nat.zero_mul], hsz, hh6.half, by rw [hD6, HS0.out]; exact Nat.zero_le _, hln⟩
        clear hct hp6 hh6 hps hsz hhf hln hD6 HSV HS0 HL1
        have htk1 : 1 ≤ PS.takes b.length := by unfold PS.takes; omega
        have hkn : 256 * ((((n : Int) - 1) / 2) - (12 + (b.length : Int) + 255) / 256) = ((256 * (PS.hp n - PS.takes b.length) : Nat) : Int) := by unfold PS.takes PS.hp at *; omega
        go_wp2_with (go_at_call 54; refine HCT.out.mono ?_; rintro e w5 ⟨rfl, rfl⟩; clear HCT)
        clear f1 hfit hk1 hkb
        obtain ⟨S2, hS2⟩ : ∃ S2, S2 = 256 * (PS.hp n - PS.takes b.length) := ⟨_, rfl⟩
        rw [← hS2] at HIN hkn
        have hS2b : S2 ≤ 7424 := by omega
        go_loopw [16] (fun i wr => ∃ k : Nat, i = I k ∧ Hid (FuIn w p q n b r S2 0 k wr)) (fun i _ => 8000 - (intOf i).toNat)
        case atStart => exact ⟨0, rfl, HIN⟩
        case round =>
          clear HIN
          obtain ⟨k, rfl, HIN⟩ := hrel
          have hkb := HIN.out.bound
          rw [← hm] at hkb
          have hk12 : k * 12 ≤ k * m := Nat.mul_le_mul_left _ (by omega)
          have hk1 : k ≤ 620 := by omega
          clear hk12
          by_cases hfit : (k + 1) * m ≤ S2
          · have hap := HIN.out.more H1.out (by omega) (by rw [← hm]; exact hfit) (by omega)
            have HAP := hid hap
            clear hap
            go_wp2_with (go_at_call 40; refine HAP.out.mono ?_; rintro e w4 ⟨rfl, hx⟩; have HX := hid hx; clear hx)
            go_roundw
            case rel => exact ⟨k + 1, by go_num, HX⟩
            case measure => simp [intOf]; omega
          · have hap := HIN.out.full H1.out (by omega) (by rw [← hm]; omega) (by omega)
            have HAP := hid hap
            have hdiv : S2 / m = k := Nat.div_eq_of_lt_le hkb (by omega)
            have hdi : (S2 : Int) / (12 + (r.length : Int)) = (k : Int) := by
              rw [← hdiv, Int.natCast_ediv, hm]; rfl
            have HDI := hid hdi
            have hc2 : (256 * ((PS.hp n - PS.takes b.length : Nat) : Int)) = (S2 : Int) := by rw [hS2]; omega
            have HC2 := hid hc2
            clear hap hdiv hdi hc2
            go_wp2_with (go_at_call 40; refine HAP.out.mono ?_; rintro e w4 ⟨rfl, own1, t1, P1, D1, recs1, hx, hf, ho, ha⟩; have HX := hid hx; clear hx hf ho ha HAP)
            obtain ⟨hp7, hh7, hr7, -⟩ := HX.out
            have hct := pst_count hp7 hh7
            rw [hr7] at hct
            have HCT := hid hct
            have HBE := hid hp7.drum.below
            clear hp7 hh7 hr7 hct HX
            refine HCT.out.mono ?_
            rintro e w9 ⟨rfl, rfl⟩
            go_wp2
            go_ret
            refine ⟨?_, HBE.out⟩
            rw [HC2.out, HDI.out]
            simp
namespace pairFull
theorem walkAll (n0 : Int) (hn0 : -9223372036854775808 ≤ n0 ∧ n0 ≤ 9223372036854775807) (a1 : Option Addr) (cap1 : Nat) (r : List UInt8) {w : World} (h1 : Sees w (.slice a1 r.length cap1) r) (a2 : Option Addr) (cap2 : Nat) (b : List UInt8) (h2 : Sees w (.slice a2 b.length cap2) b) (w' : World) (e : w = w') :
    Calls Try.prog 22 #[I n0, .slice a1 r.length cap1, .slice a2 b.length cap2] w' fun e w'' => e = .returned (.bool true) ∧ Below w'.heap.size w' w'' := by
  subst e
  exact full_walk w n0 hn0 a1 cap1 r h1 a2 cap2 b h2
end pairFull
end Go.Proofs.Ytoaeapnkefjpaaa

namespace Go.Proofs.Ytoaeapnkefjpaaa
open Go.RowKit
set_option linter.unusedVariables false
set_option linter.unusedSimpArgs false

theorem info9s : (Try.prog.info? 9).map (fun i => (i.zero, i.size, i.bytes)) = some (some (.string ⟨#[]⟩), 1, 16) := by kernel_rfl
/-- Between two saves. -/
def TuIn (w : World) (p q n hf k : Nat) (wr : World) : Prop := ∃ t own P D snap recs, PSt w own p q t P D wr ∧ PS.Has D P snap recs ∧ P.half = hf ∧ D.waits.length ≤ 400 * k ∧ D.safe.length = n
/-- A record, whether there is room or not. -/
theorem TuIn.try {w wr : World} {p q n hf k : Nat} {r : List UInt8} (h : TuIn w p q n hf k wr) {v : Value} (hv : Sees w v r) (hr : r.length ≤ 65536) (hk : k ≤ 100000) :
    Calls Try.prog 40 #[.pointer (some ⟨q, 0, none⟩), v] wr fun e w' => ∃ c, e = .returned (I c) ∧ TuIn w p q n hf (k + 1) w' := by
  obtain ⟨t, own, P, D, snap, recs, h1, h2, h3, h4, h5⟩ := h
  have hv' := hv.below h1.drum.below
  by_cases hs : P.T.pos + 12 + r.length ≤ P.T.size
  · refine (pst_append_has h1 h2 hv' hr hs (by omega)).mono fun e w' hx => ?_
    obtain ⟨k1, own', P', D', x1, x2, x3, x4, x5, x6, x7, -⟩ := hx
    exact ⟨0, k1, t, own', P', D', _, _, x1, x2, x5.trans h3, by rw [Nat.mul_succ]; exact Nat.le_trans x6 (Nat.add_le_add_right h4 400), x7.trans h5⟩
  · refine (pst_append_full h1 h2 hv' hr (by omega) (by omega)).mono fun e w' hx => ?_
    obtain ⟨k1, own', x1, -⟩ := hx
    exact ⟨22, k1, t, own', P, D, _, _, x1, h2, h3, by omega, h5⟩
/-- The strings of the first j pages. -/
def wasL (D : DS) (j : Nat) : List Value := (List.range j).map fun i => Value.string (str (DS.look D.safe D.waits i))
theorem wasL_len (D : DS) (j : Nat) : (wasL D j).length = j := by unfold wasL; simp
theorem wasL_snoc (D : DS) (j : Nat) : wasL D (j + 1) = wasL D j ++ [Value.string (str (DS.look D.safe D.waits j))] := by unfold wasL; rw [List.range_succ, List.map_append]; rfl
theorem wasL_at (D : DS) {i j : Nat} (h : i < j) : (wasL D j)[i]? = some (Value.string (str (DS.look D.safe D.waits i))) := by unfold wasL; rw [List.getElem?_map, List.getElem?_range h]; rfl
theorem Sees.cell0 {w : World} {g n cap : Nat} {l : List UInt8} (h : Sees w (.slice (some ⟨g, 0, none⟩) n cap) l) {i : Nat} {c : UInt8} (hi : l[i]? = some c) : w.cell? ⟨g, i, none⟩ = some (B c) := by
  obtain ⟨ao, cp, hv, h1, h2, h3⟩ := h
  simp only [Value.slice.injEq] at hv
  obtain ⟨rfl, -, -⟩ := hv
  obtain ⟨g', off', he, hc⟩ := h3 (by have := (List.getElem?_eq_some_iff.1 hi).1; omega)
  simp only [Option.some.injEq, Addr.mk.injEq, and_true] at he
  obtain ⟨rfl, rfl⟩ := he
  have := hc i c hi
  rwa [Nat.zero_add] at this
/-- One page read, of a drum whose power is on. -/
theorem st_look {w0 w : World} {own : Nat → Prop} {p : Nat} {D : DS} (h : St w0 own p D w) (ho : D.off = false) {a : Nat} (ha : a < D.safe.length) :
    Calls Try.prog 58 #[.pointer (some ⟨p, 0, none⟩), I a] w fun e w' => ∃ g cap, e = .returned (.tuple #[.slice (some ⟨g, 0, none⟩) 256 cap, I 0]) ∧ (DS.look D.safe D.waits a).length = 256 ∧ Sees w' (.slice (some ⟨g, 0, none⟩) 256 cap) (DS.look D.safe D.waits a) ∧ w.heap.size ≤ g ∧ g < w'.heap.size ∧ Below w.heap.size w w' := by
  have hn := h.at'.ok.n2
  have hll : (DS.look D.safe D.waits a).length = 256 := DS.look_len h.at'.ok.page h.at'.ok.wait ha
  have hrd := st_read h (a : Int) (by omega)
  rw [DS.read_ok ho ha] at hrd
  refine hrd.mono ?_
  rintro e w' ⟨v, rfl, -, h2, h3⟩
  have ho' : w'.ownsRow w.heap.size 5 1 v 256 ((DS.look D.safe D.waits a).map B) := own_len h2 hll rfl
  obtain ⟨g, cap, rfl, g1, g2, g3, g4⟩ := own_slice ho' (by decide)
  exact ⟨g, cap, rfl, hll, own_sees' ho' hll, g3, g4, h3⟩
set_option maxRecDepth 100000 in
set_option maxHeartbeats 6400000 in
theorem turns_walk (w : World) (n0 : Int) (hn0 : -9223372036854775808 ≤ n0 ∧ n0 ≤ 9223372036854775807) (a0 : Option Addr) (cap0 : Nat) (L : List (List UInt8)) (h0 : Shows w (.slice a0 L.length cap0) L) (a1 : Option Addr) (cap1 : Nat) (r : List UInt8) (h1 : Sees w (.slice a1 r.length cap1) r) :
    Calls Try.prog 21 #[I n0, .slice a0 L.length cap0, .slice a1 r.length cap1] w fun e w' => e = .returned (.bool true) ∧ Below w.heap.size w w' := by
  have H0 := hid h0
  have H1 := hid h1
  obtain ⟨_, _, _, m0⟩ := h0.len
  obtain ⟨_, _, hv1, m1, m1', -⟩ := h1
  unfold maxLen at m0 m1'
  clear h0 hv1
  have hcases : (n0 < 5 ∨ 60 < n0 ∨ 12 < L.length ∨ 2048 < r.length) ∨ (5 ≤ n0 ∧ n0 ≤ 60 ∧ L.length ≤ 12 ∧ r.length ≤ 2048) := by omega
  rcases hcases with c | ⟨c1, c2, c3, c4⟩
  · have e1 : (decide (n0 < 5) = true) ∨ (decide (n0 < 5) = false ∧ decide (60 < n0) = true) ∨ (decide (n0 < 5) = false ∧ decide (60 < n0) = false ∧ decide ((12 : Int) < (L.length : Int)) = true) ∨ (decide (n0 < 5) = false ∧ decide (60 < n0) = false ∧ decide ((12 : Int) < (L.length : Int)) = false ∧ decide ((2048 : Int) < (r.length : Int)) = true) := by
      simp only [decide_eq_true_eq, decide_eq_false_iff_not]; omega
    clear c
    rcases e1 with e1 | ⟨e1, e2⟩ | ⟨e1, e2, e3⟩ | ⟨e1, e2, e3, e4⟩
    all_goals
      go_enter Try.func21, Try.ntmps21
      go_wp2_with (go_at_call 34; refine (wakes5_any _).mono ?_; rintro e w1 ⟨rfl, hb⟩; have HB := hid hb; clear hb)
      go_ret
      exact ⟨rfl, HB.out⟩
  obtain ⟨n, rfl⟩ : ∃ n : Nat, n0 = (n : Int) := ⟨n0.toNat, by omega⟩
  have e1 : decide ((n : Int) < 5) = false := decide_eq_false (by omega)
  have e2 : decide ((60 : Int) < (n : Int)) = false := decide_eq_false (by omega)
  have e3 : decide ((12 : Int) < (L.length : Int)) = false := decide_eq_false (by omega)
  have e4 : decide ((2048 : Int) < (r.length : Int)) = false := decide_eq_false (by omega)
  have hcl : DS.clamp (n : Int) = n := by unfold DS.clamp; omega
  have HCL := hid hcl
  have HAS := hid (PS.Has.new (n := n) (by omega) (by omega))
  clear hcl
  go_enter Try.func21, Try.ntmps21
  go_wp2_with (first | (go_at_call 34; refine (wakes5_any _).mono ?_; rintro e w1 ⟨rfl, hb⟩; have HB := hid hb; clear hb) | (go_at_call 36; refine (st_new _ (n : Int) (by omega)).mono ?_; rw [HCL.out]; rintro e w2 ⟨p, own, rfl, h⟩; have HS := hid (h.back HB.out); clear h HB))
  refine (pst_open_has HS.out HAS.out).mono ?_
  rintro e w3 ⟨q, t, vb, vl, rfl, hp, hqf, hvb, hvl, hb⟩
  obtain ⟨ab, cb, rfl, -⟩ := hvb.sees.form0
  obtain ⟨al, cl, rfl⟩ := hvl.form
  have hln : (DS.new n).safe.length = n := by show (List.replicate n page0).length = n; rw [List.length_replicate]
  have HIN : Hid (TuIn w p q n 0 0 w3) := hid ⟨t, own, _, _, [], [], hp, HAS.out, rfl, Nat.le_refl _, hln⟩
  clear hp hqf hvb hvl hb HS HAS e1 e2 e3 e4 hln
  obtain ⟨Z, hZ⟩ : ∃ Z, Z = PS.hp n := ⟨_, rfl⟩
  have hZi : ((n : Int) - 1) / 2 = (Z : Int) := by rw [hZ]; unfold PS.hp; omega
  have hZ2 : 2 ≤ Z ∧ 2 * Z + 1 ≤ n := by rw [hZ]; unfold PS.hp; omega
  have HZ := hid hZ
  clear hZ
  go_wp2
  rw [hZi]
  clear hZi
  go_loopw [12, 58] (fun h i wr => ∃ k hf : Nat, k ≤ L.length ∧ i = I k ∧ h = I hf ∧ hf ≤ 1 ∧ Hid (TuIn w p q n hf (2 * k) wr)) (fun _ i _ => L.length - (intOf i).toNat)
  case atStart => exact ⟨0, 0, by omega, rfl, rfl, by omega, HIN⟩
  case round =>
    clear HIN
    obtain ⟨k, hf, hk, rfl, rfl, hf1, HIN⟩ := hrel
    by_cases hlt : k < L.length
    rotate_left
    · have hke : k = L.length := by omega
      subst hke
      obtain ⟨t, own, P, D, snap, recs, h1, -⟩ := HIN.out
      have HBE := hid h1.drum.below
      clear h1 HIN
      go_wp2
      go_ret
      exact ⟨rfl, HBE.out⟩
    obtain ⟨s, hr⟩ : ∃ s, L[k]? = some s := ⟨_, List.getElem?_eq_getElem hlt⟩
    obtain ⟨g, off, u, hga, hc, hs⟩ := H0.out.at hr
    have hbw : Below w.heap.size w wr := by obtain ⟨t, own, P, D, snap, recs, h1, -⟩ := HIN.out; exact h1.drum.below
    have hc' := (World.cell?_of_block (w := w) (a := ⟨g, off + k, none⟩) (hbw.block g (cell_lt hc))).trans hc
    have hs' := hs
    obtain ⟨au, cu, rfl, hul⟩ := hs'.form0
    have HBW := hid hbw
    have HSU := hid hs
    by_cases h6 : 8192 < s.length
    · have h6' : decide ((8192 : Int) < (s.length : Int)) = true := decide_eq_true (by omega)
      subst hga
      clear hs' hbw hc hs
      go_wp2
      go_ret
      exact ⟨rfl, HBW.out⟩
    have h6' : decide ((8192 : Int) < (s.length : Int)) = false := decide_eq_false (by omega)
    have htry := HIN.out.try H1.out (by omega) (by omega)
    have HTRY := hid htry
    subst hga
    clear hs' hbw hc hs htry
    go_wp2_with (go_at_call 40; refine HTRY.out.mono ?_; rintro e w4 ⟨c, rfl, hx⟩; have HX := hid hx; clear hx HTRY)
    clear hc' HIN HBW
    obtain ⟨t1, own1, P1, D1, snap1, recs1, hp1, hh1, hf2, hw1, hl1⟩ := HX.out
    have HP1 := hid hp1
    have HH1 := hid hh1
    have HF2 := hid hf2
    have HL1 := hid hl1
    have hw2 : D1.waits.length ≤ 400 * (2 * k + 1) := hw1
    clear hp1 hh1 hf2 hw1 hl1 HX
    go_loopw [16, 17] (fun v i wx => ∃ j : Nat, j ≤ n ∧ i = I j ∧ Hid (wx.ownsRow w4.heap.size 9 1 v j (wasL D1 j)) ∧ Hid (Below w4.heap.size w4 wx)) (fun _ i _ => n - (intOf i).toNat)
    case atStart => exact ⟨0, by omega, rfl, hid ⟨rfl, .inl ⟨rfl, rfl⟩⟩, hid (Below.refl _ _)⟩
    case round =>
      obtain ⟨j, hj, rfl, HO, HB⟩ := hrel
      obtain ⟨av, cv, rfl⟩ := own_form HO.out
      by_cases hjn : j < n
      · have hrd := st_look (HP1.out.on HB.out).drum HH1.out.live.on (a := j) (by rw [HL1.out]; exact hjn)
        have HRD := hid hrd
        clear hrd
        go_upto_region 23 with (go_at_call 58; refine HRD.out.mono ?_; rintro e w6 ⟨g6, cap6, rfl, hl6, hs6, -, -, hb6⟩; rw [← hl6] at hs6; have k6 := run_str (P := Try.prog) Try.underlying23 Try.underlying5 Try.underlying9 hs6; rw [hl6] at k6; have HB6 := hid hb6; clear hs6 hb6)
        have HO6 := hid (own_below HO.out HB6.out)
        have hz6 := HB.out.size
        have hz7 := HB6.out.size
        go_wp2_with (at_builtin; refine wpList_app rfl (.tmp 81) (.tmp 84) 103 rfl w4.heap.size 9 (.string ⟨#[]⟩) 1 16 Try.underlying103 info9s rfl (by decide) j (wasL D1 j) 1 [.string (str (DS.look D1.safe D1.waits j))] (HO6.out.alloc _) (Src.new w6 1 9 [_] rfl (fun x hx => by obtain rfl := List.mem_singleton.1 hx; rfl)) ?h63 ?hb ?hbase ?_)
        case h63 => unfold maxLen; omega
        case hb => omega
        case hbase => simp; omega
        intro v' w8 hown hgrow hat
        have HB8 : Hid (Below w4.heap.size w4 w8) := hid ((HB.out.trans (HB6.out.mono hz6)).trans ((Ext.alloc w6 _).mono (by omega)) |>.grown hgrow (by simp; omega) (fun k hk => (own_lt HO.out k hk).1))
        obtain ⟨av', cv', rfl⟩ := own_form hown
        have HO8 : Hid (w8.ownsRow w4.heap.size 9 1 (.slice av' (j + 1) cv') (j + 1) (wasL D1 (j + 1))) := hid (by rw [wasL_snoc]; exact hown)
        clear hown hgrow hat HO6 HO HB HB6 HRD hz6 hz7 k6
        go_wp2
        go_roundw
        case rel => exact ⟨j + 1, by omega, by go_num, HO8, HB8⟩
        case measure => simp [intOf]; omega
      · obtain rfl : n = j := by omega
        clear hjn hj
        by_cases hK : PS.takes s.length < PS.hp n
        · have hsv := pst_save_has (HP1.out.on HB.out) HH1.out (HSU.out.below (HP1.out.on HB.out).drum.below) (by omega) (by rw [HL1.out]; exact hK) (by omega)
          have HSV := hid hsv
          have hs0 := PS.save_none (HH1.out.save (b := s) (by omega) (by rw [HL1.out]; exact hK)).1 HH1.out.sick
          have HS0 := hid hs0
          clear hsv hs0
          obtain ⟨hf', hhf⟩ : ∃ hf', hf' = 1 - hf := ⟨_, rfl⟩
          have hwr : IntKind.i64.wrap (1 - (hf : Int)) = (hf' : Int) := by rw [IntWalk.i64_in _ (by omega)]; omega
          have hf2 : hf' ≤ 1 := by omega
          have HHF := hid hhf
          clear hhf
          go_upto_region 29 with (go_at_call 42; refine HSV.out.mono ?_; rintro e w5 ⟨rfl, t5, own5, P5, D5, y1, y2, -, -, y5, y6, y7, -, y9, y10, y11⟩; have HY1 := hid y1; have HY2 := hid y2; have HY5 := hid y5; have HY6 := hid y6; have HY7 := hid y7; have HY9 := hid y9; have HY10 := hid y10; have HY11 := hid y11; clear y1 y2 y5 y6 y7 y9 y10 y11 HSV)
          have HW5 : Hid (D5.waits.length ≤ 400 * (2 * (k + 1))) := hid (by rw [HY7.out, HS0.out]; exact Nat.zero_le _)
          have HL5 : Hid (D5.safe.length = n) := hid (HY6.out.trans HL1.out)
          have HHH : Hid (P5.half = hf') := hid (by rw [HY5.out, HF2.out, HHF.out])
          have hql := HP1.out.pair.ql
          have HROW : Hid (w5.ownsRow w4.heap.size 9 1 (.slice av n cv) n (wasL D1 n)) := hid (own_mod HO.out (fun m hm => HY10.out.block m (own_lt HO.out m hm).2 (fun e => by
            have h3 := (own_lt HO.out m hm).1
            rcases e with e | e
            · have := HP1.out.drum.at'.lt m e; omega
            · omega)))
          have HLK : Hid (∀ m, m < n → m ≠ 0 → (m < 1 + hf' * Z ∨ 1 + hf' * Z + Z ≤ m) → DS.look D5.safe D5.waits m = DS.look D1.safe D1.waits m) := hid (fun m h1 h2 h3 => HY11.out m (by rw [HL1.out]; exact h1) h2 (by rw [HL1.out, HF2.out, ← HHF.out, ← HZ.out]; exact h3))
          clear HY5 HY6 HY7 HY9 HY10 HY11 HS0 HO HB hql hK hwr HHF HF2 HL1 HP1 HH1 HSU
          obtain ⟨gw, cw, hav, -⟩ := own_slice HROW.out (by omega)
          simp only [Value.slice.injEq] at hav
          obtain ⟨rfl, -, rfl⟩ := hav
          obtain ⟨A0, hA0⟩ : ∃ A0, A0 = hf' * Z := ⟨_, rfl⟩
          have hA1 : A0 ≤ 30 := by
            have : hf' * Z ≤ 1 * Z := Nat.mul_le_mul_right _ hf2
            omega
          have hmul : IntKind.i64.wrap ((hf' : Int) * (Z : Int)) = (A0 : Int) := by rw [hA0, ← Int.natCast_mul]; exact IntWalk.i64_in _ (by rw [← hA0]; omega)
          try rw [← hA0] at HLK
          have HA0 := hid hA0
          clear hA0
          go_wp2
          go_loopw [20] (fun i wy => ∃ j : Nat, j ≤ n ∧ i = I j ∧ Hid (Below w5.heap.size w5 wy)) (fun i _ => n - (intOf i).toNat)
          case atStart => exact ⟨0, by omega, rfl, hid (Below.refl _ _)⟩
          case round =>
            obtain ⟨j, hj, rfl, HB5⟩ := hrel
            by_cases hjn : j < n
            rotate_left
            · obtain rfl : n = j := by omega
              have HTU : Hid (TuIn w p q n hf' (2 * (k + 1)) wr) := hid ⟨t5, own5, P5, D5, _, _, HY1.out.on HB5.out, HY2.out, HHH.out, HW5.out, HL5.out⟩
              clear HLK HROW HB5 HY1 HY2 HHH HW5 HL5 hjn hmul
              go_wp2
              go_roundw
              case rel => exact ⟨k + 1, hf', by omega, by go_num, rfl, hf2, HTU⟩
              case measure => simp [intOf]; omega
            · have hrd := st_look (HY1.out.on HB5.out).drum HY2.out.live.on (a := j) (by rw [HL5.out]; exact hjn)
              have HRD := hid hrd
              clear hrd
              have hjI : (j : Int) < (n : Int) := by omega
              have hjI2 : (0 : Int) ≤ (j : Int) := by omega
              have c3 : j < 1 + A0 ∨ (1 + A0 ≤ j ∧ j < 1 + A0 + Z) ∨ (1 + A0 ≤ j ∧ 1 + A0 + Z ≤ j) := by omega
              rcases c3 with c3 | ⟨c3, c4⟩ | ⟨c3, c4⟩
              · by_cases hj0 : j = 0
                · subst hj0
                  have f3 : decide ((1 : Int) + (A0 : Int) ≤ ((0 : Nat) : Int)) = false := decide_eq_false (by omega)
                  have f3' : decide ((1 : Int) + (A0 : Int) ≤ 0) = false := decide_eq_false (by omega)
                  go_upto_region 34 with (go_at_call 58; refine HRD.out.mono ?_; rintro e wz ⟨g6, cap6, rfl, hl6, hs6, -, hg6, hb6⟩; have HS6 := hid hs6; have HL6 := hid hl6; have HB6 := hid (HB5.out.trans (hb6.mono HB5.out.size)); clear hs6 hl6 hb6)
                  have hwf : IntKind.i64.wrap (hf' : Int) = (hf' : Int) := IntWalk.i64_in _ (by omega)
                  have hrt := HY2.out.root
                  unfold PS.root at hrt
                  rw [HHH.out] at hrt
                  have kc : ∀ w', Ext wz.drew w' → w'.cell? ⟨g6, 0, none⟩ = some (.int .u8 (hf' : Int)) := fun w' hh => by
                    have hb0 : (DS.look D5.safe D5.waits 0)[0]? = some ((DS.look D5.safe D5.waits 0).getD 0 0) := by rw [List.getD_eq_getElem?_getD, List.getElem?_eq_getElem (by rw [HL6.out]; decide)]; rfl
                    have h1 := (HS6.out.drew.below hh).cell0 hb0
                    rw [h1]
                    show some (Value.int .u8 _) = some (Value.int .u8 _)
                    rw [hrt]
                  clear hrt
                  refine wp_region_order Ext [] [(0,0),(1,0),(2,0),(3,0),(4,0),(5,0),(6,0),(7,0),(8,0),(9,0),(10,0),(11,0),(12,0),(13,0),(14,0),(15,0),(16,0),(17,0),(18,0),(19,0),(20,0),(21,0),(22,0),(23,0),(24,0),(25,0),(26,0),(27,0),(28,0),(29,0),(30,0),(31,0),(32,0),(33,0),(34,0)] _ (by kernel_rfl) rfl Ext.refl Ext.trans (by kernel_rfl) (by simp only [pick, List.getElem?_toArray, List.getElem?_cons_zero, List.getElem?_cons_succ]; rfl) (fun c a d v w h => by cases d <;> exact h) ?_
                  refine wpK_q (v := ?_) (a' := ?_) (by rfl) (fun w' hR => ?_) ?_ ?_
                  rotate_left 2
                  · go_simp; with_reducible rfl
                  · simp only [Act.put, List.setIfInBounds_toArray, List.set_cons_zero, List.set_cons_succ]; rfl
                  refine wpK_q (v := ?_) (a' := ?_) (by rfl) (fun w' hR => ?_) ?_ ?_
                  rotate_left 2
                  · go_simp; with_reducible rfl
                  · simp only [Act.put, List.setIfInBounds_toArray, List.set_cons_zero, List.set_cons_succ]; rfl
                  refine wpK_q (v := ?_) (a' := ?_) (by rfl) (fun w' hR => ?_) ?_ ?_
                  rotate_left 2
                  · go_simp; with_reducible rfl
                  · simp only [Act.put, List.setIfInBounds_toArray, List.set_cons_zero, List.set_cons_succ]; rfl
                  refine wpK_q (v := ?_) (a' := ?_) (by rfl) (fun w' hR => ?_) ?_ ?_
                  rotate_left 2
                  · go_simp; with_reducible rfl
                  · simp only [Act.put, List.setIfInBounds_toArray, List.set_cons_zero, List.set_cons_succ]; rfl
                  refine wpK_q (v := ?_) (a' := ?_) (by rfl) (fun w' hR => ?_) ?_ ?_
                  rotate_left 2
                  · go_simp; with_reducible rfl
                  · simp only [Act.put, List.setIfInBounds_toArray, List.set_cons_zero, List.set_cons_succ]; rfl
                  refine wpK_q (v := ?_) (a' := ?_) (by rfl) (fun w' hR => ?_) ?_ ?_
                  rotate_left 2
                  · go_simp; with_reducible rfl
                  · simp only [Act.put, List.setIfInBounds_toArray, List.set_cons_zero, List.set_cons_succ]; rfl
                  refine wpK_q (v := ?_) (a' := ?_) (by rfl) (fun w' hR => ?_) ?_ ?_
                  rotate_left 2
                  · go_simp; with_reducible rfl
                  · simp only [Act.put, List.setIfInBounds_toArray, List.set_cons_zero, List.set_cons_succ]; rfl
                  refine wpK_q (v := ?_) (a' := ?_) (by rfl) (fun w' hR => ?_) ?_ ?_
                  rotate_left 2
                  · go_simp; with_reducible rfl
                  · simp only [Act.put, List.setIfInBounds_toArray, List.set_cons_zero, List.set_cons_succ]; rfl
                  refine wpK_q (v := ?_) (a' := ?_) (by rfl) (fun w' hR => ?_) ?_ ?_
                  rotate_left 2
                  · go_simp; with_reducible rfl
                  · simp only [Act.put, List.setIfInBounds_toArray, List.set_cons_zero, List.set_cons_succ]; rfl
                  refine wpK_q (v := ?_) (a' := ?_) (by rfl) (fun w' hR => ?_) ?_ ?_
                  rotate_left 2
                  · go_simp; with_reducible rfl
                  · simp only [Act.put, List.setIfInBounds_toArray, List.set_cons_zero, List.set_cons_succ]; rfl
                  refine wpK_q (v := ?_) (a' := ?_) (by rfl) (fun w' hR => ?_) ?_ ?_
                  rotate_left 2
                  · go_simp; with_reducible rfl
                  · simp only [Act.put, List.setIfInBounds_toArray, List.set_cons_zero, List.set_cons_succ]; rfl
                  refine wpK_q (v := ?_) (a' := ?_) (by rfl) (fun w' hR => ?_) ?_ ?_
                  rotate_left 2
                  · go_simp; with_reducible rfl
                  · simp only [Act.put, List.setIfInBounds_toArray, List.set_cons_zero, List.set_cons_succ]; rfl
                  refine wpK_q (v := ?_) (a' := ?_) (by rfl) (fun w' hR => ?_) ?_ ?_
                  rotate_left 2
                  · go_simp; with_reducible rfl
                  · simp only [Act.put, List.setIfInBounds_toArray, List.set_cons_zero, List.set_cons_succ]; rfl
                  refine wpK_q (v := ?_) (a' := ?_) (by rfl) (fun w' hR => ?_) ?_ ?_
                  rotate_left 2
                  · go_simp; with_reducible rfl
                  · simp only [Act.put, List.setIfInBounds_toArray, List.set_cons_zero, List.set_cons_succ]; rfl
                  refine wpK_q (v := ?_) (a' := ?_) (by rfl) (fun w' hR => ?_) ?_ ?_
                  rotate_left 2
                  · go_simp; with_reducible rfl
                  · simp only [Act.put, List.setIfInBounds_toArray, List.set_cons_zero, List.set_cons_succ]; rfl
                  refine wpK_q (v := ?_) (a' := ?_) (by rfl) (fun w' hR => ?_) ?_ ?_
                  rotate_left 2
                  · go_simp; with_reducible rfl
                  · simp only [Act.put, List.setIfInBounds_toArray, List.set_cons_zero, List.set_cons_succ]; rfl
                  refine wpK_q (v := ?_) (a' := ?_) (by rfl) (fun w' hR => ?_) ?_ ?_
                  rotate_left 2
                  · go_simp; with_reducible rfl
                  · simp only [Act.put, List.setIfInBounds_toArray, List.set_cons_zero, List.set_cons_succ]; rfl
                  refine wpK_q (v := ?_) (a' := ?_) (by rfl) (fun w' hR => ?_) ?_ ?_
                  rotate_left 2
                  · go_simp; with_reducible rfl
                  · simp only [Act.put, List.setIfInBounds_toArray, List.set_cons_zero, List.set_cons_succ]; rfl
                  refine wpK_off (a' := ?_) (by rfl) ?_ ?_
                  rotate_left
                  · simp only [Act.put, List.setIfInBounds_toArray, List.set_cons_zero, List.set_cons_succ]; rfl
                  refine wpK_off (a' := ?_) (by rfl) ?_ ?_
                  rotate_left
                  · simp only [Act.put, List.setIfInBounds_toArray, List.set_cons_zero, List.set_cons_succ]; rfl
                  refine wpK_off (a' := ?_) (by rfl) ?_ ?_
                  rotate_left
                  · simp only [Act.put, List.setIfInBounds_toArray, List.set_cons_zero, List.set_cons_succ]; rfl
                  refine wpK_off (a' := ?_) (by rfl) ?_ ?_
                  rotate_left
                  · simp only [Act.put, List.setIfInBounds_toArray, List.set_cons_zero, List.set_cons_succ]; rfl
                  refine wpK_off (a' := ?_) (by rfl) ?_ ?_
                  rotate_left
                  · simp only [Act.put, List.setIfInBounds_toArray, List.set_cons_zero, List.set_cons_succ]; rfl
                  refine wpK_off (a' := ?_) (by rfl) ?_ ?_
                  rotate_left
                  · simp only [Act.put, List.setIfInBounds_toArray, List.set_cons_zero, List.set_cons_succ]; rfl
                  refine wpK_q (v := ?_) (a' := ?_) (by rfl) (fun w' hR => ?_) ?_ ?_
                  rotate_left 2
                  · go_simp; with_reducible rfl
                  · simp only [Act.put, List.setIfInBounds_toArray, List.set_cons_zero, List.set_cons_succ]; rfl
                  refine wpK_q (v := ?_) (a' := ?_) (by rfl) (fun w' hR => ?_) ?_ ?_
                  rotate_left 2
                  · go_simp; with_reducible rfl
                  · simp only [Act.put, List.setIfInBounds_toArray, List.set_cons_zero, List.set_cons_succ]; rfl
                  refine wpK_off (a' := ?_) (by rfl) ?_ ?_
                  rotate_left
                  · simp only [Act.put, List.setIfInBounds_toArray, List.set_cons_zero, List.set_cons_succ]; rfl
                  refine wpK_off (a' := ?_) (by rfl) ?_ ?_
                  rotate_left
                  · simp only [Act.put, List.setIfInBounds_toArray, List.set_cons_zero, List.set_cons_succ]; rfl
                  refine wpK_off (a' := ?_) (by rfl) ?_ ?_
                  rotate_left
                  · simp only [Act.put, List.setIfInBounds_toArray, List.set_cons_zero, List.set_cons_succ]; rfl
                  refine wpK_off (a' := ?_) (by rfl) ?_ ?_
                  rotate_left
                  · simp only [Act.put, List.setIfInBounds_toArray, List.set_cons_zero, List.set_cons_succ]; rfl
                  refine wpK_off (a' := ?_) (by rfl) ?_ ?_
                  rotate_left
                  · simp only [Act.put, List.setIfInBounds_toArray, List.set_cons_zero, List.set_cons_succ]; rfl
                  refine wpK_off (a' := ?_) (by rfl) ?_ ?_
                  rotate_left
                  · simp only [Act.put, List.setIfInBounds_toArray, List.set_cons_zero, List.set_cons_succ]; rfl
                  refine wpK_off (a' := ?_) (by rfl) ?_ ?_
                  rotate_left
                  · simp only [Act.put, List.setIfInBounds_toArray, List.set_cons_zero, List.set_cons_succ]; rfl
                  refine wpK_q (v := ?_) (a' := ?_) (by rfl) (fun w' hR => ?_) ?_ ?_
                  rotate_left 2
                  · go_simp; with_reducible rfl
                  · simp only [Act.put, List.setIfInBounds_toArray, List.set_cons_zero, List.set_cons_succ]; rfl
                  refine wpK_q (v := ?_) (a' := ?_) (by rfl) (fun w' hR => ?_) ?_ ?_
                  rotate_left 2
                  · go_simp; with_reducible rfl
                  · simp only [Act.put, List.setIfInBounds_toArray, List.set_cons_zero, List.set_cons_succ]; rfl
                  refine wpK_done ?_
                  try clear kc
                  try clear kS kW
                  go_wp2
                  go_roundw
                  case rel => exact ⟨0 + 1, by omega, by go_num, hid (HB6.out.trans ((Ext.drew wz).mono HB6.out.size))⟩
                  case measure => simp [intOf]; omega
                · have f3 : decide ((1 : Int) + (A0 : Int) ≤ (j : Int)) = false := decide_eq_false (by omega)
                  have f0 : decide (0 < j) = true := decide_eq_true (by omega)
                  have f1 : ((j : Int) == 0) = false := by simpa using hj0
                  go_upto_region 34 with (go_at_call 58; refine HRD.out.mono ?_; rintro e wz ⟨g6, cap6, rfl, hl6, hs6, -, hg6, hb6⟩; have HS6 := hid hs6; have HL6 := hid hl6; have HB6 := hid (HB5.out.trans (hb6.mono HB5.out.size)); clear hs6 hl6 hb6)
                  obtain ⟨X, hX⟩ : ∃ X, X = DS.look D1.safe D1.waits j := ⟨_, rfl⟩
                  have hlk := HLK.out j hjn hj0 (by first | omega | trivial)
                  have kS : ∀ w', Ext wz.drew w' → (convert 23 9 (.slice (some ⟨g6, 0, none⟩) 256 cap6)).run Try.prog w' = .ok (.string (str X)) w' := fun w' hh => run_str Try.underlying23 Try.underlying5 Try.underlying9 (by rw [hX, ← hlk]; exact HS6.out.drew.below hh)
                  have kW : ∀ w', Ext wz.drew w' → w'.cell? ⟨gw, j, none⟩ = some (.string (str X)) := fun w' hh => by
                    have h1 := own_below HROW.out (HB6.out.trans ((Ext.trans _ _ _ (Ext.drew wz) hh).mono HB6.out.size))
                    rw [own_cell h1 (wasL_at D1 hjn), hX]
                  clear hlk hX
                  refine wp_region_order Ext [] [(0,0),(1,0),(2,0),(3,0),(4,0),(5,0),(6,0),(7,0),(8,0),(9,0),(10,0),(11,0),(12,0),(13,0),(14,0),(15,0),(16,0),(17,0),(18,0),(19,0),(20,0),(21,0),(22,0),(23,0),(24,0),(25,0),(26,0),(27,0),(28,0),(29,0),(30,0),(31,0),(32,0),(33,0),(34,0)] _ (by kernel_rfl) rfl Ext.refl Ext.trans (by kernel_rfl) (by simp only [pick, List.getElem?_toArray, List.getElem?_cons_zero, List.getElem?_cons_succ]; rfl) (fun c a d v w h => by cases d <;> exact h) ?_
                  refine wpK_q (v := ?_) (a' := ?_) (by rfl) (fun w' hR => ?_) ?_ ?_
                  rotate_left 2
                  · go_simp; with_reducible rfl
                  · simp only [Act.put, List.setIfInBounds_toArray, List.set_cons_zero, List.set_cons_succ]; rfl
                  refine wpK_q (v := ?_) (a' := ?_) (by rfl) (fun w' hR => ?_) ?_ ?_
                  rotate_left 2
                  · go_simp; with_reducible rfl
                  · simp only [Act.put, List.setIfInBounds_toArray, List.set_cons_zero, List.set_cons_succ]; rfl
                  refine wpK_q (v := ?_) (a' := ?_) (by rfl) (fun w' hR => ?_) ?_ ?_
                  rotate_left 2
                  · go_simp; with_reducible rfl
                  · simp only [Act.put, List.setIfInBounds_toArray, List.set_cons_zero, List.set_cons_succ]; rfl
                  refine wpK_q (v := ?_) (a' := ?_) (by rfl) (fun w' hR => ?_) ?_ ?_
                  rotate_left 2
                  · go_simp; with_reducible rfl
                  · simp only [Act.put, List.setIfInBounds_toArray, List.set_cons_zero, List.set_cons_succ]; rfl
                  refine wpK_q (v := ?_) (a' := ?_) (by rfl) (fun w' hR => ?_) ?_ ?_
                  rotate_left 2
                  · go_simp; with_reducible rfl
                  · simp only [Act.put, List.setIfInBounds_toArray, List.set_cons_zero, List.set_cons_succ]; rfl
                  refine wpK_q (v := ?_) (a' := ?_) (by rfl) (fun w' hR => ?_) ?_ ?_
                  rotate_left 2
                  · go_simp; with_reducible rfl
                  · simp only [Act.put, List.setIfInBounds_toArray, List.set_cons_zero, List.set_cons_succ]; rfl
                  refine wpK_off (a' := ?_) (by rfl) ?_ ?_
                  rotate_left
                  · simp only [Act.put, List.setIfInBounds_toArray, List.set_cons_zero, List.set_cons_succ]; rfl
                  refine wpK_off (a' := ?_) (by rfl) ?_ ?_
                  rotate_left
                  · simp only [Act.put, List.setIfInBounds_toArray, List.set_cons_zero, List.set_cons_succ]; rfl
                  refine wpK_off (a' := ?_) (by rfl) ?_ ?_
                  rotate_left
                  · simp only [Act.put, List.setIfInBounds_toArray, List.set_cons_zero, List.set_cons_succ]; rfl
                  refine wpK_off (a' := ?_) (by rfl) ?_ ?_
                  rotate_left
                  · simp only [Act.put, List.setIfInBounds_toArray, List.set_cons_zero, List.set_cons_succ]; rfl
                  refine wpK_off (a' := ?_) (by rfl) ?_ ?_
                  rotate_left
                  · simp only [Act.put, List.setIfInBounds_toArray, List.set_cons_zero, List.set_cons_succ]; rfl
                  refine wpK_off (a' := ?_) (by rfl) ?_ ?_
                  rotate_left
                  · simp only [Act.put, List.setIfInBounds_toArray, List.set_cons_zero, List.set_cons_succ]; rfl
                  refine wpK_q (v := ?_) (a' := ?_) (by rfl) (fun w' hR => ?_) ?_ ?_
                  rotate_left 2
                  · go_simp; with_reducible rfl
                  · simp only [Act.put, List.setIfInBounds_toArray, List.set_cons_zero, List.set_cons_succ]; rfl
                  refine wpK_q (v := ?_) (a' := ?_) (by rfl) (fun w' hR => ?_) ?_ ?_
                  rotate_left 2
                  · go_simp; with_reducible rfl
                  · simp only [Act.put, List.setIfInBounds_toArray, List.set_cons_zero, List.set_cons_succ]; rfl
                  refine wpK_q (v := ?_) (a' := ?_) (by rfl) (fun w' hR => ?_) ?_ ?_
                  rotate_left 2
                  · go_simp; with_reducible rfl
                  · simp only [Act.put, List.setIfInBounds_toArray, List.set_cons_zero, List.set_cons_succ]; rfl
                  refine wpK_q (v := ?_) (a' := ?_) (by rfl) (fun w' hR => ?_) ?_ ?_
                  rotate_left 2
                  · go_simp; with_reducible rfl
                  · simp only [Act.put, List.setIfInBounds_toArray, List.set_cons_zero, List.set_cons_succ]; rfl
                  refine wpK_q (v := ?_) (a' := ?_) (by rfl) (fun w' hR => ?_) ?_ ?_
                  rotate_left 2
                  · go_simp; with_reducible rfl
                  · simp only [Act.put, List.setIfInBounds_toArray, List.set_cons_zero, List.set_cons_succ]; rfl
                  refine wpK_q (v := ?_) (a' := ?_) (by rfl) (fun w' hR => ?_) ?_ ?_
                  rotate_left 2
                  · go_simp; with_reducible rfl
                  · simp only [Act.put, List.setIfInBounds_toArray, List.set_cons_zero, List.set_cons_succ]; rfl
                  refine wpK_q (v := ?_) (a' := ?_) (by rfl) (fun w' hR => ?_) ?_ ?_
                  rotate_left 2
                  · go_simp; with_reducible rfl
                  · simp only [Act.put, List.setIfInBounds_toArray, List.set_cons_zero, List.set_cons_succ]; rfl
                  refine wpK_q (v := ?_) (a' := ?_) (by rfl) (fun w' hR => ?_) ?_ ?_
                  rotate_left 2
                  · go_simp; with_reducible rfl
                  · simp only [Act.put, List.setIfInBounds_toArray, List.set_cons_zero, List.set_cons_succ]; rfl
                  refine wpK_q (v := ?_) (a' := ?_) (by rfl) (fun w' hR => ?_) ?_ ?_
                  rotate_left 2
                  · go_simp; with_reducible rfl
                  · simp only [Act.put, List.setIfInBounds_toArray, List.set_cons_zero, List.set_cons_succ]; rfl
                  refine wpK_q (v := ?_) (a' := ?_) (by rfl) (fun w' hR => ?_) ?_ ?_
                  rotate_left 2
                  · go_simp; with_reducible rfl
                  · simp only [Act.put, List.setIfInBounds_toArray, List.set_cons_zero, List.set_cons_succ]; rfl
                  refine wpK_q (v := ?_) (a' := ?_) (by rfl) (fun w' hR => ?_) ?_ ?_
                  rotate_left 2
                  · go_simp; with_reducible rfl
                  · simp only [Act.put, List.setIfInBounds_toArray, List.set_cons_zero, List.set_cons_succ]; rfl
                  refine wpK_q (v := ?_) (a' := ?_) (by rfl) (fun w' hR => ?_) ?_ ?_
                  rotate_left 2
                  · go_simp; with_reducible rfl
                  · simp only [Act.put, List.setIfInBounds_toArray, List.set_cons_zero, List.set_cons_succ]; rfl
                  refine wpK_q (v := ?_) (a' := ?_) (by rfl) (fun w' hR => ?_) ?_ ?_
                  rotate_left 2
                  · go_simp; with_reducible rfl
                  · simp only [Act.put, List.setIfInBounds_toArray, List.set_cons_zero, List.set_cons_succ]; rfl
                  refine wpK_q (v := ?_) (a' := ?_) (by rfl) (fun w' hR => ?_) ?_ ?_
                  rotate_left 2
                  · go_simp; with_reducible rfl
                  · simp only [Act.put, List.setIfInBounds_toArray, List.set_cons_zero, List.set_cons_succ]; rfl
                  refine wpK_q (v := ?_) (a' := ?_) (by rfl) (fun w' hR => ?_) ?_ ?_
                  rotate_left 2
                  · go_simp; with_reducible rfl
                  · simp only [Act.put, List.setIfInBounds_toArray, List.set_cons_zero, List.set_cons_succ]; rfl
                  refine wpK_q (v := ?_) (a' := ?_) (by rfl) (fun w' hR => ?_) ?_ ?_
                  rotate_left 2
                  · go_simp; with_reducible rfl
                  · simp only [Act.put, List.setIfInBounds_toArray, List.set_cons_zero, List.set_cons_succ]; rfl
                  refine wpK_q (v := ?_) (a' := ?_) (by rfl) (fun w' hR => ?_) ?_ ?_
                  rotate_left 2
                  · go_simp; with_reducible rfl
                  · simp only [Act.put, List.setIfInBounds_toArray, List.set_cons_zero, List.set_cons_succ]; rfl
                  refine wpK_q (v := ?_) (a' := ?_) (by rfl) (fun w' hR => ?_) ?_ ?_
                  rotate_left 2
                  · go_simp; with_reducible rfl
                  · simp only [Act.put, List.setIfInBounds_toArray, List.set_cons_zero, List.set_cons_succ]; rfl
                  refine wpK_q (v := ?_) (a' := ?_) (by rfl) (fun w' hR => ?_) ?_ ?_
                  rotate_left 2
                  · go_simp; with_reducible rfl
                  · simp only [Act.put, List.setIfInBounds_toArray, List.set_cons_zero, List.set_cons_succ]; rfl
                  refine wpK_q (v := ?_) (a' := ?_) (by rfl) (fun w' hR => ?_) ?_ ?_
                  rotate_left 2
                  · go_simp; with_reducible rfl
                  · simp only [Act.put, List.setIfInBounds_toArray, List.set_cons_zero, List.set_cons_succ]; rfl
                  refine wpK_q (v := ?_) (a' := ?_) (by rfl) (fun w' hR => ?_) ?_ ?_
                  rotate_left 2
                  · go_simp; with_reducible rfl
                  · simp only [Act.put, List.setIfInBounds_toArray, List.set_cons_zero, List.set_cons_succ]; rfl
                  refine wpK_q (v := ?_) (a' := ?_) (by rfl) (fun w' hR => ?_) ?_ ?_
                  rotate_left 2
                  · go_simp; with_reducible rfl
                  · simp only [Act.put, List.setIfInBounds_toArray, List.set_cons_zero, List.set_cons_succ]; rfl
                  refine wpK_q (v := ?_) (a' := ?_) (by rfl) (fun w' hR => ?_) ?_ ?_
                  rotate_left 2
                  · go_simp; with_reducible rfl
                  · simp only [Act.put, List.setIfInBounds_toArray, List.set_cons_zero, List.set_cons_succ]; rfl
                  refine wpK_done ?_
                  try clear kc
                  try clear kS kW
                  go_wp2
                  go_roundw
                  case rel => exact ⟨j + 1, by omega, by go_num, hid (HB6.out.trans ((Ext.drew wz).mono HB6.out.size))⟩
                  case measure => simp [intOf]; omega
              · have f3 : decide ((1 : Int) + (A0 : Int) ≤ (j : Int)) = true := decide_eq_true (by omega)
                have f4 : decide ((j : Int) < (1 : Int) + (A0 : Int) + (Z : Int)) = true := decide_eq_true (by omega)
                have f0 : decide (0 < j) = true := decide_eq_true (by omega)
                have hj0 : ¬ j = 0 := by omega
                have f1 : ((j : Int) == 0) = false := by simpa using hj0
                go_upto_region 34 with (go_at_call 58; refine HRD.out.mono ?_; rintro e wz ⟨g6, cap6, rfl, hl6, hs6, -, hg6, hb6⟩; have HS6 := hid hs6; have HL6 := hid hl6; have HB6 := hid (HB5.out.trans (hb6.mono HB5.out.size)); clear hs6 hl6 hb6)
                skip
                refine wp_region_order Ext [] [(0,0),(1,0),(2,0),(3,0),(4,0),(5,0),(6,0),(7,0),(8,0),(9,0),(10,0),(11,0),(12,0),(13,0),(14,0),(15,0),(16,0),(17,0),(18,0),(19,0),(20,0),(21,0),(22,0),(23,0),(24,0),(25,0),(26,0),(27,0),(28,0),(29,0),(30,0),(31,0),(32,0),(33,0),(34,0)] _ (by kernel_rfl) rfl Ext.refl Ext.trans (by kernel_rfl) (by simp only [pick, List.getElem?_toArray, List.getElem?_cons_zero, List.getElem?_cons_succ]; rfl) (fun c a d v w h => by cases d <;> exact h) ?_
                refine wpK_q (v := ?_) (a' := ?_) (by rfl) (fun w' hR => ?_) ?_ ?_
                rotate_left 2
                · go_simp; with_reducible rfl
                · simp only [Act.put, List.setIfInBounds_toArray, List.set_cons_zero, List.set_cons_succ]; rfl
                refine wpK_q (v := ?_) (a' := ?_) (by rfl) (fun w' hR => ?_) ?_ ?_
                rotate_left 2
                · go_simp; with_reducible rfl
                · simp only [Act.put, List.setIfInBounds_toArray, List.set_cons_zero, List.set_cons_succ]; rfl
                refine wpK_q (v := ?_) (a' := ?_) (by rfl) (fun w' hR => ?_) ?_ ?_
                rotate_left 2
                · go_simp; with_reducible rfl
                · simp only [Act.put, List.setIfInBounds_toArray, List.set_cons_zero, List.set_cons_succ]; rfl
                refine wpK_q (v := ?_) (a' := ?_) (by rfl) (fun w' hR => ?_) ?_ ?_
                rotate_left 2
                · go_simp; with_reducible rfl
                · simp only [Act.put, List.setIfInBounds_toArray, List.set_cons_zero, List.set_cons_succ]; rfl
                refine wpK_q (v := ?_) (a' := ?_) (by rfl) (fun w' hR => ?_) ?_ ?_
                rotate_left 2
                · go_simp; with_reducible rfl
                · simp only [Act.put, List.setIfInBounds_toArray, List.set_cons_zero, List.set_cons_succ]; rfl
                refine wpK_q (v := ?_) (a' := ?_) (by rfl) (fun w' hR => ?_) ?_ ?_
                rotate_left 2
                · go_simp; with_reducible rfl
                · simp only [Act.put, List.setIfInBounds_toArray, List.set_cons_zero, List.set_cons_succ]; rfl
                refine wpK_off (a' := ?_) (by rfl) ?_ ?_
                rotate_left
                · simp only [Act.put, List.setIfInBounds_toArray, List.set_cons_zero, List.set_cons_succ]; rfl
                refine wpK_off (a' := ?_) (by rfl) ?_ ?_
                rotate_left
                · simp only [Act.put, List.setIfInBounds_toArray, List.set_cons_zero, List.set_cons_succ]; rfl
                refine wpK_off (a' := ?_) (by rfl) ?_ ?_
                rotate_left
                · simp only [Act.put, List.setIfInBounds_toArray, List.set_cons_zero, List.set_cons_succ]; rfl
                refine wpK_off (a' := ?_) (by rfl) ?_ ?_
                rotate_left
                · simp only [Act.put, List.setIfInBounds_toArray, List.set_cons_zero, List.set_cons_succ]; rfl
                refine wpK_off (a' := ?_) (by rfl) ?_ ?_
                rotate_left
                · simp only [Act.put, List.setIfInBounds_toArray, List.set_cons_zero, List.set_cons_succ]; rfl
                refine wpK_off (a' := ?_) (by rfl) ?_ ?_
                rotate_left
                · simp only [Act.put, List.setIfInBounds_toArray, List.set_cons_zero, List.set_cons_succ]; rfl
                refine wpK_q (v := ?_) (a' := ?_) (by rfl) (fun w' hR => ?_) ?_ ?_
                rotate_left 2
                · go_simp; with_reducible rfl
                · simp only [Act.put, List.setIfInBounds_toArray, List.set_cons_zero, List.set_cons_succ]; rfl
                refine wpK_q (v := ?_) (a' := ?_) (by rfl) (fun w' hR => ?_) ?_ ?_
                rotate_left 2
                · go_simp; with_reducible rfl
                · simp only [Act.put, List.setIfInBounds_toArray, List.set_cons_zero, List.set_cons_succ]; rfl
                refine wpK_q (v := ?_) (a' := ?_) (by rfl) (fun w' hR => ?_) ?_ ?_
                rotate_left 2
                · go_simp; with_reducible rfl
                · simp only [Act.put, List.setIfInBounds_toArray, List.set_cons_zero, List.set_cons_succ]; rfl
                refine wpK_q (v := ?_) (a' := ?_) (by rfl) (fun w' hR => ?_) ?_ ?_
                rotate_left 2
                · go_simp; with_reducible rfl
                · simp only [Act.put, List.setIfInBounds_toArray, List.set_cons_zero, List.set_cons_succ]; rfl
                refine wpK_q (v := ?_) (a' := ?_) (by rfl) (fun w' hR => ?_) ?_ ?_
                rotate_left 2
                · go_simp; with_reducible rfl
                · simp only [Act.put, List.setIfInBounds_toArray, List.set_cons_zero, List.set_cons_succ]; rfl
                refine wpK_q (v := ?_) (a' := ?_) (by rfl) (fun w' hR => ?_) ?_ ?_
                rotate_left 2
                · go_simp; with_reducible rfl
                · simp only [Act.put, List.setIfInBounds_toArray, List.set_cons_zero, List.set_cons_succ]; rfl
                refine wpK_q (v := ?_) (a' := ?_) (by rfl) (fun w' hR => ?_) ?_ ?_
                rotate_left 2
                · go_simp; with_reducible rfl
                · simp only [Act.put, List.setIfInBounds_toArray, List.set_cons_zero, List.set_cons_succ]; rfl
                refine wpK_q (v := ?_) (a' := ?_) (by rfl) (fun w' hR => ?_) ?_ ?_
                rotate_left 2
                · go_simp; with_reducible rfl
                · simp only [Act.put, List.setIfInBounds_toArray, List.set_cons_zero, List.set_cons_succ]; rfl
                refine wpK_q (v := ?_) (a' := ?_) (by rfl) (fun w' hR => ?_) ?_ ?_
                rotate_left 2
                · go_simp; with_reducible rfl
                · simp only [Act.put, List.setIfInBounds_toArray, List.set_cons_zero, List.set_cons_succ]; rfl
                refine wpK_q (v := ?_) (a' := ?_) (by rfl) (fun w' hR => ?_) ?_ ?_
                rotate_left 2
                · go_simp; with_reducible rfl
                · simp only [Act.put, List.setIfInBounds_toArray, List.set_cons_zero, List.set_cons_succ]; rfl
                refine wpK_q (v := ?_) (a' := ?_) (by rfl) (fun w' hR => ?_) ?_ ?_
                rotate_left 2
                · go_simp; with_reducible rfl
                · simp only [Act.put, List.setIfInBounds_toArray, List.set_cons_zero, List.set_cons_succ]; rfl
                refine wpK_q (v := ?_) (a' := ?_) (by rfl) (fun w' hR => ?_) ?_ ?_
                rotate_left 2
                · go_simp; with_reducible rfl
                · simp only [Act.put, List.setIfInBounds_toArray, List.set_cons_zero, List.set_cons_succ]; rfl
                refine wpK_q (v := ?_) (a' := ?_) (by rfl) (fun w' hR => ?_) ?_ ?_
                rotate_left 2
                · go_simp; with_reducible rfl
                · simp only [Act.put, List.setIfInBounds_toArray, List.set_cons_zero, List.set_cons_succ]; rfl
                refine wpK_q (v := ?_) (a' := ?_) (by rfl) (fun w' hR => ?_) ?_ ?_
                rotate_left 2
                · go_simp; with_reducible rfl
                · simp only [Act.put, List.setIfInBounds_toArray, List.set_cons_zero, List.set_cons_succ]; rfl
                refine wpK_off (a' := ?_) (by rfl) ?_ ?_
                rotate_left
                · simp only [Act.put, List.setIfInBounds_toArray, List.set_cons_zero, List.set_cons_succ]; rfl
                refine wpK_off (a' := ?_) (by rfl) ?_ ?_
                rotate_left
                · simp only [Act.put, List.setIfInBounds_toArray, List.set_cons_zero, List.set_cons_succ]; rfl
                refine wpK_off (a' := ?_) (by rfl) ?_ ?_
                rotate_left
                · simp only [Act.put, List.setIfInBounds_toArray, List.set_cons_zero, List.set_cons_succ]; rfl
                refine wpK_off (a' := ?_) (by rfl) ?_ ?_
                rotate_left
                · simp only [Act.put, List.setIfInBounds_toArray, List.set_cons_zero, List.set_cons_succ]; rfl
                refine wpK_off (a' := ?_) (by rfl) ?_ ?_
                rotate_left
                · simp only [Act.put, List.setIfInBounds_toArray, List.set_cons_zero, List.set_cons_succ]; rfl
                refine wpK_off (a' := ?_) (by rfl) ?_ ?_
                rotate_left
                · simp only [Act.put, List.setIfInBounds_toArray, List.set_cons_zero, List.set_cons_succ]; rfl
                refine wpK_off (a' := ?_) (by rfl) ?_ ?_
                rotate_left
                · simp only [Act.put, List.setIfInBounds_toArray, List.set_cons_zero, List.set_cons_succ]; rfl
                refine wpK_q (v := ?_) (a' := ?_) (by rfl) (fun w' hR => ?_) ?_ ?_
                rotate_left 2
                · go_simp; with_reducible rfl
                · simp only [Act.put, List.setIfInBounds_toArray, List.set_cons_zero, List.set_cons_succ]; rfl
                refine wpK_q (v := ?_) (a' := ?_) (by rfl) (fun w' hR => ?_) ?_ ?_
                rotate_left 2
                · go_simp; with_reducible rfl
                · simp only [Act.put, List.setIfInBounds_toArray, List.set_cons_zero, List.set_cons_succ]; rfl
                refine wpK_done ?_
                try clear kc
                try clear kS kW
                go_wp2
                go_roundw
                case rel => exact ⟨j + 1, by omega, by go_num, hid (HB6.out.trans ((Ext.drew wz).mono HB6.out.size))⟩
                case measure => simp [intOf]; omega
              · have f3 : decide ((1 : Int) + (A0 : Int) ≤ (j : Int)) = true := decide_eq_true (by omega)
                have f4 : decide ((j : Int) < (1 : Int) + (A0 : Int) + (Z : Int)) = false := decide_eq_false (by omega)
                have f0 : decide (0 < j) = true := decide_eq_true (by omega)
                have hj0 : ¬ j = 0 := by omega
                have f1 : ((j : Int) == 0) = false := by simpa using hj0
                go_upto_region 34 with (go_at_call 58; refine HRD.out.mono ?_; rintro e wz ⟨g6, cap6, rfl, hl6, hs6, -, hg6, hb6⟩; have HS6 := hid hs6; have HL6 := hid hl6; have HB6 := hid (HB5.out.trans (hb6.mono HB5.out.size)); clear hs6 hl6 hb6)
                obtain ⟨X, hX⟩ : ∃ X, X = DS.look D1.safe D1.waits j := ⟨_, rfl⟩
                have hlk := HLK.out j hjn hj0 (by first | omega | trivial)
                have kS : ∀ w', Ext wz.drew w' → (convert 23 9 (.slice (some ⟨g6, 0, none⟩) 256 cap6)).run Try.prog w' = .ok (.string (str X)) w' := fun w' hh => run_str Try.underlying23 Try.underlying5 Try.underlying9 (by rw [hX, ← hlk]; exact HS6.out.drew.below hh)
                have kW : ∀ w', Ext wz.drew w' → w'.cell? ⟨gw, j, none⟩ = some (.string (str X)) := fun w' hh => by
                  have h1 := own_below HROW.out (HB6.out.trans ((Ext.trans _ _ _ (Ext.drew wz) hh).mono HB6.out.size))
                  rw [own_cell h1 (wasL_at D1 hjn), hX]
                clear hlk hX
                refine wp_region_order Ext [] [(0,0),(1,0),(2,0),(3,0),(4,0),(5,0),(6,0),(7,0),(8,0),(9,0),(10,0),(11,0),(12,0),(13,0),(14,0),(15,0),(16,0),(17,0),(18,0),(19,0),(20,0),(21,0),(22,0),(23,0),(24,0),(25,0),(26,0),(27,0),(28,0),(29,0),(30,0),(31,0),(32,0),(33,0),(34,0)] _ (by kernel_rfl) rfl Ext.refl Ext.trans (by kernel_rfl) (by simp only [pick, List.getElem?_toArray, List.getElem?_cons_zero, List.getElem?_cons_succ]; rfl) (fun c a d v w h => by cases d <;> exact h) ?_
                refine wpK_q (v := ?_) (a' := ?_) (by rfl) (fun w' hR => ?_) ?_ ?_
                rotate_left 2
                · go_simp; with_reducible rfl
                · simp only [Act.put, List.setIfInBounds_toArray, List.set_cons_zero, List.set_cons_succ]; rfl
                refine wpK_q (v := ?_) (a' := ?_) (by rfl) (fun w' hR => ?_) ?_ ?_
                rotate_left 2
                · go_simp; with_reducible rfl
                · simp only [Act.put, List.setIfInBounds_toArray, List.set_cons_zero, List.set_cons_succ]; rfl
                refine wpK_q (v := ?_) (a' := ?_) (by rfl) (fun w' hR => ?_) ?_ ?_
                rotate_left 2
                · go_simp; with_reducible rfl
                · simp only [Act.put, List.setIfInBounds_toArray, List.set_cons_zero, List.set_cons_succ]; rfl
                refine wpK_q (v := ?_) (a' := ?_) (by rfl) (fun w' hR => ?_) ?_ ?_
                rotate_left 2
                · go_simp; with_reducible rfl
                · simp only [Act.put, List.setIfInBounds_toArray, List.set_cons_zero, List.set_cons_succ]; rfl
                refine wpK_q (v := ?_) (a' := ?_) (by rfl) (fun w' hR => ?_) ?_ ?_
                rotate_left 2
                · go_simp; with_reducible rfl
                · simp only [Act.put, List.setIfInBounds_toArray, List.set_cons_zero, List.set_cons_succ]; rfl
                refine wpK_q (v := ?_) (a' := ?_) (by rfl) (fun w' hR => ?_) ?_ ?_
                rotate_left 2
                · go_simp; with_reducible rfl
                · simp only [Act.put, List.setIfInBounds_toArray, List.set_cons_zero, List.set_cons_succ]; rfl
                refine wpK_off (a' := ?_) (by rfl) ?_ ?_
                rotate_left
                · simp only [Act.put, List.setIfInBounds_toArray, List.set_cons_zero, List.set_cons_succ]; rfl
                refine wpK_off (a' := ?_) (by rfl) ?_ ?_
                rotate_left
                · simp only [Act.put, List.setIfInBounds_toArray, List.set_cons_zero, List.set_cons_succ]; rfl
                refine wpK_off (a' := ?_) (by rfl) ?_ ?_
                rotate_left
                · simp only [Act.put, List.setIfInBounds_toArray, List.set_cons_zero, List.set_cons_succ]; rfl
                refine wpK_off (a' := ?_) (by rfl) ?_ ?_
                rotate_left
                · simp only [Act.put, List.setIfInBounds_toArray, List.set_cons_zero, List.set_cons_succ]; rfl
                refine wpK_off (a' := ?_) (by rfl) ?_ ?_
                rotate_left
                · simp only [Act.put, List.setIfInBounds_toArray, List.set_cons_zero, List.set_cons_succ]; rfl
                refine wpK_off (a' := ?_) (by rfl) ?_ ?_
                rotate_left
                · simp only [Act.put, List.setIfInBounds_toArray, List.set_cons_zero, List.set_cons_succ]; rfl
                refine wpK_q (v := ?_) (a' := ?_) (by rfl) (fun w' hR => ?_) ?_ ?_
                rotate_left 2
                · go_simp; with_reducible rfl
                · simp only [Act.put, List.setIfInBounds_toArray, List.set_cons_zero, List.set_cons_succ]; rfl
                refine wpK_q (v := ?_) (a' := ?_) (by rfl) (fun w' hR => ?_) ?_ ?_
                rotate_left 2
                · go_simp; with_reducible rfl
                · simp only [Act.put, List.setIfInBounds_toArray, List.set_cons_zero, List.set_cons_succ]; rfl
                refine wpK_q (v := ?_) (a' := ?_) (by rfl) (fun w' hR => ?_) ?_ ?_
                rotate_left 2
                · go_simp; with_reducible rfl
                · simp only [Act.put, List.setIfInBounds_toArray, List.set_cons_zero, List.set_cons_succ]; rfl
                refine wpK_q (v := ?_) (a' := ?_) (by rfl) (fun w' hR => ?_) ?_ ?_
                rotate_left 2
                · go_simp; with_reducible rfl
                · simp only [Act.put, List.setIfInBounds_toArray, List.set_cons_zero, List.set_cons_succ]; rfl
                refine wpK_q (v := ?_) (a' := ?_) (by rfl) (fun w' hR => ?_) ?_ ?_
                rotate_left 2
                · go_simp; with_reducible rfl
                · simp only [Act.put, List.setIfInBounds_toArray, List.set_cons_zero, List.set_cons_succ]; rfl
                refine wpK_q (v := ?_) (a' := ?_) (by rfl) (fun w' hR => ?_) ?_ ?_
                rotate_left 2
                · go_simp; with_reducible rfl
                · simp only [Act.put, List.setIfInBounds_toArray, List.set_cons_zero, List.set_cons_succ]; rfl
                refine wpK_q (v := ?_) (a' := ?_) (by rfl) (fun w' hR => ?_) ?_ ?_
                rotate_left 2
                · go_simp; with_reducible rfl
                · simp only [Act.put, List.setIfInBounds_toArray, List.set_cons_zero, List.set_cons_succ]; rfl
                refine wpK_q (v := ?_) (a' := ?_) (by rfl) (fun w' hR => ?_) ?_ ?_
                rotate_left 2
                · go_simp; with_reducible rfl
                · simp only [Act.put, List.setIfInBounds_toArray, List.set_cons_zero, List.set_cons_succ]; rfl
                refine wpK_q (v := ?_) (a' := ?_) (by rfl) (fun w' hR => ?_) ?_ ?_
                rotate_left 2
                · go_simp; with_reducible rfl
                · simp only [Act.put, List.setIfInBounds_toArray, List.set_cons_zero, List.set_cons_succ]; rfl
                refine wpK_q (v := ?_) (a' := ?_) (by rfl) (fun w' hR => ?_) ?_ ?_
                rotate_left 2
                · go_simp; with_reducible rfl
                · simp only [Act.put, List.setIfInBounds_toArray, List.set_cons_zero, List.set_cons_succ]; rfl
                refine wpK_q (v := ?_) (a' := ?_) (by rfl) (fun w' hR => ?_) ?_ ?_
                rotate_left 2
                · go_simp; with_reducible rfl
                · simp only [Act.put, List.setIfInBounds_toArray, List.set_cons_zero, List.set_cons_succ]; rfl
                refine wpK_q (v := ?_) (a' := ?_) (by rfl) (fun w' hR => ?_) ?_ ?_
                rotate_left 2
                · go_simp; with_reducible rfl
                · simp only [Act.put, List.setIfInBounds_toArray, List.set_cons_zero, List.set_cons_succ]; rfl
                refine wpK_q (v := ?_) (a' := ?_) (by rfl) (fun w' hR => ?_) ?_ ?_
                rotate_left 2
                · go_simp; with_reducible rfl
                · simp only [Act.put, List.setIfInBounds_toArray, List.set_cons_zero, List.set_cons_succ]; rfl
                refine wpK_q (v := ?_) (a' := ?_) (by rfl) (fun w' hR => ?_) ?_ ?_
                rotate_left 2
                · go_simp; with_reducible rfl
                · simp only [Act.put, List.setIfInBounds_toArray, List.set_cons_zero, List.set_cons_succ]; rfl
                refine wpK_q (v := ?_) (a' := ?_) (by rfl) (fun w' hR => ?_) ?_ ?_
                rotate_left 2
                · go_simp; with_reducible rfl
                · simp only [Act.put, List.setIfInBounds_toArray, List.set_cons_zero, List.set_cons_succ]; rfl
                refine wpK_q (v := ?_) (a' := ?_) (by rfl) (fun w' hR => ?_) ?_ ?_
                rotate_left 2
                · go_simp; with_reducible rfl
                · simp only [Act.put, List.setIfInBounds_toArray, List.set_cons_zero, List.set_cons_succ]; rfl
                refine wpK_q (v := ?_) (a' := ?_) (by rfl) (fun w' hR => ?_) ?_ ?_
                rotate_left 2
                · go_simp; with_reducible rfl
                · simp only [Act.put, List.setIfInBounds_toArray, List.set_cons_zero, List.set_cons_succ]; rfl
                refine wpK_q (v := ?_) (a' := ?_) (by rfl) (fun w' hR => ?_) ?_ ?_
                rotate_left 2
                · go_simp; with_reducible rfl
                · simp only [Act.put, List.setIfInBounds_toArray, List.set_cons_zero, List.set_cons_succ]; rfl
                refine wpK_q (v := ?_) (a' := ?_) (by rfl) (fun w' hR => ?_) ?_ ?_
                rotate_left 2
                · go_simp; with_reducible rfl
                · simp only [Act.put, List.setIfInBounds_toArray, List.set_cons_zero, List.set_cons_succ]; rfl
                refine wpK_q (v := ?_) (a' := ?_) (by rfl) (fun w' hR => ?_) ?_ ?_
                rotate_left 2
                · go_simp; with_reducible rfl
                · simp only [Act.put, List.setIfInBounds_toArray, List.set_cons_zero, List.set_cons_succ]; rfl
                refine wpK_q (v := ?_) (a' := ?_) (by rfl) (fun w' hR => ?_) ?_ ?_
                rotate_left 2
                · go_simp; with_reducible rfl
                · simp only [Act.put, List.setIfInBounds_toArray, List.set_cons_zero, List.set_cons_succ]; rfl
                refine wpK_q (v := ?_) (a' := ?_) (by rfl) (fun w' hR => ?_) ?_ ?_
                rotate_left 2
                · go_simp; with_reducible rfl
                · simp only [Act.put, List.setIfInBounds_toArray, List.set_cons_zero, List.set_cons_succ]; rfl
                refine wpK_q (v := ?_) (a' := ?_) (by rfl) (fun w' hR => ?_) ?_ ?_
                rotate_left 2
                · go_simp; with_reducible rfl
                · simp only [Act.put, List.setIfInBounds_toArray, List.set_cons_zero, List.set_cons_succ]; rfl
                refine wpK_done ?_
                try clear kc
                try clear kS kW
                go_wp2
                go_roundw
                case rel => exact ⟨j + 1, by omega, by go_num, hid (HB6.out.trans ((Ext.drew wz).mono HB6.out.size))⟩
                case measure => simp [intOf]; omega
        · have hsv := pst_save_long (HP1.out.on HB.out) HH1.out (HSU.out.below (HP1.out.on HB.out).drum.below) (by omega) (by rw [HL1.out]; omega) (by omega)
          have HSV := hid hsv
          clear hsv
          have hf2 := hf1
          go_upto_region 29 with (go_at_call 42; refine HSV.out.mono ?_; rintro e w5 ⟨rfl, t5, own5, y1, -, y9, y10⟩; have HY1 := hid y1; have HY9 := hid y9; have HY10 := hid y10; clear y1 y9 y10 HSV)
          have HY2 := HH1
          have HW5 : Hid (D1.waits.length ≤ 400 * (2 * (k + 1))) := hid (by omega)
          have HL5 : Hid (D1.safe.length = n) := HL1
          have HHH : Hid (P1.half = hf) := HF2
          have hql := HP1.out.pair.ql
          have HROW : Hid (w5.ownsRow w4.heap.size 9 1 (.slice av n cv) n (wasL D1 n)) := hid (own_mod HO.out (fun m hm => HY10.out.block m (own_lt HO.out m hm).2 (fun e => by
            have h3 := (own_lt HO.out m hm).1
            rcases e with e | e
            · have := HP1.out.drum.at'.lt m e; omega
            · omega)))
          have HLK : Hid (∀ m, m < n → m ≠ 0 → True → DS.look D1.safe D1.waits m = DS.look D1.safe D1.waits m) := hid (fun _ _ _ _ => rfl)
          clear HY9 HY10 HO HB hql hK HF2 HL1 HP1 HH1 HSU
          obtain ⟨gw, cw, hav, -⟩ := own_slice HROW.out (by omega)
          simp only [Value.slice.injEq] at hav
          obtain ⟨rfl, -, rfl⟩ := hav
          obtain ⟨A0, hA0⟩ : ∃ A0, A0 = hf * Z := ⟨_, rfl⟩
          have hA1 : A0 ≤ 30 := by
            have : hf * Z ≤ 1 * Z := Nat.mul_le_mul_right _ hf2
            omega
          have hmul : IntKind.i64.wrap ((hf : Int) * (Z : Int)) = (A0 : Int) := by rw [hA0, ← Int.natCast_mul]; exact IntWalk.i64_in _ (by rw [← hA0]; omega)
          try rw [← hA0] at HLK
          have HA0 := hid hA0
          clear hA0
          go_wp2
          go_loopw [20] (fun i wy => ∃ j : Nat, j ≤ n ∧ i = I j ∧ Hid (Below w5.heap.size w5 wy)) (fun i _ => n - (intOf i).toNat)
          case atStart => exact ⟨0, by omega, rfl, hid (Below.refl _ _)⟩
          case round =>
            obtain ⟨j, hj, rfl, HB5⟩ := hrel
            by_cases hjn : j < n
            rotate_left
            · obtain rfl : n = j := by omega
              have HTU : Hid (TuIn w p q n hf (2 * (k + 1)) wr) := hid ⟨t5, own5, P1, D1, _, _, HY1.out.on HB5.out, HY2.out, HHH.out, HW5.out, HL5.out⟩
              clear HLK HROW HB5 HY1 HY2 HHH HW5 HL5 hjn hmul
              go_wp2
              go_roundw
              case rel => exact ⟨k + 1, hf, by omega, by go_num, rfl, hf2, HTU⟩
              case measure => simp [intOf]; omega
            · have hrd := st_look (HY1.out.on HB5.out).drum HY2.out.live.on (a := j) (by rw [HL5.out]; exact hjn)
              have HRD := hid hrd
              clear hrd
              have hjI : (j : Int) < (n : Int) := by omega
              have hjI2 : (0 : Int) ≤ (j : Int) := by omega
              have c3 : j < 1 + A0 ∨ (1 + A0 ≤ j ∧ j < 1 + A0 + Z) ∨ (1 + A0 ≤ j ∧ 1 + A0 + Z ≤ j) := by omega
              rcases c3 with c3 | ⟨c3, c4⟩ | ⟨c3, c4⟩
              · by_cases hj0 : j = 0
                · subst hj0
                  have f3 : decide ((1 : Int) + (A0 : Int) ≤ ((0 : Nat) : Int)) = false := decide_eq_false (by omega)
                  have f3' : decide ((1 : Int) + (A0 : Int) ≤ 0) = false := decide_eq_false (by omega)
                  go_upto_region 34 with (go_at_call 58; refine HRD.out.mono ?_; rintro e wz ⟨g6, cap6, rfl, hl6, hs6, -, hg6, hb6⟩; have HS6 := hid hs6; have HL6 := hid hl6; have HB6 := hid (HB5.out.trans (hb6.mono HB5.out.size)); clear hs6 hl6 hb6)
                  have hwf : IntKind.i64.wrap (hf : Int) = (hf : Int) := IntWalk.i64_in _ (by omega)
                  have hrt := HY2.out.root
                  unfold PS.root at hrt
                  rw [HHH.out] at hrt
                  have kc : ∀ w', Ext wz.drew w' → w'.cell? ⟨g6, 0, none⟩ = some (.int .u8 (hf : Int)) := fun w' hh => by
                    have hb0 : (DS.look D1.safe D1.waits 0)[0]? = some ((DS.look D1.safe D1.waits 0).getD 0 0) := by rw [List.getD_eq_getElem?_getD, List.getElem?_eq_getElem (by rw [HL6.out]; decide)]; rfl
                    have h1 := (HS6.out.drew.below hh).cell0 hb0
                    rw [h1]
                    show some (Value.int .u8 _) = some (Value.int .u8 _)
                    rw [hrt]
                  clear hrt
                  refine wp_region_order Ext [] [(0,0),(1,0),(2,0),(3,0),(4,0),(5,0),(6,0),(7,0),(8,0),(9,0),(10,0),(11,0),(12,0),(13,0),(14,0),(15,0),(16,0),(17,0),(18,0),(19,0),(20,0),(21,0),(22,0),(23,0),(24,0),(25,0),(26,0),(27,0),(28,0),(29,0),(30,0),(31,0),(32,0),(33,0),(34,0)] _ (by kernel_rfl) rfl Ext.refl Ext.trans (by kernel_rfl) (by simp only [pick, List.getElem?_toArray, List.getElem?_cons_zero, List.getElem?_cons_succ]; rfl) (fun c a d v w h => by cases d <;> exact h) ?_
                  refine wpK_q (v := ?_) (a' := ?_) (by rfl) (fun w' hR => ?_) ?_ ?_
                  rotate_left 2
                  · go_simp; with_reducible rfl
                  · simp only [Act.put, List.setIfInBounds_toArray, List.set_cons_zero, List.set_cons_succ]; rfl
                  refine wpK_q (v := ?_) (a' := ?_) (by rfl) (fun w' hR => ?_) ?_ ?_
                  rotate_left 2
                  · go_simp; with_reducible rfl
                  · simp only [Act.put, List.setIfInBounds_toArray, List.set_cons_zero, List.set_cons_succ]; rfl
                  refine wpK_q (v := ?_) (a' := ?_) (by rfl) (fun w' hR => ?_) ?_ ?_
                  rotate_left 2
                  · go_simp; with_reducible rfl
                  · simp only [Act.put, List.setIfInBounds_toArray, List.set_cons_zero, List.set_cons_succ]; rfl
                  refine wpK_q (v := ?_) (a' := ?_) (by rfl) (fun w' hR => ?_) ?_ ?_
                  rotate_left 2
                  · go_simp; with_reducible rfl
                  · simp only [Act.put, List.setIfInBounds_toArray, List.set_cons_zero, List.set_cons_succ]; rfl
                  refine wpK_q (v := ?_) (a' := ?_) (by rfl) (fun w' hR => ?_) ?_ ?_
                  rotate_left 2
                  · go_simp; with_reducible rfl
                  · simp only [Act.put, List.setIfInBounds_toArray, List.set_cons_zero, List.set_cons_succ]; rfl
                  refine wpK_q (v := ?_) (a' := ?_) (by rfl) (fun w' hR => ?_) ?_ ?_
                  rotate_left 2
                  · go_simp; with_reducible rfl
                  · simp only [Act.put, List.setIfInBounds_toArray, List.set_cons_zero, List.set_cons_succ]; rfl
                  refine wpK_q (v := ?_) (a' := ?_) (by rfl) (fun w' hR => ?_) ?_ ?_
                  rotate_left 2
                  · go_simp; with_reducible rfl
                  · simp only [Act.put, List.setIfInBounds_toArray, List.set_cons_zero, List.set_cons_succ]; rfl
                  refine wpK_q (v := ?_) (a' := ?_) (by rfl) (fun w' hR => ?_) ?_ ?_
                  rotate_left 2
                  · go_simp; with_reducible rfl
                  · simp only [Act.put, List.setIfInBounds_toArray, List.set_cons_zero, List.set_cons_succ]; rfl
                  refine wpK_q (v := ?_) (a' := ?_) (by rfl) (fun w' hR => ?_) ?_ ?_
                  rotate_left 2
                  · go_simp; with_reducible rfl
                  · simp only [Act.put, List.setIfInBounds_toArray, List.set_cons_zero, List.set_cons_succ]; rfl
                  refine wpK_q (v := ?_) (a' := ?_) (by rfl) (fun w' hR => ?_) ?_ ?_
                  rotate_left 2
                  · go_simp; with_reducible rfl
                  · simp only [Act.put, List.setIfInBounds_toArray, List.set_cons_zero, List.set_cons_succ]; rfl
                  refine wpK_q (v := ?_) (a' := ?_) (by rfl) (fun w' hR => ?_) ?_ ?_
                  rotate_left 2
                  · go_simp; with_reducible rfl
                  · simp only [Act.put, List.setIfInBounds_toArray, List.set_cons_zero, List.set_cons_succ]; rfl
                  refine wpK_q (v := ?_) (a' := ?_) (by rfl) (fun w' hR => ?_) ?_ ?_
                  rotate_left 2
                  · go_simp; with_reducible rfl
                  · simp only [Act.put, List.setIfInBounds_toArray, List.set_cons_zero, List.set_cons_succ]; rfl
                  refine wpK_q (v := ?_) (a' := ?_) (by rfl) (fun w' hR => ?_) ?_ ?_
                  rotate_left 2
                  · go_simp; with_reducible rfl
                  · simp only [Act.put, List.setIfInBounds_toArray, List.set_cons_zero, List.set_cons_succ]; rfl
                  refine wpK_q (v := ?_) (a' := ?_) (by rfl) (fun w' hR => ?_) ?_ ?_
                  rotate_left 2
                  · go_simp; with_reducible rfl
                  · simp only [Act.put, List.setIfInBounds_toArray, List.set_cons_zero, List.set_cons_succ]; rfl
                  refine wpK_q (v := ?_) (a' := ?_) (by rfl) (fun w' hR => ?_) ?_ ?_
                  rotate_left 2
                  · go_simp; with_reducible rfl
                  · simp only [Act.put, List.setIfInBounds_toArray, List.set_cons_zero, List.set_cons_succ]; rfl
                  refine wpK_q (v := ?_) (a' := ?_) (by rfl) (fun w' hR => ?_) ?_ ?_
                  rotate_left 2
                  · go_simp; with_reducible rfl
                  · simp only [Act.put, List.setIfInBounds_toArray, List.set_cons_zero, List.set_cons_succ]; rfl
                  refine wpK_q (v := ?_) (a' := ?_) (by rfl) (fun w' hR => ?_) ?_ ?_
                  rotate_left 2
                  · go_simp; with_reducible rfl
                  · simp only [Act.put, List.setIfInBounds_toArray, List.set_cons_zero, List.set_cons_succ]; rfl
                  refine wpK_q (v := ?_) (a' := ?_) (by rfl) (fun w' hR => ?_) ?_ ?_
                  rotate_left 2
                  · go_simp; with_reducible rfl
                  · simp only [Act.put, List.setIfInBounds_toArray, List.set_cons_zero, List.set_cons_succ]; rfl
                  refine wpK_off (a' := ?_) (by rfl) ?_ ?_
                  rotate_left
                  · simp only [Act.put, List.setIfInBounds_toArray, List.set_cons_zero, List.set_cons_succ]; rfl
                  refine wpK_off (a' := ?_) (by rfl) ?_ ?_
                  rotate_left
                  · simp only [Act.put, List.setIfInBounds_toArray, List.set_cons_zero, List.set_cons_succ]; rfl
                  refine wpK_off (a' := ?_) (by rfl) ?_ ?_
                  rotate_left
                  · simp only [Act.put, List.setIfInBounds_toArray, List.set_cons_zero, List.set_cons_succ]; rfl
                  refine wpK_off (a' := ?_) (by rfl) ?_ ?_
                  rotate_left
                  · simp only [Act.put, List.setIfInBounds_toArray, List.set_cons_zero, List.set_cons_succ]; rfl
                  refine wpK_off (a' := ?_) (by rfl) ?_ ?_
                  rotate_left
                  · simp only [Act.put, List.setIfInBounds_toArray, List.set_cons_zero, List.set_cons_succ]; rfl
                  refine wpK_off (a' := ?_) (by rfl) ?_ ?_
                  rotate_left
                  · simp only [Act.put, List.setIfInBounds_toArray, List.set_cons_zero, List.set_cons_succ]; rfl
                  refine wpK_q (v := ?_) (a' := ?_) (by rfl) (fun w' hR => ?_) ?_ ?_
                  rotate_left 2
                  · go_simp; with_reducible rfl
                  · simp only [Act.put, List.setIfInBounds_toArray, List.set_cons_zero, List.set_cons_succ]; rfl
                  refine wpK_q (v := ?_) (a' := ?_) (by rfl) (fun w' hR => ?_) ?_ ?_
                  rotate_left 2
                  · go_simp; with_reducible rfl
                  · simp only [Act.put, List.setIfInBounds_toArray, List.set_cons_zero, List.set_cons_succ]; rfl
                  refine wpK_off (a' := ?_) (by rfl) ?_ ?_
                  rotate_left
                  · simp only [Act.put, List.setIfInBounds_toArray, List.set_cons_zero, List.set_cons_succ]; rfl
                  refine wpK_off (a' := ?_) (by rfl) ?_ ?_
                  rotate_left
                  · simp only [Act.put, List.setIfInBounds_toArray, List.set_cons_zero, List.set_cons_succ]; rfl
                  refine wpK_off (a' := ?_) (by rfl) ?_ ?_
                  rotate_left
                  · simp only [Act.put, List.setIfInBounds_toArray, List.set_cons_zero, List.set_cons_succ]; rfl
                  refine wpK_off (a' := ?_) (by rfl) ?_ ?_
                  rotate_left
                  · simp only [Act.put, List.setIfInBounds_toArray, List.set_cons_zero, List.set_cons_succ]; rfl
                  refine wpK_off (a' := ?_) (by rfl) ?_ ?_
                  rotate_left
                  · simp only [Act.put, List.setIfInBounds_toArray, List.set_cons_zero, List.set_cons_succ]; rfl
                  refine wpK_off (a' := ?_) (by rfl) ?_ ?_
                  rotate_left
                  · simp only [Act.put, List.setIfInBounds_toArray, List.set_cons_zero, List.set_cons_succ]; rfl
                  refine wpK_off (a' := ?_) (by rfl) ?_ ?_
                  rotate_left
                  · simp only [Act.put, List.setIfInBounds_toArray, List.set_cons_zero, List.set_cons_succ]; rfl
                  refine wpK_q (v := ?_) (a' := ?_) (by rfl) (fun w' hR => ?_) ?_ ?_
                  rotate_left 2
                  · go_simp; with_reducible rfl
                  · simp only [Act.put, List.setIfInBounds_toArray, List.set_cons_zero, List.set_cons_succ]; rfl
                  refine wpK_q (v := ?_) (a' := ?_) (by rfl) (fun w' hR => ?_) ?_ ?_
                  rotate_left 2
                  · go_simp; with_reducible rfl
                  · simp only [Act.put, List.setIfInBounds_toArray, List.set_cons_zero, List.set_cons_succ]; rfl
                  refine wpK_done ?_
                  try clear kc
                  try clear kS kW
                  go_wp2
                  go_roundw
                  case rel => exact ⟨0 + 1, by omega, by go_num, hid (HB6.out.trans ((Ext.drew wz).mono HB6.out.size))⟩
                  case measure => simp [intOf]; omega
                · have f3 : decide ((1 : Int) + (A0 : Int) ≤ (j : Int)) = false := decide_eq_false (by omega)
                  have f0 : decide (0 < j) = true := decide_eq_true (by omega)
                  have f1 : ((j : Int) == 0) = false := by simpa using hj0
                  go_upto_region 34 with (go_at_call 58; refine HRD.out.mono ?_; rintro e wz ⟨g6, cap6, rfl, hl6, hs6, -, hg6, hb6⟩; have HS6 := hid hs6; have HL6 := hid hl6; have HB6 := hid (HB5.out.trans (hb6.mono HB5.out.size)); clear hs6 hl6 hb6)
                  obtain ⟨X, hX⟩ : ∃ X, X = DS.look D1.safe D1.waits j := ⟨_, rfl⟩
                  skip
                  have kS : ∀ w', Ext wz.drew w' → (convert 23 9 (.slice (some ⟨g6, 0, none⟩) 256 cap6)).run Try.prog w' = .ok (.string (str X)) w' := fun w' hh => run_str Try.underlying23 Try.underlying5 Try.underlying9 (by rw [hX]; exact HS6.out.drew.below hh)
                  have kW : ∀ w', Ext wz.drew w' → w'.cell? ⟨gw, j, none⟩ = some (.string (str X)) := fun w' hh => by
                    have h1 := own_below HROW.out (HB6.out.trans ((Ext.trans _ _ _ (Ext.drew wz) hh).mono HB6.out.size))
                    rw [own_cell h1 (wasL_at D1 hjn), hX]
                  clear hX
                  refine wp_region_order Ext [] [(0,0),(1,0),(2,0),(3,0),(4,0),(5,0),(6,0),(7,0),(8,0),(9,0),(10,0),(11,0),(12,0),(13,0),(14,0),(15,0),(16,0),(17,0),(18,0),(19,0),(20,0),(21,0),(22,0),(23,0),(24,0),(25,0),(26,0),(27,0),(28,0),(29,0),(30,0),(31,0),(32,0),(33,0),(34,0)] _ (by kernel_rfl) rfl Ext.refl Ext.trans (by kernel_rfl) (by simp only [pick, List.getElem?_toArray, List.getElem?_cons_zero, List.getElem?_cons_succ]; rfl) (fun c a d v w h => by cases d <;> exact h) ?_
                  refine wpK_q (v := ?_) (a' := ?_) (by rfl) (fun w' hR => ?_) ?_ ?_
                  rotate_left 2
                  · go_simp; with_reducible rfl
                  · simp only [Act.put, List.setIfInBounds_toArray, List.set_cons_zero, List.set_cons_succ]; rfl
                  refine wpK_q (v := ?_) (a' := ?_) (by rfl) (fun w' hR => ?_) ?_ ?_
                  rotate_left 2
                  · go_simp; with_reducible rfl
                  · simp only [Act.put, List.setIfInBounds_toArray, List.set_cons_zero, List.set_cons_succ]; rfl
                  refine wpK_q (v := ?_) (a' := ?_) (by rfl) (fun w' hR => ?_) ?_ ?_
                  rotate_left 2
                  · go_simp; with_reducible rfl
                  · simp only [Act.put, List.setIfInBounds_toArray, List.set_cons_zero, List.set_cons_succ]; rfl
                  refine wpK_q (v := ?_) (a' := ?_) (by rfl) (fun w' hR => ?_) ?_ ?_
                  rotate_left 2
                  · go_simp; with_reducible rfl
                  · simp only [Act.put, List.setIfInBounds_toArray, List.set_cons_zero, List.set_cons_succ]; rfl
                  refine wpK_q (v := ?_) (a' := ?_) (by rfl) (fun w' hR => ?_) ?_ ?_
                  rotate_left 2
                  · go_simp; with_reducible rfl
                  · simp only [Act.put, List.setIfInBounds_toArray, List.set_cons_zero, List.set_cons_succ]; rfl
                  refine wpK_q (v := ?_) (a' := ?_) (by rfl) (fun w' hR => ?_) ?_ ?_
                  rotate_left 2
                  · go_simp; with_reducible rfl
                  · simp only [Act.put, List.setIfInBounds_toArray, List.set_cons_zero, List.set_cons_succ]; rfl
                  refine wpK_off (a' := ?_) (by rfl) ?_ ?_
                  rotate_left
                  · simp only [Act.put, List.setIfInBounds_toArray, List.set_cons_zero, List.set_cons_succ]; rfl
                  refine wpK_off (a' := ?_) (by rfl) ?_ ?_
                  rotate_left
                  · simp only [Act.put, List.setIfInBounds_toArray, List.set_cons_zero, List.set_cons_succ]; rfl
                  refine wpK_off (a' := ?_) (by rfl) ?_ ?_
                  rotate_left
                  · simp only [Act.put, List.setIfInBounds_toArray, List.set_cons_zero, List.set_cons_succ]; rfl
                  refine wpK_off (a' := ?_) (by rfl) ?_ ?_
                  rotate_left
                  · simp only [Act.put, List.setIfInBounds_toArray, List.set_cons_zero, List.set_cons_succ]; rfl
                  refine wpK_off (a' := ?_) (by rfl) ?_ ?_
                  rotate_left
                  · simp only [Act.put, List.setIfInBounds_toArray, List.set_cons_zero, List.set_cons_succ]; rfl
                  refine wpK_off (a' := ?_) (by rfl) ?_ ?_
                  rotate_left
                  · simp only [Act.put, List.setIfInBounds_toArray, List.set_cons_zero, List.set_cons_succ]; rfl
                  refine wpK_q (v := ?_) (a' := ?_) (by rfl) (fun w' hR => ?_) ?_ ?_
                  rotate_left 2
                  · go_simp; with_reducible rfl
                  · simp only [Act.put, List.setIfInBounds_toArray, List.set_cons_zero, List.set_cons_succ]; rfl
                  refine wpK_q (v := ?_) (a' := ?_) (by rfl) (fun w' hR => ?_) ?_ ?_
                  rotate_left 2
                  · go_simp; with_reducible rfl
                  · simp only [Act.put, List.setIfInBounds_toArray, List.set_cons_zero, List.set_cons_succ]; rfl
                  refine wpK_q (v := ?_) (a' := ?_) (by rfl) (fun w' hR => ?_) ?_ ?_
                  rotate_left 2
                  · go_simp; with_reducible rfl
                  · simp only [Act.put, List.setIfInBounds_toArray, List.set_cons_zero, List.set_cons_succ]; rfl
                  refine wpK_q (v := ?_) (a' := ?_) (by rfl) (fun w' hR => ?_) ?_ ?_
                  rotate_left 2
                  · go_simp; with_reducible rfl
                  · simp only [Act.put, List.setIfInBounds_toArray, List.set_cons_zero, List.set_cons_succ]; rfl
                  refine wpK_q (v := ?_) (a' := ?_) (by rfl) (fun w' hR => ?_) ?_ ?_
                  rotate_left 2
                  · go_simp; with_reducible rfl
                  · simp only [Act.put, List.setIfInBounds_toArray, List.set_cons_zero, List.set_cons_succ]; rfl
                  refine wpK_q (v := ?_) (a' := ?_) (by rfl) (fun w' hR => ?_) ?_ ?_
                  rotate_left 2
                  · go_simp; with_reducible rfl
                  · simp only [Act.put, List.setIfInBounds_toArray, List.set_cons_zero, List.set_cons_succ]; rfl
                  refine wpK_q (v := ?_) (a' := ?_) (by rfl) (fun w' hR => ?_) ?_ ?_
                  rotate_left 2
                  · go_simp; with_reducible rfl
                  · simp only [Act.put, List.setIfInBounds_toArray, List.set_cons_zero, List.set_cons_succ]; rfl
                  refine wpK_q (v := ?_) (a' := ?_) (by rfl) (fun w' hR => ?_) ?_ ?_
                  rotate_left 2
                  · go_simp; with_reducible rfl
                  · simp only [Act.put, List.setIfInBounds_toArray, List.set_cons_zero, List.set_cons_succ]; rfl
                  refine wpK_q (v := ?_) (a' := ?_) (by rfl) (fun w' hR => ?_) ?_ ?_
                  rotate_left 2
                  · go_simp; with_reducible rfl
                  · simp only [Act.put, List.setIfInBounds_toArray, List.set_cons_zero, List.set_cons_succ]; rfl
                  refine wpK_off (a' := ?_) (by rfl) ?_ ?_
                  rotate_left
                  · simp only [Act.put, List.setIfInBounds_toArray, List.set_cons_zero, List.set_cons_succ]; rfl
                  refine wpK_q (v := ?_) (a' := ?_) (by rfl) (fun w' hR => ?_) ?_ ?_
                  rotate_left 2
                  · go_simp; with_reducible rfl
                  · simp only [Act.put, List.setIfInBounds_toArray, List.set_cons_zero, List.set_cons_succ]; rfl
                  refine wpK_q (v := ?_) (a' := ?_) (by rfl) (fun w' hR => ?_) ?_ ?_
                  rotate_left 2
                  · go_simp; with_reducible rfl
                  · simp only [Act.put, List.setIfInBounds_toArray, List.set_cons_zero, List.set_cons_succ]; rfl
                  refine wpK_q (v := ?_) (a' := ?_) (by rfl) (fun w' hR => ?_) ?_ ?_
                  rotate_left 2
                  · go_simp; with_reducible rfl
                  · simp only [Act.put, List.setIfInBounds_toArray, List.set_cons_zero, List.set_cons_succ]; rfl
                  refine wpK_q (v := ?_) (a' := ?_) (by rfl) (fun w' hR => ?_) ?_ ?_
                  rotate_left 2
                  · go_simp; with_reducible rfl
                  · simp only [Act.put, List.setIfInBounds_toArray, List.set_cons_zero, List.set_cons_succ]; rfl
                  refine wpK_q (v := ?_) (a' := ?_) (by rfl) (fun w' hR => ?_) ?_ ?_
                  rotate_left 2
                  · go_simp; with_reducible rfl
                  · simp only [Act.put, List.setIfInBounds_toArray, List.set_cons_zero, List.set_cons_succ]; rfl
                  refine wpK_q (v := ?_) (a' := ?_) (by rfl) (fun w' hR => ?_) ?_ ?_
                  rotate_left 2
                  · go_simp; with_reducible rfl
                  · simp only [Act.put, List.setIfInBounds_toArray, List.set_cons_zero, List.set_cons_succ]; rfl
                  refine wpK_q (v := ?_) (a' := ?_) (by rfl) (fun w' hR => ?_) ?_ ?_
                  rotate_left 2
                  · go_simp; with_reducible rfl
                  · simp only [Act.put, List.setIfInBounds_toArray, List.set_cons_zero, List.set_cons_succ]; rfl
                  refine wpK_q (v := ?_) (a' := ?_) (by rfl) (fun w' hR => ?_) ?_ ?_
                  rotate_left 2
                  · go_simp; with_reducible rfl
                  · simp only [Act.put, List.setIfInBounds_toArray, List.set_cons_zero, List.set_cons_succ]; rfl
                  refine wpK_q (v := ?_) (a' := ?_) (by rfl) (fun w' hR => ?_) ?_ ?_
                  rotate_left 2
                  · go_simp; with_reducible rfl
                  · simp only [Act.put, List.setIfInBounds_toArray, List.set_cons_zero, List.set_cons_succ]; rfl
                  refine wpK_q (v := ?_) (a' := ?_) (by rfl) (fun w' hR => ?_) ?_ ?_
                  rotate_left 2
                  · go_simp; with_reducible rfl
                  · simp only [Act.put, List.setIfInBounds_toArray, List.set_cons_zero, List.set_cons_succ]; rfl
                  refine wpK_q (v := ?_) (a' := ?_) (by rfl) (fun w' hR => ?_) ?_ ?_
                  rotate_left 2
                  · go_simp; with_reducible rfl
                  · simp only [Act.put, List.setIfInBounds_toArray, List.set_cons_zero, List.set_cons_succ]; rfl
                  refine wpK_q (v := ?_) (a' := ?_) (by rfl) (fun w' hR => ?_) ?_ ?_
                  rotate_left 2
                  · go_simp; with_reducible rfl
                  · simp only [Act.put, List.setIfInBounds_toArray, List.set_cons_zero, List.set_cons_succ]; rfl
                  refine wpK_q (v := ?_) (a' := ?_) (by rfl) (fun w' hR => ?_) ?_ ?_
                  rotate_left 2
                  · go_simp; with_reducible rfl
                  · simp only [Act.put, List.setIfInBounds_toArray, List.set_cons_zero, List.set_cons_succ]; rfl
                  refine wpK_done ?_
                  try clear kc
                  try clear kS kW
                  go_wp2
                  go_roundw
                  case rel => exact ⟨j + 1, by omega, by go_num, hid (HB6.out.trans ((Ext.drew wz).mono HB6.out.size))⟩
                  case measure => simp [intOf]; omega
              · have f3 : decide ((1 : Int) + (A0 : Int) ≤ (j : Int)) = true := decide_eq_true (by omega)
                have f4 : decide ((j : Int) < (1 : Int) + (A0 : Int) + (Z : Int)) = true := decide_eq_true (by omega)
                have f0 : decide (0 < j) = true := decide_eq_true (by omega)
                have hj0 : ¬ j = 0 := by omega
                have f1 : ((j : Int) == 0) = false := by simpa using hj0
                go_upto_region 34 with (go_at_call 58; refine HRD.out.mono ?_; rintro e wz ⟨g6, cap6, rfl, hl6, hs6, -, hg6, hb6⟩; have HS6 := hid hs6; have HL6 := hid hl6; have HB6 := hid (HB5.out.trans (hb6.mono HB5.out.size)); clear hs6 hl6 hb6)
                obtain ⟨X, hX⟩ : ∃ X, X = DS.look D1.safe D1.waits j := ⟨_, rfl⟩
                skip
                have kS : ∀ w', Ext wz.drew w' → (convert 23 9 (.slice (some ⟨g6, 0, none⟩) 256 cap6)).run Try.prog w' = .ok (.string (str X)) w' := fun w' hh => run_str Try.underlying23 Try.underlying5 Try.underlying9 (by rw [hX]; exact HS6.out.drew.below hh)
                have kW : ∀ w', Ext wz.drew w' → w'.cell? ⟨gw, j, none⟩ = some (.string (str X)) := fun w' hh => by
                  have h1 := own_below HROW.out (HB6.out.trans ((Ext.trans _ _ _ (Ext.drew wz) hh).mono HB6.out.size))
                  rw [own_cell h1 (wasL_at D1 hjn), hX]
                clear hX
                refine wp_region_order Ext [] [(0,0),(1,0),(2,0),(3,0),(4,0),(5,0),(6,0),(7,0),(8,0),(9,0),(10,0),(11,0),(12,0),(13,0),(14,0),(15,0),(16,0),(17,0),(18,0),(19,0),(20,0),(21,0),(22,0),(23,0),(24,0),(25,0),(26,0),(27,0),(28,0),(29,0),(30,0),(31,0),(32,0),(33,0),(34,0)] _ (by kernel_rfl) rfl Ext.refl Ext.trans (by kernel_rfl) (by simp only [pick, List.getElem?_toArray, List.getElem?_cons_zero, List.getElem?_cons_succ]; rfl) (fun c a d v w h => by cases d <;> exact h) ?_
                refine wpK_q (v := ?_) (a' := ?_) (by rfl) (fun w' hR => ?_) ?_ ?_
                rotate_left 2
                · go_simp; with_reducible rfl
                · simp only [Act.put, List.setIfInBounds_toArray, List.set_cons_zero, List.set_cons_succ]; rfl
                refine wpK_q (v := ?_) (a' := ?_) (by rfl) (fun w' hR => ?_) ?_ ?_
                rotate_left 2
                · go_simp; with_reducible rfl
                · simp only [Act.put, List.setIfInBounds_toArray, List.set_cons_zero, List.set_cons_succ]; rfl
                refine wpK_q (v := ?_) (a' := ?_) (by rfl) (fun w' hR => ?_) ?_ ?_
                rotate_left 2
                · go_simp; with_reducible rfl
                · simp only [Act.put, List.setIfInBounds_toArray, List.set_cons_zero, List.set_cons_succ]; rfl
                refine wpK_q (v := ?_) (a' := ?_) (by rfl) (fun w' hR => ?_) ?_ ?_
                rotate_left 2
                · go_simp; with_reducible rfl
                · simp only [Act.put, List.setIfInBounds_toArray, List.set_cons_zero, List.set_cons_succ]; rfl
                refine wpK_q (v := ?_) (a' := ?_) (by rfl) (fun w' hR => ?_) ?_ ?_
                rotate_left 2
                · go_simp; with_reducible rfl
                · simp only [Act.put, List.setIfInBounds_toArray, List.set_cons_zero, List.set_cons_succ]; rfl
                refine wpK_q (v := ?_) (a' := ?_) (by rfl) (fun w' hR => ?_) ?_ ?_
                rotate_left 2
                · go_simp; with_reducible rfl
                · simp only [Act.put, List.setIfInBounds_toArray, List.set_cons_zero, List.set_cons_succ]; rfl
                refine wpK_off (a' := ?_) (by rfl) ?_ ?_
                rotate_left
                · simp only [Act.put, List.setIfInBounds_toArray, List.set_cons_zero, List.set_cons_succ]; rfl
                refine wpK_off (a' := ?_) (by rfl) ?_ ?_
                rotate_left
                · simp only [Act.put, List.setIfInBounds_toArray, List.set_cons_zero, List.set_cons_succ]; rfl
                refine wpK_off (a' := ?_) (by rfl) ?_ ?_
                rotate_left
                · simp only [Act.put, List.setIfInBounds_toArray, List.set_cons_zero, List.set_cons_succ]; rfl
                refine wpK_off (a' := ?_) (by rfl) ?_ ?_
                rotate_left
                · simp only [Act.put, List.setIfInBounds_toArray, List.set_cons_zero, List.set_cons_succ]; rfl
                refine wpK_off (a' := ?_) (by rfl) ?_ ?_
                rotate_left
                · simp only [Act.put, List.setIfInBounds_toArray, List.set_cons_zero, List.set_cons_succ]; rfl
                refine wpK_off (a' := ?_) (by rfl) ?_ ?_
                rotate_left
                · simp only [Act.put, List.setIfInBounds_toArray, List.set_cons_zero, List.set_cons_succ]; rfl
                refine wpK_q (v := ?_) (a' := ?_) (by rfl) (fun w' hR => ?_) ?_ ?_
                rotate_left 2
                · go_simp; with_reducible rfl
                · simp only [Act.put, List.setIfInBounds_toArray, List.set_cons_zero, List.set_cons_succ]; rfl
                refine wpK_q (v := ?_) (a' := ?_) (by rfl) (fun w' hR => ?_) ?_ ?_
                rotate_left 2
                · go_simp; with_reducible rfl
                · simp only [Act.put, List.setIfInBounds_toArray, List.set_cons_zero, List.set_cons_succ]; rfl
                refine wpK_q (v := ?_) (a' := ?_) (by rfl) (fun w' hR => ?_) ?_ ?_
                rotate_left 2
                · go_simp; with_reducible rfl
                · simp only [Act.put, List.setIfInBounds_toArray, List.set_cons_zero, List.set_cons_succ]; rfl
                refine wpK_q (v := ?_) (a' := ?_) (by rfl) (fun w' hR => ?_) ?_ ?_
                rotate_left 2
                · go_simp; with_reducible rfl
                · simp only [Act.put, List.setIfInBounds_toArray, List.set_cons_zero, List.set_cons_succ]; rfl
                refine wpK_q (v := ?_) (a' := ?_) (by rfl) (fun w' hR => ?_) ?_ ?_
                rotate_left 2
                · go_simp; with_reducible rfl
                · simp only [Act.put, List.setIfInBounds_toArray, List.set_cons_zero, List.set_cons_succ]; rfl
                refine wpK_q (v := ?_) (a' := ?_) (by rfl) (fun w' hR => ?_) ?_ ?_
                rotate_left 2
                · go_simp; with_reducible rfl
                · simp only [Act.put, List.setIfInBounds_toArray, List.set_cons_zero, List.set_cons_succ]; rfl
                refine wpK_q (v := ?_) (a' := ?_) (by rfl) (fun w' hR => ?_) ?_ ?_
                rotate_left 2
                · go_simp; with_reducible rfl
                · simp only [Act.put, List.setIfInBounds_toArray, List.set_cons_zero, List.set_cons_succ]; rfl
                refine wpK_q (v := ?_) (a' := ?_) (by rfl) (fun w' hR => ?_) ?_ ?_
                rotate_left 2
                · go_simp; with_reducible rfl
                · simp only [Act.put, List.setIfInBounds_toArray, List.set_cons_zero, List.set_cons_succ]; rfl
                refine wpK_q (v := ?_) (a' := ?_) (by rfl) (fun w' hR => ?_) ?_ ?_
                rotate_left 2
                · go_simp; with_reducible rfl
                · simp only [Act.put, List.setIfInBounds_toArray, List.set_cons_zero, List.set_cons_succ]; rfl
                refine wpK_off (a' := ?_) (by rfl) ?_ ?_
                rotate_left
                · simp only [Act.put, List.setIfInBounds_toArray, List.set_cons_zero, List.set_cons_succ]; rfl
                refine wpK_q (v := ?_) (a' := ?_) (by rfl) (fun w' hR => ?_) ?_ ?_
                rotate_left 2
                · go_simp; with_reducible rfl
                · simp only [Act.put, List.setIfInBounds_toArray, List.set_cons_zero, List.set_cons_succ]; rfl
                refine wpK_q (v := ?_) (a' := ?_) (by rfl) (fun w' hR => ?_) ?_ ?_
                rotate_left 2
                · go_simp; with_reducible rfl
                · simp only [Act.put, List.setIfInBounds_toArray, List.set_cons_zero, List.set_cons_succ]; rfl
                refine wpK_q (v := ?_) (a' := ?_) (by rfl) (fun w' hR => ?_) ?_ ?_
                rotate_left 2
                · go_simp; with_reducible rfl
                · simp only [Act.put, List.setIfInBounds_toArray, List.set_cons_zero, List.set_cons_succ]; rfl
                refine wpK_q (v := ?_) (a' := ?_) (by rfl) (fun w' hR => ?_) ?_ ?_
                rotate_left 2
                · go_simp; with_reducible rfl
                · simp only [Act.put, List.setIfInBounds_toArray, List.set_cons_zero, List.set_cons_succ]; rfl
                refine wpK_q (v := ?_) (a' := ?_) (by rfl) (fun w' hR => ?_) ?_ ?_
                rotate_left 2
                · go_simp; with_reducible rfl
                · simp only [Act.put, List.setIfInBounds_toArray, List.set_cons_zero, List.set_cons_succ]; rfl
                refine wpK_q (v := ?_) (a' := ?_) (by rfl) (fun w' hR => ?_) ?_ ?_
                rotate_left 2
                · go_simp; with_reducible rfl
                · simp only [Act.put, List.setIfInBounds_toArray, List.set_cons_zero, List.set_cons_succ]; rfl
                refine wpK_q (v := ?_) (a' := ?_) (by rfl) (fun w' hR => ?_) ?_ ?_
                rotate_left 2
                · go_simp; with_reducible rfl
                · simp only [Act.put, List.setIfInBounds_toArray, List.set_cons_zero, List.set_cons_succ]; rfl
                refine wpK_q (v := ?_) (a' := ?_) (by rfl) (fun w' hR => ?_) ?_ ?_
                rotate_left 2
                · go_simp; with_reducible rfl
                · simp only [Act.put, List.setIfInBounds_toArray, List.set_cons_zero, List.set_cons_succ]; rfl
                refine wpK_q (v := ?_) (a' := ?_) (by rfl) (fun w' hR => ?_) ?_ ?_
                rotate_left 2
                · go_simp; with_reducible rfl
                · simp only [Act.put, List.setIfInBounds_toArray, List.set_cons_zero, List.set_cons_succ]; rfl
                refine wpK_q (v := ?_) (a' := ?_) (by rfl) (fun w' hR => ?_) ?_ ?_
                rotate_left 2
                · go_simp; with_reducible rfl
                · simp only [Act.put, List.setIfInBounds_toArray, List.set_cons_zero, List.set_cons_succ]; rfl
                refine wpK_q (v := ?_) (a' := ?_) (by rfl) (fun w' hR => ?_) ?_ ?_
                rotate_left 2
                · go_simp; with_reducible rfl
                · simp only [Act.put, List.setIfInBounds_toArray, List.set_cons_zero, List.set_cons_succ]; rfl
                refine wpK_q (v := ?_) (a' := ?_) (by rfl) (fun w' hR => ?_) ?_ ?_
                rotate_left 2
                · go_simp; with_reducible rfl
                · simp only [Act.put, List.setIfInBounds_toArray, List.set_cons_zero, List.set_cons_succ]; rfl
                refine wpK_q (v := ?_) (a' := ?_) (by rfl) (fun w' hR => ?_) ?_ ?_
                rotate_left 2
                · go_simp; with_reducible rfl
                · simp only [Act.put, List.setIfInBounds_toArray, List.set_cons_zero, List.set_cons_succ]; rfl
                refine wpK_done ?_
                try clear kc
                try clear kS kW
                go_wp2
                go_roundw
                case rel => exact ⟨j + 1, by omega, by go_num, hid (HB6.out.trans ((Ext.drew wz).mono HB6.out.size))⟩
                case measure => simp [intOf]; omega
              · have f3 : decide ((1 : Int) + (A0 : Int) ≤ (j : Int)) = true := decide_eq_true (by omega)
                have f4 : decide ((j : Int) < (1 : Int) + (A0 : Int) + (Z : Int)) = false := decide_eq_false (by omega)
                have f0 : decide (0 < j) = true := decide_eq_true (by omega)
                have hj0 : ¬ j = 0 := by omega
                have f1 : ((j : Int) == 0) = false := by simpa using hj0
                go_upto_region 34 with (go_at_call 58; refine HRD.out.mono ?_; rintro e wz ⟨g6, cap6, rfl, hl6, hs6, -, hg6, hb6⟩; have HS6 := hid hs6; have HL6 := hid hl6; have HB6 := hid (HB5.out.trans (hb6.mono HB5.out.size)); clear hs6 hl6 hb6)
                obtain ⟨X, hX⟩ : ∃ X, X = DS.look D1.safe D1.waits j := ⟨_, rfl⟩
                skip
                have kS : ∀ w', Ext wz.drew w' → (convert 23 9 (.slice (some ⟨g6, 0, none⟩) 256 cap6)).run Try.prog w' = .ok (.string (str X)) w' := fun w' hh => run_str Try.underlying23 Try.underlying5 Try.underlying9 (by rw [hX]; exact HS6.out.drew.below hh)
                have kW : ∀ w', Ext wz.drew w' → w'.cell? ⟨gw, j, none⟩ = some (.string (str X)) := fun w' hh => by
                  have h1 := own_below HROW.out (HB6.out.trans ((Ext.trans _ _ _ (Ext.drew wz) hh).mono HB6.out.size))
                  rw [own_cell h1 (wasL_at D1 hjn), hX]
                clear hX
                refine wp_region_order Ext [] [(0,0),(1,0),(2,0),(3,0),(4,0),(5,0),(6,0),(7,0),(8,0),(9,0),(10,0),(11,0),(12,0),(13,0),(14,0),(15,0),(16,0),(17,0),(18,0),(19,0),(20,0),(21,0),(22,0),(23,0),(24,0),(25,0),(26,0),(27,0),(28,0),(29,0),(30,0),(31,0),(32,0),(33,0),(34,0)] _ (by kernel_rfl) rfl Ext.refl Ext.trans (by kernel_rfl) (by simp only [pick, List.getElem?_toArray, List.getElem?_cons_zero, List.getElem?_cons_succ]; rfl) (fun c a d v w h => by cases d <;> exact h) ?_
                refine wpK_q (v := ?_) (a' := ?_) (by rfl) (fun w' hR => ?_) ?_ ?_
                rotate_left 2
                · go_simp; with_reducible rfl
                · simp only [Act.put, List.setIfInBounds_toArray, List.set_cons_zero, List.set_cons_succ]; rfl
                refine wpK_q (v := ?_) (a' := ?_) (by rfl) (fun w' hR => ?_) ?_ ?_
                rotate_left 2
                · go_simp; with_reducible rfl
                · simp only [Act.put, List.setIfInBounds_toArray, List.set_cons_zero, List.set_cons_succ]; rfl
                refine wpK_q (v := ?_) (a' := ?_) (by rfl) (fun w' hR => ?_) ?_ ?_
                rotate_left 2
                · go_simp; with_reducible rfl
                · simp only [Act.put, List.setIfInBounds_toArray, List.set_cons_zero, List.set_cons_succ]; rfl
                refine wpK_q (v := ?_) (a' := ?_) (by rfl) (fun w' hR => ?_) ?_ ?_
                rotate_left 2
                · go_simp; with_reducible rfl
                · simp only [Act.put, List.setIfInBounds_toArray, List.set_cons_zero, List.set_cons_succ]; rfl
                refine wpK_q (v := ?_) (a' := ?_) (by rfl) (fun w' hR => ?_) ?_ ?_
                rotate_left 2
                · go_simp; with_reducible rfl
                · simp only [Act.put, List.setIfInBounds_toArray, List.set_cons_zero, List.set_cons_succ]; rfl
                refine wpK_q (v := ?_) (a' := ?_) (by rfl) (fun w' hR => ?_) ?_ ?_
                rotate_left 2
                · go_simp; with_reducible rfl
                · simp only [Act.put, List.setIfInBounds_toArray, List.set_cons_zero, List.set_cons_succ]; rfl
                refine wpK_off (a' := ?_) (by rfl) ?_ ?_
                rotate_left
                · simp only [Act.put, List.setIfInBounds_toArray, List.set_cons_zero, List.set_cons_succ]; rfl
                refine wpK_off (a' := ?_) (by rfl) ?_ ?_
                rotate_left
                · simp only [Act.put, List.setIfInBounds_toArray, List.set_cons_zero, List.set_cons_succ]; rfl
                refine wpK_off (a' := ?_) (by rfl) ?_ ?_
                rotate_left
                · simp only [Act.put, List.setIfInBounds_toArray, List.set_cons_zero, List.set_cons_succ]; rfl
                refine wpK_off (a' := ?_) (by rfl) ?_ ?_
                rotate_left
                · simp only [Act.put, List.setIfInBounds_toArray, List.set_cons_zero, List.set_cons_succ]; rfl
                refine wpK_off (a' := ?_) (by rfl) ?_ ?_
                rotate_left
                · simp only [Act.put, List.setIfInBounds_toArray, List.set_cons_zero, List.set_cons_succ]; rfl
                refine wpK_off (a' := ?_) (by rfl) ?_ ?_
                rotate_left
                · simp only [Act.put, List.setIfInBounds_toArray, List.set_cons_zero, List.set_cons_succ]; rfl
                refine wpK_q (v := ?_) (a' := ?_) (by rfl) (fun w' hR => ?_) ?_ ?_
                rotate_left 2
                · go_simp; with_reducible rfl
                · simp only [Act.put, List.setIfInBounds_toArray, List.set_cons_zero, List.set_cons_succ]; rfl
                refine wpK_q (v := ?_) (a' := ?_) (by rfl) (fun w' hR => ?_) ?_ ?_
                rotate_left 2
                · go_simp; with_reducible rfl
                · simp only [Act.put, List.setIfInBounds_toArray, List.set_cons_zero, List.set_cons_succ]; rfl
                refine wpK_q (v := ?_) (a' := ?_) (by rfl) (fun w' hR => ?_) ?_ ?_
                rotate_left 2
                · go_simp; with_reducible rfl
                · simp only [Act.put, List.setIfInBounds_toArray, List.set_cons_zero, List.set_cons_succ]; rfl
                refine wpK_q (v := ?_) (a' := ?_) (by rfl) (fun w' hR => ?_) ?_ ?_
                rotate_left 2
                · go_simp; with_reducible rfl
                · simp only [Act.put, List.setIfInBounds_toArray, List.set_cons_zero, List.set_cons_succ]; rfl
                refine wpK_q (v := ?_) (a' := ?_) (by rfl) (fun w' hR => ?_) ?_ ?_
                rotate_left 2
                · go_simp; with_reducible rfl
                · simp only [Act.put, List.setIfInBounds_toArray, List.set_cons_zero, List.set_cons_succ]; rfl
                refine wpK_q (v := ?_) (a' := ?_) (by rfl) (fun w' hR => ?_) ?_ ?_
                rotate_left 2
                · go_simp; with_reducible rfl
                · simp only [Act.put, List.setIfInBounds_toArray, List.set_cons_zero, List.set_cons_succ]; rfl
                refine wpK_q (v := ?_) (a' := ?_) (by rfl) (fun w' hR => ?_) ?_ ?_
                rotate_left 2
                · go_simp; with_reducible rfl
                · simp only [Act.put, List.setIfInBounds_toArray, List.set_cons_zero, List.set_cons_succ]; rfl
                refine wpK_q (v := ?_) (a' := ?_) (by rfl) (fun w' hR => ?_) ?_ ?_
                rotate_left 2
                · go_simp; with_reducible rfl
                · simp only [Act.put, List.setIfInBounds_toArray, List.set_cons_zero, List.set_cons_succ]; rfl
                refine wpK_q (v := ?_) (a' := ?_) (by rfl) (fun w' hR => ?_) ?_ ?_
                rotate_left 2
                · go_simp; with_reducible rfl
                · simp only [Act.put, List.setIfInBounds_toArray, List.set_cons_zero, List.set_cons_succ]; rfl
                refine wpK_off (a' := ?_) (by rfl) ?_ ?_
                rotate_left
                · simp only [Act.put, List.setIfInBounds_toArray, List.set_cons_zero, List.set_cons_succ]; rfl
                refine wpK_q (v := ?_) (a' := ?_) (by rfl) (fun w' hR => ?_) ?_ ?_
                rotate_left 2
                · go_simp; with_reducible rfl
                · simp only [Act.put, List.setIfInBounds_toArray, List.set_cons_zero, List.set_cons_succ]; rfl
                refine wpK_q (v := ?_) (a' := ?_) (by rfl) (fun w' hR => ?_) ?_ ?_
                rotate_left 2
                · go_simp; with_reducible rfl
                · simp only [Act.put, List.setIfInBounds_toArray, List.set_cons_zero, List.set_cons_succ]; rfl
                refine wpK_q (v := ?_) (a' := ?_) (by rfl) (fun w' hR => ?_) ?_ ?_
                rotate_left 2
                · go_simp; with_reducible rfl
                · simp only [Act.put, List.setIfInBounds_toArray, List.set_cons_zero, List.set_cons_succ]; rfl
                refine wpK_q (v := ?_) (a' := ?_) (by rfl) (fun w' hR => ?_) ?_ ?_
                rotate_left 2
                · go_simp; with_reducible rfl
                · simp only [Act.put, List.setIfInBounds_toArray, List.set_cons_zero, List.set_cons_succ]; rfl
                refine wpK_q (v := ?_) (a' := ?_) (by rfl) (fun w' hR => ?_) ?_ ?_
                rotate_left 2
                · go_simp; with_reducible rfl
                · simp only [Act.put, List.setIfInBounds_toArray, List.set_cons_zero, List.set_cons_succ]; rfl
                refine wpK_q (v := ?_) (a' := ?_) (by rfl) (fun w' hR => ?_) ?_ ?_
                rotate_left 2
                · go_simp; with_reducible rfl
                · simp only [Act.put, List.setIfInBounds_toArray, List.set_cons_zero, List.set_cons_succ]; rfl
                refine wpK_q (v := ?_) (a' := ?_) (by rfl) (fun w' hR => ?_) ?_ ?_
                rotate_left 2
                · go_simp; with_reducible rfl
                · simp only [Act.put, List.setIfInBounds_toArray, List.set_cons_zero, List.set_cons_succ]; rfl
                refine wpK_q (v := ?_) (a' := ?_) (by rfl) (fun w' hR => ?_) ?_ ?_
                rotate_left 2
                · go_simp; with_reducible rfl
                · simp only [Act.put, List.setIfInBounds_toArray, List.set_cons_zero, List.set_cons_succ]; rfl
                refine wpK_q (v := ?_) (a' := ?_) (by rfl) (fun w' hR => ?_) ?_ ?_
                rotate_left 2
                · go_simp; with_reducible rfl
                · simp only [Act.put, List.setIfInBounds_toArray, List.set_cons_zero, List.set_cons_succ]; rfl
                refine wpK_q (v := ?_) (a' := ?_) (by rfl) (fun w' hR => ?_) ?_ ?_
                rotate_left 2
                · go_simp; with_reducible rfl
                · simp only [Act.put, List.setIfInBounds_toArray, List.set_cons_zero, List.set_cons_succ]; rfl
                refine wpK_q (v := ?_) (a' := ?_) (by rfl) (fun w' hR => ?_) ?_ ?_
                rotate_left 2
                · go_simp; with_reducible rfl
                · simp only [Act.put, List.setIfInBounds_toArray, List.set_cons_zero, List.set_cons_succ]; rfl
                refine wpK_q (v := ?_) (a' := ?_) (by rfl) (fun w' hR => ?_) ?_ ?_
                rotate_left 2
                · go_simp; with_reducible rfl
                · simp only [Act.put, List.setIfInBounds_toArray, List.set_cons_zero, List.set_cons_succ]; rfl
                refine wpK_q (v := ?_) (a' := ?_) (by rfl) (fun w' hR => ?_) ?_ ?_
                rotate_left 2
                · go_simp; with_reducible rfl
                · simp only [Act.put, List.setIfInBounds_toArray, List.set_cons_zero, List.set_cons_succ]; rfl
                refine wpK_done ?_
                try clear kc
                try clear kS kW
                go_wp2
                go_roundw
                case rel => exact ⟨j + 1, by omega, by go_num, hid (HB6.out.trans ((Ext.drew wz).mono HB6.out.size))⟩
                case measure => simp [intOf]; omega

namespace pairTurns
theorem walkAll (n0 : Int) (hn0 : -9223372036854775808 ≤ n0 ∧ n0 ≤ 9223372036854775807) (a0 : Option Addr) (cap0 : Nat) (L : List (List UInt8)) {w : World} (h0 : Shows w (.slice a0 L.length cap0) L) (a1 : Option Addr) (cap1 : Nat) (r : List UInt8) (h1 : Sees w (.slice a1 r.length cap1) r) (w' : World) (e : w = w') :
    Calls Try.prog 21 #[I n0, .slice a0 L.length cap0, .slice a1 r.length cap1] w' fun e w'' => e = .returned (.bool true) ∧ Below w'.heap.size w' w'' := by
  subst e
  exact turns_walk w n0 hn0 a0 cap0 L h0 a1 cap1 r h1
end pairTurns
end Go.Proofs.Ytoaeapnkefjpaaa

namespace Go.Proofs.Ytoaeapnkefjpaaa
open Go.ChangeShapes Go.WideShapes Go.ChangeAt Go.RowKit
open Go.ChangeMaps (open_string shut_string)
set_option linter.unusedVariables false
set_option linter.unusedSimpArgs false
theorem arr2 {cs : Array Value} (h : cs.size = 2) : ∃ a b, cs = #[a, b] := by
  obtain ⟨l⟩ := cs
  match l, h with
  | [a, b], _ => exact ⟨a, b, rfl⟩
set_option maxRecDepth 100000 in
/-- Two ints in an array, by value. -/
theorem open_two {H : Type} {enc : TypeId × Value → H} {W : World} {base : Nat} {sp : Nat → Bool} {held : Bool} {r : Reach} {b0 : Nat} {v : Value} {d : DataW H} {p : List MemPlace} (hv : Value.okWide Try.prog W r b0 29 v) (h : DataW.Trod enc Try.prog W base sp held 29 v d p) :
    ∃ x y : Int, v = .agg #[.int .i64 x, .int .i64 y] ∧ (Lit.int .i64 x).wf = true ∧ (Lit.int .i64 y).wf = true := by
  simp only [Value.okWide, Try.underlying29] at hv
  obtain ⟨cs, rfl, hs, -⟩ := hv
  have h2 : Try.prog.cellsOf 29 = 2 := by kernel_rfl
  have h1 : Try.prog.cellsOf 3 = 1 := by kernel_rfl
  obtain ⟨c0, c1, rfl⟩ := arr2 (hs.trans h2)
  obtain ⟨fuel, hf⟩ := h
  obtain ⟨xs, m, -, -, -, hxl, hx⟩ := DataW.trod_array Try.underlying29 hf
  have hx0 := hx 0 (by omega)
  have hx1 := hx 1 (by omega)
  rw [h1] at hx0 hx1
  obtain ⟨y0, e0⟩ : ∃ y, xs[0]? = some y := ⟨_, List.getElem?_eq_getElem (by omega)⟩
  obtain ⟨y1, e1⟩ : ∃ y, xs[1]? = some y := ⟨_, List.getElem?_eq_getElem (by omega)⟩
  rw [e0] at hx0
  rw [e1] at hx1
  simp [Value.cells] at hx0 hx1
  obtain ⟨a, ea, -, wa⟩ := DataW.trod_int Try.underlying3 hx0
  obtain ⟨b, eb, -, wb⟩ := DataW.trod_int Try.underlying3 hx1
  simp at ea eb
  subst ea eb
  exact ⟨a, b, rfl, wa, wb⟩
end Go.Proofs.Ytoaeapnkefjpaaa

namespace Go.Proofs.Ytoaeapnkefjpaaa
open Go.ChangeShapes Go.WideShapes Go.ChangeAt Go.RowKit
set_option linter.unusedVariables false
set_option linter.unusedSimpArgs false
set_option maxRecDepth 100000 in
theorem in_elems {H : Type} {enc : TypeId × Value → H} {W : World} {base : Nat} {sp : Nat → Bool} {held : Bool} {t e : TypeId} {n : Nat} {a : Option Addr} {len cap : Nat} {d : DataW H} {p : List MemPlace} (ht : Try.prog.underlying t = some (.slice e)) (hc : Try.prog.cellsOf e = n) (hn : 0 < n)
    (h : DataW.Trod enc Try.prog W base sp held t (Value.slice a len cap) d p) :
    (len ≤ cap ∧ cap ≤ maxLen) ∧ (0 < len → ∃ g off, a = some ⟨g, off, none⟩ ∧ ∀ i, i < len → ∃ (cs : List Value) (fuel : Nat) (y : DataW H × List MemPlace), cs.length = n ∧ (∀ j v, cs[j]? = some v → W.cell? ⟨g, off + i * n + j, none⟩ = some v) ∧ DataW.trod enc Try.prog W base sp held fuel e cs = some y) := by
  obtain ⟨fuel, hf⟩ := h
  rcases Deep.open_slice ht hf with ⟨hcs, _⟩ | ⟨x, l, c, m, k, D, Pl, hcs, _, hl, hm, hmm, _, hx⟩
  · simp [Value.cells] at hcs
    obtain ⟨rfl, rfl, rfl⟩ := hcs
    exact ⟨⟨Nat.le_refl _, Nat.zero_le _⟩, fun h => absurd h (by omega)⟩
  · simp [Value.cells] at hcs
    obtain ⟨rfl, rfl, rfl⟩ := hcs
    refine ⟨⟨hl, hm⟩, fun h0 => ?_⟩
    have hlm : len ≤ m := by rw [hmm]; split <;> omega
    have key : ∀ i, i < len → ∃ (cs : List Value) (fuel : Nat) (y : DataW H × List MemPlace), cs.length = n ∧ (∀ j, (hj : j < cs.length) → W.cell? ((x.add (i * n)).add j) = some cs[j]) ∧ DataW.trod enc Try.prog W base sp held fuel e cs = some y := by
      intro i hi
      obtain ⟨cs', h1, h2⟩ := hx i (by omega)
      rw [hc] at h1
      obtain ⟨_, hlen, hcell⟩ := World.cells?_some h1
      exact ⟨cs', k, _, hlen, fun j hj => (hcell j (by omega)).trans (List.getElem?_eq_getElem hj), h2⟩
    obtain ⟨g, off, spot⟩ := x
    obtain ⟨cs, _, _, hlen, h1, -⟩ := key 0 h0
    have hs : spot = none := by simpa [Addr.add] using World.cell?_spot (h1 0 (by omega))
    subst hs
    refine ⟨g, off, rfl, fun i hi => ?_⟩
    obtain ⟨cs, fu, y, hlen, h1, h2⟩ := key i hi
    refine ⟨cs, fu, y, hlen, fun j v hj => ?_, h2⟩
    have hjl := (List.getElem?_eq_some_iff.1 hj).1
    have := h1 j hjl
    rw [add_off, add_off] at this
    rw [this, ← hj, List.getElem?_eq_getElem hjl]
/-- A struct of five fields of one cell each. -/
theorem list5 {cs : List Value} (h : cs.length = 5) : ∃ a b c d e, cs = [a, b, c, d, e] := by
  match cs, h with
  | [a, b, c, d, e], _ => exact ⟨a, b, c, d, e, rfl⟩
theorem list4 {cs : List Value} (h : cs.length = 4) : ∃ a b c d, cs = [a, b, c, d] := by
  match cs, h with
  | [a, b, c, d], _ => exact ⟨a, b, c, d, rfl⟩
theorem list1 {cs : List Value} (h : cs.length = 1) : ∃ a, cs = [a] := by
  match cs, h with
  | [a], _ => exact ⟨a, rfl⟩
/-- A byte that came in. -/
theorem byte_of {n : Int} (h : (Lit.int .u8 n).wf = true) : ∃ c : UInt8, n = (c.toNat : Int) := by
  simp only [Lit.wf, IntKind.min, IntKind.max, IntKind.signed, IntKind.bits, Bool.and_eq_true, decide_eq_true_eq] at h
  have h1 : 0 ≤ n ∧ n ≤ 255 := by simpa using h
  exact ⟨UInt8.ofNat n.toNat, by rw [UInt8.toNat_ofNat_of_lt' (by simp [UInt8.size]; omega)]; omega⟩
set_option maxRecDepth 100000 in
/-- A script of the drum's that came in. -/
theorem in_calls3 {H : Type} {enc : TypeId × Value → H} {W : World} {base : Nat} {sp : Nat → Bool} {held : Bool} {a : Option Addr} {len cap : Nat} {d : DataW H} {p : List MemPlace} (h : DataW.Trod enc Try.prog W base sp held 81 (Value.slice a len cap) d p) :
    len ≤ 9223372036854775807 ∧ (0 < len → ∃ g off, a = some ⟨g, off, none⟩ ∧ ∀ i, i < len → ∃ (k a n : Int) (c : UInt8) (s : Bool), W.cell? ⟨g, off + i * 5, none⟩ = some (.int .i64 k) ∧ W.cell? ⟨g, off + i * 5 + 1, none⟩ = some (.int .i64 a) ∧ W.cell? ⟨g, off + i * 5 + 2, none⟩ = some (.int .i64 n) ∧ W.cell? ⟨g, off + i * 5 + 3, none⟩ = some (B c) ∧ W.cell? ⟨g, off + i * 5 + 4, none⟩ = some (.bool s) ∧
    (-9223372036854775808 ≤ a ∧ a ≤ 9223372036854775807) ∧ (-9223372036854775808 ≤ n ∧ n ≤ 9223372036854775807)) := by
  have c3 : Try.prog.cellsOf 3 = 1 := by kernel_rfl
  have c4 : Try.prog.cellsOf 4 = 1 := by kernel_rfl
  have c5 : Try.prog.cellsOf 5 = 1 := by kernel_rfl
  obtain ⟨⟨h1, h2⟩, h3⟩ := in_elems (n := 5) Try.underlying81 (by kernel_rfl) (by omega) h
  refine ⟨by unfold maxLen at h2; omega, fun h0 => ?_⟩
  obtain ⟨g, off, rfl, hx⟩ := h3 h0
  refine ⟨g, off, rfl, fun i hi => ?_⟩
  obtain ⟨cs, fu, y, hlen, hcell, hy⟩ := hx i hi
  obtain ⟨v0, v1, v2, v3, v4, rfl⟩ := list5 hlen
  obtain ⟨xs, k, -, -, -, hxl, hxx⟩ := DataW.trod_struct Try.underlying83 hy
  have g0 : DataW.trod enc Try.prog W base sp held k 3 (([v0, v1, v2, v3, v4].drop 0).take (Try.prog.cellsOf 3)) = xs[0]? := hxx 0 _ rfl
  have g1 : DataW.trod enc Try.prog W base sp held k 3 (([v0, v1, v2, v3, v4].drop 1).take (Try.prog.cellsOf 3)) = xs[1]? := hxx 1 _ rfl
  have g2 : DataW.trod enc Try.prog W base sp held k 3 (([v0, v1, v2, v3, v4].drop 2).take (Try.prog.cellsOf 3)) = xs[2]? := hxx 2 _ rfl
  have g3 : DataW.trod enc Try.prog W base sp held k 5 (([v0, v1, v2, v3, v4].drop 3).take (Try.prog.cellsOf 5)) = xs[3]? := hxx 3 _ rfl
  have g4 : DataW.trod enc Try.prog W base sp held k 4 (([v0, v1, v2, v3, v4].drop 4).take (Try.prog.cellsOf 4)) = xs[4]? := hxx 4 _ rfl
  replace hxl : xs.length = 5 := hxl
  simp only [c3, c4, c5] at g0 g1 g2 g3 g4
  rw [List.getElem?_eq_getElem (by omega)] at g0 g1 g2 g3 g4
  simp at g0 g1 g2 g3 g4
  obtain ⟨n0, e0, -, w0⟩ := DataW.trod_int Try.underlying3 g0
  obtain ⟨n1, e1, -, w1⟩ := DataW.trod_int Try.underlying3 g1
  obtain ⟨n2, e2, -, w2⟩ := DataW.trod_int Try.underlying3 g2
  obtain ⟨n3, e3, -, w3⟩ := DataW.trod_int Try.underlying5 g3
  obtain ⟨n4, e4, -⟩ := DataW.trod_bool Try.underlying4 g4
  simp at e0 e1 e2 e3 e4
  subst e0 e1 e2 e3 e4
  obtain ⟨c, rfl⟩ := byte_of w3
  exact ⟨n0, n1, n2, c, n4, hcell 0 _ rfl, hcell 1 _ rfl, hcell 2 _ rfl, hcell 3 _ rfl, hcell 4 _ rfl, bounds_i64 w1, bounds_i64 w2⟩
end Go.Proofs.Ytoaeapnkefjpaaa

namespace Go.Proofs.Ytoaeapnkefjpaaa
open Go.ChangeShapes Go.WideShapes Go.ChangeAt Go.RowKit
set_option linter.unusedVariables false
set_option linter.unusedSimpArgs false
theorem list_of {α : Type} {P : Nat → α → Prop} : ∀ (n : Nat), (∀ i, i < n → ∃ x, P i x) → ∃ L : List α, L.length = n ∧ ∀ i x, L[i]? = some x → P i x
  | 0, _ => ⟨[], rfl, fun i x h => by simp at h⟩
  | n + 1, h => by
    obtain ⟨L, hl, hp⟩ := list_of n (fun i hi => h i (by omega))
    obtain ⟨x, hx⟩ := h n (by omega)
    refine ⟨L ++ [x], by simp [hl], fun i y hy => ?_⟩
    by_cases hi : i < n
    · rw [List.getElem?_append_left (by omega)] at hy
      exact hp i y hy
    · have hlt := (List.getElem?_eq_some_iff.1 hy).1
      simp only [List.length_append, List.length_cons, List.length_nil] at hlt
      have : i = n := by omega
      subst this
      rw [List.getElem?_append_right (by omega), hl, Nat.sub_self] at hy
      simp only [List.getElem?_cons_zero, Option.some.injEq] at hy
      exact hy ▸ hx
set_option maxRecDepth 100000 in
theorem in_bytes {H : Type} {enc : TypeId × Value → H} {W : World} {base : Nat} {held : Bool} {fuel : Nat} {v : Value} {y : DataW H × List MemPlace} (h : DataW.trod enc Try.prog W base (fun _ => true) held fuel 23 [v] = some y) : ∃ l, Sees W v l := by
  rcases open_ints Try.underlying23 Try.underlying5 (by kernel_rfl) h with ⟨hcs, _⟩ | ⟨x, l, c, zs, hcs, _, hl, hm, hz, _, hcell, hwz⟩
  · simp at hcs
    subst hcs
    exact ⟨[], Sees.nil W⟩
  · simp at hcs
    subst hcs
    obtain ⟨r, -, hr⟩ := sees_in (w := W) (a := some x) (len := l) (cap := c) (zs := zs) (.inr ⟨x, rfl, hl, hm, by simpa using hz, hcell, hwz⟩)
    exact ⟨r, hr⟩
set_option maxRecDepth 100000 in
theorem in_recs {H : Type} {enc : TypeId × Value → H} {W : World} {base : Nat} {held : Bool} {a : Option Addr} {len cap : Nat} {d : DataW H} {p : List MemPlace} (h : DataW.Trod enc Try.prog W base (fun _ => true) held 45 (Value.slice a len cap) d p) :
    ∃ L, L.length = len ∧ Shows W (.slice a len cap) L := by
  obtain ⟨⟨h1, h2⟩, h3⟩ := in_elems (n := 1) Try.underlying45 (by kernel_rfl) (by omega) h
  by_cases h0 : 0 < len
  · obtain ⟨g, off, rfl, hx⟩ := h3 h0
    obtain ⟨L, hl, hL⟩ := list_of (P := fun i r => ∃ u, W.cell? ⟨g, off + i, none⟩ = some u ∧ Sees W u r) len (fun i hi => by
      obtain ⟨cs, fu, y, hlen, hcell, hy⟩ := hx i hi
      obtain ⟨v, rfl⟩ := list1 hlen
      obtain ⟨l, hs⟩ := in_bytes hy
      have := hcell 0 v rfl
      rw [Nat.mul_one, Nat.add_zero] at this
      exact ⟨l, v, this, hs⟩)
    exact ⟨L, hl, _, cap, by rw [hl], by omega, h2, fun _ => ⟨g, off, rfl, hL⟩⟩
  · have : len = 0 := by omega
    subst this
    exact ⟨[], rfl, a, cap, rfl, Nat.zero_le _, h2, fun h => by simp at h⟩
end Go.Proofs.Ytoaeapnkefjpaaa
