/-
  THE PROGRAM'S TAPE, eleventh file: one round of lay's loop over the pages. Conditions: those that each contract names.
-/
import Derived.Test.YtoaeapnkefjpaaaTapeP10
import Derived.Test.YtoaeapnkefjpaaaRangeF
namespace Go.Proofs.Ytoaeapnkefjpaaa
open Go.RowKit
set_option linter.unusedVariables false
set_option linter.unusedSimpArgs false

def behind : Code → Code
  | .seq _ c => c
  | c => c
def within : Code → Code
  | .block _ c => c
  | c => c
def roundOf : Code → Code
  | .rangeFunc _ _ _ b => b
  | c => c
def assignOf : Code → Code
  | .rangeFunc _ _ b _ => b
  | c => c
noncomputable def layLoop : Code := within (behind (behind (behind (behind (behind (behind (Try.f111.body.getD .skip)))))))
noncomputable def layBody : Code := roundOf layLoop
noncomputable def layAssign : Code := assignOf layLoop
/-- Where the blocks lie. -/
structure LA where
  t : Nat
  p : Nat
  l : Nat
  kd : Nat
  b3 : Nat
  b6 : Nat
  b8 : Nat
  bs : Nat
  bn : Nat
  g : Nat
  n : Nat
  cap : Nat
/-- What stands all along the loop. -/
structure LW (w : World) (A : LA) (own0 : Nat → Prop) (T : TS) (a : Nat) (all : List UInt8) : Prop where
  tape : TapeIn w A.t A.p A.n T
  h3 : w.heap[A.b3]? = some (.cells #[.pointer (some ⟨A.t, 0, none⟩)] 86 (0, 0))
  h6 : w.heap[A.b6]? = some (.cells #[.int .i64 ((a : Int) / 256)] 3 (0, 0))
  pages : Sees w (.slice (some ⟨A.g, 0, none⟩) all.length A.cap) all
  hs : w.heap[A.bs]? = some (.cells #[.slice (some ⟨A.g, 0, none⟩) all.length A.cap] 23 (0, 0))
  hn : w.heap[A.bn]? = some (.cells #[I 256] 3 (0, 0))
  hd : w.heap[A.kd]? = some (.deferred (some []))
  out : ∀ k, k = A.t ∨ k = A.b3 ∨ k = A.b6 ∨ k = A.g ∨ k = A.bs ∨ k = A.bn ∨ k = A.kd → k < w.heap.size ∧ ¬ own0 k ∧ k ≠ A.b8 ∧ k ≠ A.l
  o8 : A.b8 < w.heap.size ∧ ¬ own0 A.b8 ∧ A.b8 ≠ A.l
  ol : A.l < w.heap.size ∧ ¬ own0 A.l
theorem LW.on {w W : World} {A : LA} {own0 : Nat → Prop} {T : TS} {a : Nat} {all : List UInt8} (h : LW w A own0 T a all) (hm : Mod (fun k => own0 k ∨ k = A.b8 ∨ k = A.l) w W) : LW W A own0 T a all := by
  have hk : ∀ k, k = A.t ∨ k = A.b3 ∨ k = A.b6 ∨ k = A.g ∨ k = A.bs ∨ k = A.bn ∨ k = A.kd → W.heap[k]? = w.heap[k]? := fun k hk => hm.block k (h.out k hk).1 (by have := h.out k hk; rintro (x | x | x) <;> simp_all)
  refine ⟨h.tape.keep (hk _ (by simp)), (hk _ (by simp)).trans h.h3, (hk _ (by simp)).trans h.h6, h.pages.keep (fun k e => hk k ?_), (hk _ (by simp)).trans h.hs, (hk _ (by simp)).trans h.hn, (hk _ (by simp)).trans h.hd, fun k e => ⟨Nat.lt_of_lt_of_le (h.out k e).1 hm.size, (h.out k e).2⟩, ⟨Nat.lt_of_lt_of_le h.o8.1 hm.size, h.o8.2⟩, ⟨Nat.lt_of_lt_of_le h.ol.1 hm.size, h.ol.2⟩⟩
  cases e
  simp
/-- Between two rounds: i pages are written. -/
structure LJ (wS : World) (A : LA) (own0 : Nat → Prop) (T : TS) (D0 : DS) (a : Nat) (all : List UInt8) (K : Nat) (rec : Loop) (i : Nat) (W : World) : Prop where
  mod : Mod (fun k => own0 k ∨ k = A.b8 ∨ k = A.l) wS W
  h8 : W.heap[A.b8]? = some (.cells #[.int .i64 (i : Int)] 3 (0, 0))
  hl : W.heap[A.l]? = some (.loop rec)
  drum : ∃ own D, DrumAt W A.p own D ∧ TS.wr D0 (T.lo + a / 256) ((TS.pagesOf all K).take i) = (0, D) ∧ ∀ k, own k → own0 k ∨ wS.heap.size ≤ k
theorem LJ.drewN {wS : World} {A : LA} {own0 : Nat → Prop} {T : TS} {D0 : DS} {a : Nat} {all : List UInt8} {K : Nat} {rec : Loop} {i : Nat} {W : World} (h : LJ wS A own0 T D0 a all K rec i W) (n : Nat) : LJ wS A own0 T D0 a all K rec i (W.drewN n) := by
  obtain ⟨own, D, h1, h2, h3⟩ := h.drum
  exact ⟨h.mod.trans (Mod.of_below _ (below_drewN W n)), h.h8, h.hl, own, D, h1.below (below_drewN W n), h2, h3⟩
theorem page_of (all : List UInt8) (k i : Nat) (h : all.length = k * 256) (hi : i < k) : (TS.pagesOf all k)[i]? = some ((all.drop (i * 256)).take 256) ∧ ((all.drop (i * 256)).take 256).length = 256 := by
  refine ⟨?_, by rw [List.length_take, List.length_drop, h]; have : (i + 1) * 256 ≤ k * 256 := Nat.mul_le_mul_right _ hi; omega⟩
  unfold TS.pagesOf
  rw [List.getElem?_map, List.getElem?_range hi, Nat.mul_comm i 256]
  rfl
/-- A page of what a slice shows, its capacity cut. -/
theorem Sees.page {w : World} {g cap : Nat} {L : List UInt8} {k i : Nat} (h : Sees w (.slice (some ⟨g, 0, none⟩) L.length cap) L) (hL : L.length = k * 256) (hi : i < k) : Sees w (.slice (some ⟨g, i * 256, none⟩) 256 256) ((L.drop (i * 256)).take 256) := by
  have hlen := (page_of L k i hL hi).2
  have hlt : (i + 1) * 256 ≤ k * 256 := Nat.mul_le_mul_right _ hi
  obtain ⟨ao, c, hv, hc1, hc2, h3⟩ := h
  obtain ⟨g', off', he, hc⟩ := h3 (by omega)
  simp only [Value.slice.injEq] at hv
  obtain ⟨rfl, -, rfl⟩ := hv
  simp only [Option.some.injEq, Addr.mk.injEq, and_true] at he
  obtain ⟨rfl, rfl⟩ := he
  refine ⟨_, 256, by rw [hlen], by rw [hlen]; exact Nat.le_refl _, by decide, fun _ => ⟨g, i * 256, rfl, fun j c hj => ?_⟩⟩
  rw [List.getElem?_take] at hj
  split at hj
  · rw [List.getElem?_drop] at hj
    have := hc _ c hj
    rw [Nat.zero_add] at this
    exact this
  · cases hj
theorem take_snoc {α : Type} {l : List α} {i : Nat} {x : α} (h : l[i]? = some x) : l.take (i + 1) = l.take i ++ [x] := by
  obtain ⟨hi, rfl⟩ := List.getElem?_eq_some_iff.1 h
  rw [List.take_succ_eq_append_getElem hi]
/-- As Ext, opaque to the simplifier. -/
structure Onto (a b : World) : Prop where
  ext : Ext a b
theorem Onto.refl (a : World) : Onto a a := ⟨Ext.refl a⟩
theorem Onto.trans (a b c : World) (h : Onto a b) (k : Onto b c) : Onto a c := ⟨Ext.trans _ _ _ h.ext k.ext⟩
set_option maxRecDepth 100000 in
set_option maxHeartbeats 1600000 in
theorem lay_round {m : Nat} (A : LA) (wS : World) (own0 : Nat → Prop) (T : TS) (D0 : DS) (a : Nat) (all : List UInt8) (K : Nat) (x : Nat → Value) (rec : Loop) (i : Nat) (W : World) (R : Ending → World → Prop)
    (hrec : rec = { state := .ready, pending := none, fn := 111, tmps := #[x 0, x 1, x 2, .pointer (some ⟨A.b3, 0, none⟩), x 4, x 5, .pointer (some ⟨A.b6, 0, none⟩), x 7, .pointer (some ⟨A.b8, 0, none⟩), x 9, x 10, x 11, x 12, x 13, x 14, x 15, x 16, x 17, x 18, x 19, x 20, x 21, x 22, x 23, x 24, x 25, x 26, x 27, x 28, x 29, x 30, x 31, x 32, x 33, x 34, x 35, x 36, x 37, x 38, x 39, x 40, x 41, x 42, x 43, x 44, x 45, x 46, x 47, x 48, x 49, x 50], params := #[30], assign := layAssign, body := layBody, defers := A.kd })
    (hL : all.length = K * 256) (hw : LW wS A own0 T a all) (hK : K ≤ 1000) (hN : D0.waits.length ≤ 900000000) (ha : a ≤ 1048576) (hi : i < K) (hj : LJ wS A own0 T D0 a all K rec i W)
    (hR : ∀ c W', c ≠ 0 → (∃ own D, DrumAt W' A.p own D ∧ TS.wr D0 (T.lo + a / 256) (TS.pagesOf all K) = (c, D) ∧ (∀ k, own k → own0 k ∨ wS.heap.size ≤ k) ∧ Mod (fun k => own0 k ∨ k = A.b8 ∨ k = A.l) wS W') → R (.panicked (gaveUp c)) W') :
    ∃ fn tmps assign body, (Instr.yield A.l #[.slice (some ⟨A.g, 0 + i * 256, none⟩) 256 256]).run Try.prog W = .ok (.round A.l fn tmps assign body) W ∧
      RoundIn Fence.wide m Try.prog A.l fn tmps assign body W (fun e W' => (e = .returned (.bool true) ∧ LJ wS A own0 T D0 a all K rec (i + 1) W') ∨ ∃ c, e = .panicked c ∧ R (.panicked c) W') := by
  have hy := run_yield (P := Try.prog) (args := #[.slice (some ⟨A.g, 0 + i * 256, none⟩) 256 256]) hj.hl (by rw [hrec]; rfl)
  have hbr := run_beginRound (P := Try.prog) hj.hl (by rw [hrec])
  obtain ⟨hp1, hp2⟩ := page_of all K i hL hi
  have hpg := (hw.on hj.mod).pages.page hL hi
  obtain ⟨pg, hpgd⟩ : ∃ pg, pg = (all.drop (i * 256)).take 256 := ⟨_, rfl⟩
  rw [← hpgd] at hp1 hp2 hpg
  obtain ⟨Wb, hWb⟩ : ∃ Wb, Wb = W.putObj A.l (.loop { rec with state := .busy }) := ⟨_, rfl⟩
  rw [← hWb] at hbr
  obtain ⟨own, D, hd, hwr, hsub⟩ := hj.drum
  have hlW : A.l < W.heap.size := (Array.getElem?_eq_some_iff.1 hj.hl).1
  have hol : ¬ own A.l := fun h => by rcases hsub _ h with h' | h' <;> have := hw.ol <;> simp_all <;> omega
  have hmodb : Mod (fun k => own0 k ∨ k = A.b8 ∨ k = A.l) W Wb := by
    rw [hWb]
    refine ⟨rfl, rfl, rfl, by simp, fun k hk ho => World.putObj_heap_other (fun e => ho (.inr (.inr e)))⟩
  have hob : ∀ k, k ≠ A.l → Wb.heap[k]? = W.heap[k]? := fun k hk => by rw [hWb]; exact World.putObj_heap_other hk
  have hlb : Wb.heap[A.l]? = some (.loop { rec with state := .busy }) := by rw [hWb]; exact World.putObj_heap_same hlW
  have hdb : DrumAt Wb A.p own D := hd.keep (fun k hk => hob k (fun e => hol (e ▸ hk))) (by rw [hWb]; simp)
  have hm2 := hj.mod.trans hmodb
  have hwb := hw.on hm2
  have h8b : Wb.heap[A.b8]? = some (.cells #[.int .i64 (i : Int)] 3 (0, 0)) := (hob _ hw.o8.2.2).trans hj.h8
  have hpb : Sees Wb (.slice (some ⟨A.g, i * 256, none⟩) 256 256) pg := hpg.keep (fun k e => hob k (by cases e; exact (hw.out A.g (by simp)).2.2.2))
  have hWN : D.waits.length ≤ 1000000000 := by
    have := TS.wr_waits ((TS.pagesOf all K).take i) D0 (T.lo + a / 256)
    rw [hwr] at this
    rw [List.length_take] at this
    simp only at this
    omega
  have hgo : ¬ own A.g := fun h => by rcases hsub _ h with h' | h' <;> have := hw.out A.g (by simp) <;> simp_all <;> omega
  obtain ⟨b1, b2, b3, b4, b5, b6, b7⟩ := hw.tape.bd
  have hwd := write_any Wb.drew A.p own D ((T.lo : Int) + (a : Int) / 256 + (i : Int)) _ pg (hdb.below (Ext.drew Wb)) hpb.drew (by omega) (fun k e => by cases e; exact hgo) hWN
  have hsn := TS.wr_snoc D0 (T.lo + a / 256) _ pg hwr
  rw [← take_snoc hp1, List.length_take] at hsn
  have hal : ((T.lo + a / 256 + min i (TS.pagesOf all K).length : Nat) : Int) = (T.lo : Int) + (a : Int) / 256 + (i : Int) := by
    have : (TS.pagesOf all K).length = K := by unfold TS.pagesOf; simp
    rw [this, Nat.min_eq_left (by omega)]; omega
  rw [hal] at hsn
  generalize hRR : D.write ((T.lo : Int) + (a : Int) / 256 + (i : Int)) pg = RR at hwd hsn
  obtain ⟨e0, D1⟩ := RR
  have HWD := hid hwd
  have HSN := hid hsn
  have HW := hid hwb
  have HM := hid hm2
  have HL := hid hlb
  have HB8 := hid h8b
  have HR := hid hR
  have HW0 := hid hw
  have HSUB := hid hsub
  have HP1 := hid hp1
  have HYY := hid hy
  have HBR := hid hbr
  have kk : ∀ w', Onto Wb.drew w' → ∀ k v ty, Wb.heap[k]? = some (.cells #[v] ty (0, 0)) → w'.cell? ⟨k, 0, none⟩ = some v := fun w' hh k v ty hk => by
    rw [cell_of_row _ _ _ _ _ _ ((hh.ext.block k (Array.getElem?_eq_some_iff.1 hk).1).trans hk)]; rfl
  have k3 : ∀ w', Onto Wb.drew w' → w'.cell? ⟨A.b3, 0, none⟩ = some (.pointer (some ⟨A.t, 0, none⟩)) := fun w' hh => kk w' hh _ _ _ hwb.h3
  have k6 : ∀ w', Onto Wb.drew w' → w'.cell? ⟨A.b6, 0, none⟩ = some (.int .i64 ((a : Int) / 256)) := fun w' hh => kk w' hh _ _ _ hwb.h6
  have k8 : ∀ w', Onto Wb.drew w' → w'.cell? ⟨A.b8, 0, none⟩ = some (.int .i64 (i : Int)) := fun w' hh => kk w' hh _ _ _ h8b
  have kt : ∀ w', Onto Wb.drew w' → TapeIn w' A.t A.p A.n T := fun w' hh => hwb.tape.below (Ext.trans _ _ _ (Ext.drew Wb) hh.ext)
  have kt0 : ∀ w', Onto Wb.drew w' → w'.cell? ⟨A.t, 0, none⟩ = some (.pointer (some ⟨A.p, 0, none⟩)) := fun w' hh => (kt w' hh).c0
  have kt1 : ∀ w', Onto Wb.drew w' → w'.cell? ⟨A.t, 1, none⟩ = some (I T.lo) := fun w' hh => (kt w' hh).c1
  clear kk kt
  have hw1 : IntKind.i64.wrap ((T.lo : Int) + (a : Int) / 256) = (T.lo : Int) + (a : Int) / 256 := IntWalk.i64_in _ (by omega)
  have hw2 : IntKind.i64.wrap ((T.lo : Int) + (a : Int) / 256 + (i : Int)) = (T.lo : Int) + (a : Int) / 256 + (i : Int) := IntWalk.i64_in _ (by omega)
  have HI := hid hi
  have HLL := hid hL
  clear hWb hpgd hwd hsn hwb hm2 hlb h8b hR hw hsub hp1 hy hbr hpg hpb hdb hd hwr hj hmodb hob hRR hal hgo hL hi
  refine ⟨_, _, _, _, HYY.out, ?_⟩
  clear HYY
  have e1 : rec.fn = 111 := by rw [hrec]
  have e2 : rec.assign = layAssign := by rw [hrec]
  have e3 : rec.body = layBody := by rw [hrec]
  have e4 := congrArg Loop.tmps hrec
  have e5 : rec.params = #[30] := by rw [hrec]
  have e6 : rec.state = .ready ∧ rec.pending = none := by rw [hrec]; exact ⟨rfl, rfl⟩
  have E6 := hid e6
  rw [e1, e2, e3, e4, e5]
  clear e1 e2 e3 e4 e5 e6 hrec
  refine roundIn_of_wpInP (fn := Try.f111) trivial Try.func111 ?_
  simp only [layAssign, layLoop, assignOf, behind, within, Try.f111, Option.getD_some, List.zip_toArray, List.zip_cons_cons, List.zip_nil_right, List.foldl_toArray', List.foldl_cons, List.foldl_nil, List.setIfInBounds_toArray, List.set_cons_zero, List.set_cons_succ]
  refine wpIn_list_round (fun ⟨_, _, h⟩ => h) (by kernel_rfl) ?_
  go_wp2_with fail
  refine ⟨_, HBR.out, ?_⟩
  clear HBR
  simp only [layBody, layLoop, roundOf, behind, within, Try.f111, Option.getD_some]
  refine wpIn_block (wpIn_seq ?_)
  refine wpIn_region_round Onto [13] [(0,0),(1,0),(2,0),(3,0),(4,0),(5,0),(6,0),(7,0),(8,0),(9,0),(10,0),(11,0),(12,0),(13,2),(14,0)] _ (fun ⟨_, _, h⟩ => h) (by kernel_rfl) (by kernel_rfl) rfl Onto.refl Onto.trans (by kernel_rfl) (by simp only [pick, List.getElem?_toArray, List.getElem?_cons_zero, List.getElem?_cons_succ]; rfl) (fun i oi hi c a v w h => by revert h; cases oi.dst <;> exact fun h => h) ?_
  refine wpK_q (v := ?_) (a' := ?_) (by rfl) (fun w' hR => ?_) ?_ ?_
  rotate_left 2
  · go_simp; with_reducible rfl
  · simp only [Act.put, List.setIfInBounds_toArray, List.set_cons_zero, List.set_cons_succ]; rfl
  refine wpK_q (v := ?_) (a' := ?_) (by rfl) (fun w' hR => ?_) ?_ ?_
  rotate_left 2
  · go_simp; with_reducible rfl
  · simp only [Act.put, List.setIfInBounds_toArray, List.set_cons_zero, List.set_cons_succ]; rfl
  refine wpK_q (v := ?_) (a' := ?_) (by rfl) (fun w' hR => ?_) ?_ ?_
  rotate_left 2
  · go_simp; with_reducible rfl
  · simp only [Act.put, List.setIfInBounds_toArray, List.set_cons_zero, List.set_cons_succ]; rfl
  refine wpK_q (v := ?_) (a' := ?_) (by rfl) (fun w' hR => ?_) ?_ ?_
  rotate_left 2
  · go_simp; with_reducible rfl
  · simp only [Act.put, List.setIfInBounds_toArray, List.set_cons_zero, List.set_cons_succ]; rfl
  refine wpK_q (v := ?_) (a' := ?_) (by rfl) (fun w' hR => ?_) ?_ ?_
  rotate_left 2
  · go_simp; with_reducible rfl
  · simp only [Act.put, List.setIfInBounds_toArray, List.set_cons_zero, List.set_cons_succ]; rfl
  refine wpK_q (v := ?_) (a' := ?_) (by rfl) (fun w' hR => ?_) ?_ ?_
  rotate_left 2
  · go_simp; with_reducible rfl
  · simp only [Act.put, List.setIfInBounds_toArray, List.set_cons_zero, List.set_cons_succ]; rfl
  refine wpK_q (v := ?_) (a' := ?_) (by rfl) (fun w' hR => ?_) ?_ ?_
  rotate_left 2
  · go_simp; with_reducible rfl
  · simp only [Act.put, List.setIfInBounds_toArray, List.set_cons_zero, List.set_cons_succ]; rfl
  refine wpK_q (v := ?_) (a' := ?_) (by rfl) (fun w' hR => ?_) ?_ ?_
  rotate_left 2
  · go_simp; with_reducible rfl
  · simp only [Act.put, List.setIfInBounds_toArray, List.set_cons_zero, List.set_cons_succ]; rfl
  refine wpK_q (v := ?_) (a' := ?_) (by rfl) (fun w' hR => ?_) ?_ ?_
  rotate_left 2
  · go_simp; with_reducible rfl
  · simp only [Act.put, List.setIfInBounds_toArray, List.set_cons_zero, List.set_cons_succ]; rfl
  refine wpK_q (v := ?_) (a' := ?_) (by rfl) (fun w' hR => ?_) ?_ ?_
  rotate_left 2
  · go_simp; with_reducible rfl
  · simp only [Act.put, List.setIfInBounds_toArray, List.set_cons_zero, List.set_cons_succ]; rfl
  refine wpK_q (v := ?_) (a' := ?_) (by rfl) (fun w' hR => ?_) ?_ ?_
  rotate_left 2
  · go_simp; with_reducible rfl
  · simp only [Act.put, List.setIfInBounds_toArray, List.set_cons_zero, List.set_cons_succ]; rfl
  refine wpK_q (v := ?_) (a' := ?_) (by rfl) (fun w' hR => ?_) ?_ ?_
  rotate_left 2
  · go_simp; with_reducible rfl
  · simp only [Act.put, List.setIfInBounds_toArray, List.set_cons_zero, List.set_cons_succ]; rfl
  refine wpK_q (v := ?_) (a' := ?_) (by rfl) (fun w' hR => ?_) ?_ ?_
  rotate_left 2
  · go_simp; with_reducible rfl
  · simp only [Act.put, List.setIfInBounds_toArray, List.set_cons_zero, List.set_cons_succ]; rfl
  refine wpK_call Try.func50 (by kernel_rfl) rfl rfl (by rfl) #[.pointer (some ⟨A.p, 0, none⟩), .int .i64 ((T.lo : Int) + (a : Int) / 256 + (i : Int)), .slice (some ⟨A.g, i * 256, none⟩) 256 256] (by simp only [List.map_toArray, List.map_cons, List.map_nil]; rfl) ?_
  refine HWD.out.mono ?_
  rintro e w' ⟨rfl, own', hd, hs', hm'⟩
  have hlt0 : ∀ k, k < wS.heap.size → own k → own0 k := fun k hk ho => (HSUB.out k ho).resolve_right (by omega)
  have hmw : Mod (fun k => own0 k ∨ k = A.b8 ∨ k = A.l) wS w' := (HM.out.trans (Mod.of_below _ (Ext.drew Wb))).then hm' (fun k hk ho => .inl (hlt0 k hk ho))
  have hsub' : ∀ k, own' k → own0 k ∨ wS.heap.size ≤ k := fun k hk => (hs' k hk).elim (HSUB.out k) (fun h => .inr (Nat.le_trans HM.out.size h))
  have hl' : w'.heap[A.l]? = some (.loop { rec with state := .busy }) := (hm'.block _ (Array.getElem?_eq_some_iff.1 HL.out).1 hol).trans HL.out
  have ho8 : ¬ own A.b8 := fun h => HW0.out.o8.2.1 (hlt0 _ HW0.out.o8.1 h)
  have h8' : w'.heap[A.b8]? = some (.cells #[.int .i64 (i : Int)] 3 (0, 0)) := (hm'.block _ (Array.getElem?_eq_some_iff.1 HB8.out).1 ho8).trans HB8.out
  have ho8' : ¬ own' A.b8 := fun h => (hs' _ h).elim ho8 (fun h => by have := (Array.getElem?_eq_some_iff.1 HB8.out).1; have e : Wb.drew.heap.size = Wb.heap.size := rfl; omega)
  have hol' : ¬ own' A.l := fun h => (hs' _ h).elim hol (fun h => by have := (Array.getElem?_eq_some_iff.1 HL.out).1; have e : Wb.drew.heap.size = Wb.heap.size := rfl; omega)
  have HD := hid hd
  have HS := hid hsub'
  have HMW := hid hmw
  have HL' := hid hl'
  have HO8 := hid ho8'
  have HOL := hid hol'
  have H8 := hid h8'
  have c8 : w'.cell? ⟨A.b8, 0, none⟩ = some (.int .i64 (i : Int)) := by rw [cell_of_row _ _ _ _ _ _ h8']; rfl
  have f8 : w'.frozen? ⟨A.b8, 0, none⟩ = false := frozen_row h8' 0
  have hi64 : IntKind.i64.wrap ((i : Int) + 1) = (i : Int) + 1 := IntWalk.i64_in _ (by have := HI.out; omega)
  clear hd k3 k6 k8 kt0 kt1 HWD hs' hm' hmw hsub' hl' ho8 h8' ho8' hol' hlt0 HL HB8 HW HM HSUB hol
  refine ⟨_, rfl, fun h => (by cases h), ?_⟩
  refine wpK_q (v := ?_) (a' := ?_) (by rfl) (fun w' hR => ?_) ?_ ?_
  rotate_left 2
  · go_simp; with_reducible rfl
  · simp only [Act.put, List.setIfInBounds_toArray, List.set_cons_zero, List.set_cons_succ]; rfl
  refine wpK_done ?_
  refine wpIn_seq ?_
  refine wpIn_list_round (fun ⟨_, _, h⟩ => h) (by kernel_rfl) ?_
  by_cases h0 : e0 = 0
  · subst h0
    go_wp2_with (go_at_call 108; refine (unless_ok _ _).mono ?_; rintro e w2 ⟨rfl, rfl⟩)
    refine wpIn_list_round (fun ⟨_, _, h⟩ => h) (by kernel_rfl) ?_
    go_wp2_with fail
    have hl2 := (heap_setCell_other w' ⟨A.b8, 0, none⟩ A.l (.int .i64 ((i : Int) + 1)) (Ne.symm HW0.out.o8.2.2)).trans HL'.out
    have hre : ({ rec with state := .ready, pending := none } : Loop) = rec := by
      obtain ⟨h1, h2⟩ := E6.out
      cases rec
      simp_all
    refine ⟨_, _, run_endRound (P := Try.prog) none hl2, .inl ⟨rfl, ?_⟩⟩
    simp only [Option.isNone_none, if_true]
    rw [hre]
    have hkp : ∀ k, k ≠ A.b8 → k ≠ A.l → ((w'.setCell ⟨A.b8, 0, none⟩ (.int .i64 ((i : Int) + 1))).putObj A.l (.loop rec)).heap[k]? = w'.heap[k]? := fun k h1 h2 => (World.putObj_heap_other h2).trans (heap_setCell_other w' ⟨A.b8, 0, none⟩ k _ h1)
    refine ⟨HMW.out.trans ⟨rfl, rfl, rfl, by simp, fun k hk ho => hkp k (fun e => ho (.inr (.inl e))) (fun e => ho (.inr (.inr e)))⟩, ?_, World.putObj_heap_same (Array.getElem?_eq_some_iff.1 hl2).1, ?_⟩
    · refine (World.putObj_heap_other HW0.out.o8.2.2).trans ?_
      rw [heap_setCell_same w' A.b8 0 _ _ _ H8.out]
      simp
    · exact ⟨own', D1, HD.out.keep (fun k hk => hkp k (fun e => HO8.out (e ▸ hk)) (fun e => HOL.out (e ▸ hk))) (by simp), HSN.out, HS.out⟩
  · have hb : (e0 == 0) = false := by simpa using h0
    have H0 := hid h0
    clear h0
    go_wp2_with (go_at_call 108; refine (unless_no _ _).mono ?_; rintro e w2 ⟨rfl, rfl⟩)
    refine ⟨rfl, .inr ⟨gaveUp e0, rfl, HR.out e0 w' H0.out ⟨own', D1, HD.out, ?_, HS.out, HMW.out⟩⟩⟩
    rw [← List.take_append_drop (i + 1) (TS.pagesOf all K), TS.wr_stop _ _ _ _ (by rw [HSN.out]; exact H0.out)]
    exact HSN.out
end Go.Proofs.Ytoaeapnkefjpaaa
