/-
  THE PROGRAM'S TAPE, fifth file: Open, refused. Conditions: those that each contract names.
-/
import Derived.Test.YtoaeapnkefjpaaaTapeP4
namespace Go.Proofs.Ytoaeapnkefjpaaa
open Go.RowKit
set_option linter.unusedVariables false
set_option linter.unusedSimpArgs false

theorem closes (fn : Fn) (first cap : Array Value) (w : World) : (Instr.makeFunc fn first cap).run Try.prog w = .ok (.func fn first cap) w := rfl
/-- Out through the door, nothing given up. -/
theorem door_ret {b1 b2 b3 : Nat} {tmps : Array Value} {w : World} {R : Ending → World → Prop} {u1 u2 u3 : Value} (h6 : tmps[6]?.getD undef = .pointer (some ⟨b1, 0, none⟩)) (h7 : tmps[7]?.getD undef = .pointer (some ⟨b2, 0, none⟩)) (h8 : tmps[8]?.getD undef = .pointer (some ⟨b3, 0, none⟩))
    (c1 : w.cell? ⟨b1, 0, none⟩ = some u1) (c2 : w.cell? ⟨b2, 0, none⟩ = some u2) (c3 : w.cell? ⟨b3, 0, none⟩ = some u3) (h : R (.returned (.tuple #[u1, u2, u3])) w) :
    bodyPostD Try.prog Try.f65 R Exit.ret { tmps := tmps, defers := [{ target := .fn (.func 96) #[.pointer (some ⟨b1, 0, none⟩), .pointer (some ⟨b2, 0, none⟩), .pointer (some ⟨b3, 0, none⟩)], args := #[] }] } w := by
  refine leaves_cons (f := 96) (args := #[.pointer (some ⟨b1, 0, none⟩), .pointer (some ⟨b2, 0, none⟩), .pointer (some ⟨b3, 0, none⟩)]) (by simp) (by simp [go_sem]) ?_
  refine (catch_idle _ _ _ _).mono ?_
  rintro e u' w'' ⟨rfl, rfl, rfl⟩
  simp [Leaves, settle, results, Try.results65, go_sem, h6, h7, h8, c1, c2, c3, h]
/-- Out through the door, something given up: the document's nil, nil, error. -/
theorem door_gave {b1 b2 b3 : Nat} {tmps : Array Value} {w : World} {R : Ending → World → Prop} {c : Int} {v1 v2 v3 : Array Value} (h6 : tmps[6]?.getD undef = .pointer (some ⟨b1, 0, none⟩)) (h7 : tmps[7]?.getD undef = .pointer (some ⟨b2, 0, none⟩)) (h8 : tmps[8]?.getD undef = .pointer (some ⟨b3, 0, none⟩))
    (g1 : w.heap[b1]? = some (.cells v1 86 (0, 0))) (g2 : w.heap[b2]? = some (.cells v2 45 (0, 0))) (g3 : w.heap[b3]? = some (.cells v3 46 (0, 0))) (s1 : v1.size = 1) (s2 : v2.size = 1) (s3 : v3.size = 1) (n12 : b1 ≠ b2) (n13 : b1 ≠ b3) (n23 : b2 ≠ b3)
    (h : ∀ w', Mod (fun k => k = b1 ∨ k = b2 ∨ k = b3) w w' → R (.returned (.tuple #[.pointer none, .slice none 0 0, I c])) w') :
    bodyPostD Try.prog Try.f65 R (Exit.panic (gaveUp c)) { tmps := tmps, defers := [{ target := .fn (.func 96) #[.pointer (some ⟨b1, 0, none⟩), .pointer (some ⟨b2, 0, none⟩), .pointer (some ⟨b3, 0, none⟩)], args := #[] }] } w := by
  refine leaves_cons (f := 96) (args := #[.pointer (some ⟨b1, 0, none⟩), .pointer (some ⟨b2, 0, none⟩), .pointer (some ⟨b3, 0, none⟩)]) (by simp) (by simp [go_sem]) ?_
  refine (catch_gave b1 b2 b3 v1 v2 v3 86 45 46 c w g1 g2 g3 s1 s2 s3 n12 n13 n23).mono ?_
  rintro e u' w'' ⟨rfl, rfl, ⟨r1, r2, r3⟩, hm⟩
  have c1 : w''.cell? ⟨b1, 0, none⟩ = some (.pointer none) := by rw [cell_of_row w'' b1 _ _ _ _ r1]; rfl
  have c2 : w''.cell? ⟨b2, 0, none⟩ = some (.slice none 0 0) := by rw [cell_of_row w'' b2 _ _ _ _ r2]; rfl
  have c3 : w''.cell? ⟨b3, 0, none⟩ = some (I c) := by rw [cell_of_row w'' b3 _ _ _ _ r3]; rfl
  have hh := h w'' hm
  simp [Leaves, settle, results, Try.results65, go_sem, h6, h7, h8, c1, c2, c3, hh]
set_option maxRecDepth 100000 in
theorem open_nil (w : World) (lo hi : Int) : Calls Try.prog 65 #[.pointer none, I lo, I hi] w fun e w' => e = .returned (.tuple #[.pointer none, .slice none 0 0, I 2]) ∧ Below w.heap.size w w' := by
  have hmf := closes
  go_enter_defers Try.func65, Try.ntmps65
  go_wp2
  refine door_ret rfl rfl rfl (u1 := .pointer none) (u2 := .slice none 0 0) (u3 := I 2) ?_ ?_ ?_ ⟨rfl, ?_⟩
  · go_simp
  · go_simp
  · go_simp
  · exact (((Below.refl _ _).alloc (Nat.le_refl _) _).alloc (by simp) _).alloc (by simp; omega) _
/-- What an opening comes to: an error, or the records, the place, the count. -/
def TS.opn (D : DS) (lo hi : Int) : Int × List (List UInt8) × Nat × Nat :=
  if lo < 0 ∨ (D.safe.length : Int) < hi ∨ hi ≤ lo then (1, [], 0, 0) else if D.off then (20, [], 0, 0)
  else TS.opened (TS.stretch D lo.toNat (hi.toNat - lo.toNat)) ((hi.toNat - lo.toNat) * 256 + 1) 0 0 []
set_option maxRecDepth 100000 in
theorem open_bad (w : World) (p : Nat) (own : Nat → Prop) (D : DS) (lo hi : Int) (hd : DrumAt w p own D) (hl : -9223372036854775808 ≤ lo ∧ lo ≤ 9223372036854775807) (hh : -9223372036854775808 ≤ hi ∧ hi ≤ 9223372036854775807) (hb : lo < 0 ∨ (D.safe.length : Int) < hi ∨ hi ≤ lo) :
    Calls Try.prog 65 #[.pointer (some ⟨p, 0, none⟩), I lo, I hi] w fun e w' => e = .returned (.tuple #[.pointer none, .slice none 0 0, I 1]) ∧ Below w.heap.size w w' := by
  have HD := hid hd
  clear hd
  have hmf := closes
  have hd' : ∀ w', Below w.heap.size w w' → DrumAt w' p own D := fun w' h => HD.out.below h
  have HDD := hid hd'
  clear hd'
  have h3 : lo < 0 ∨ (¬ lo < 0 ∧ (D.safe.length : Int) < hi) ∨ (¬ lo < 0 ∧ ¬ (D.safe.length : Int) < hi ∧ hi ≤ lo) := by omega
  clear hb
  rcases h3 with h3 | ⟨h3, h4⟩ | ⟨h3, h4, h5⟩
  all_goals
    go_enter_defers Try.func65, Try.ntmps65
    go_wp2_with (go_at_call 60; refine (pages_any _ p own D (HDD.out _ ((((Below.refl _ _).alloc (Nat.le_refl _) _).alloc (by simp) _).alloc (by simp; omega) _))).mono ?_; rintro e w1 ⟨rfl, rfl⟩)
    refine door_ret rfl rfl rfl (u1 := .pointer none) (u2 := .slice none 0 0) (u3 := I 1) ?_ ?_ ?_ ⟨rfl, ?_⟩
    · go_simp
    · go_simp
    · go_simp
    · exact (((Below.refl _ _).alloc (Nat.le_refl _) _).alloc (by simp) _).alloc (by simp; omega) _
theorem next_down (w : World) (t p : Nat) (own : Nat → Prop) (T : TS) (D : DS) (h : TapeIn w t p D.safe.length T) (hd : DrumAt w p own D) (ho : D.off = true) (hp : T.pos = 0) :
    Calls Try.prog 97 #[.pointer (some ⟨t, 0, none⟩)] w fun e w' => e = .panicked (gaveUp 20) ∧ Below w.heap.size w w' := by
  obtain ⟨b1, b2, b3, b4, b5, b6, b7⟩ := h.bd
  have H := hid h
  have HD := hid hd
  have HO := hid ho
  have c3 : w.cell? ⟨t, 3, none⟩ = some (I 0) := by have := h.c3; rw [hp] at this; exact this
  have hs1 : IntKind.i64.wrap ((T.size : Int) - 0) = (T.size : Int) := by rw [Int.sub_zero]; exact IntWalk.i64_in _ (by omega)
  have hs2 : IntKind.i64.wrap (T.size : Int) = (T.size : Int) := IntWalk.i64_in _ (by omega)
  have hsz : 256 ≤ T.size := by unfold TS.size; omega
  have hA' : decide ((T.size : Int) < 12) = false := decide_eq_false (by omega)
  clear h hd ho b7 hp
  go_enter Try.func97, Try.ntmps97
  go_wp2
  go_quiet ((go_at_call 98; exact Calls.quiet_of (size_any _ t p _ T (H.out.keep rfl))))
  have HW : Hid (TapeIn (w.drewN nq) t p D.safe.length T) := hid (H.out.keep rfl)
  have HDW : Hid (DrumAt (w.drewN nq) p own D) := hid (HD.out.below (below_drewN w nq))
  have hb12 := bytes_down (w.drewN nq) t p own T D HW.out HDW.out HO.out 0 12 (by omega) (by omega) (by omega)
  have c3' : (w.drewN nq).cell? ⟨t, 3, none⟩ = some (I 0) := c3
  have HBEL := hid (below_drewN w nq)
  have HZZ := hid (show (w.drewN nq).heap.size = w.heap.size from rfl)
  generalize w.drewN nq = w1 at *
  have HB12 := hid hb12
  clear hb12 c3 H HD hs1 hs2
  go_wp2_with (go_at_call 106; refine HB12.out.mono ?_; rintro e w5 ⟨rfl, hb5⟩; have HB5 := hid hb5; clear hb5)
  exact ⟨rfl, rfl, Ext.trans _ _ _ HBEL.out HB5.out⟩
/-- What is there behind the tape's four new blocks: the named results' and its own. -/
structure Born (w0 : World) (t p n : Nat) (T : TS) (sv : Value) (wr : World) : Prop where
  tt : t = w0.heap.size + 3
  g1 : wr.heap[w0.heap.size]? = some (.cells #[.pointer (some ⟨t, 0, none⟩)] 86 (0, 0))
  g2 : wr.heap[w0.heap.size + 1]? = some (.cells #[sv] 45 (0, 0))
  g3 : wr.heap[w0.heap.size + 2]? = some (.cells #[I 0] 46 (0, 0))
  tape : TapeIn wr t p n T
  below : Below w0.heap.size w0 wr
theorem heap_alloc_at {w : World} {o : Obj} {k : Nat} (h : w.heap.size = k) : (w.alloc o).heap[k]? = some o := by subst h; exact heap_alloc_new w o
theorem Born.start (w : World) (p n : Nat) (lo hi : Nat) (h1 : lo < hi) (h2 : hi ≤ n) (h3 : n ≤ 4096) :
    Born w (w.heap.size + 3) p n ⟨lo, hi, 0, 0, 0⟩ (.slice none 0 0) ((((w.alloc (.cells #[.pointer (some ⟨w.heap.size + 3, 0, none⟩)] 86)).alloc (.cells #[.slice none 0 0] 45)).alloc (.cells #[.int .i64 0] 46)).alloc (.cells #[.pointer (some ⟨p, 0, none⟩), I lo, I hi, .int .i64 0, .int .i64 0, .int .i64 0] 132)) := by
  have z1 : (w.alloc (.cells #[.pointer (some ⟨w.heap.size + 3, 0, none⟩)] 86)).heap.size = w.heap.size + 1 := by simp
  have z2 : ((w.alloc (.cells #[.pointer (some ⟨w.heap.size + 3, 0, none⟩)] 86)).alloc (.cells #[.slice none 0 0] 45)).heap.size = w.heap.size + 2 := by simp
  have z3 : (((w.alloc (.cells #[.pointer (some ⟨w.heap.size + 3, 0, none⟩)] 86)).alloc (.cells #[.slice none 0 0] 45)).alloc (.cells #[.int .i64 0] 46)).heap.size = w.heap.size + 3 := by simp
  refine ⟨rfl, ?_, ?_, ?_, ⟨⟨h1, h2, Nat.zero_le _, Nat.zero_le _, by simp⟩, h3, ?_⟩, ?_⟩
  · exact (Below.heap_alloc _ _ _ (by omega)).trans ((Below.heap_alloc _ _ _ (by omega)).trans ((Below.heap_alloc _ _ _ (by omega)).trans (heap_alloc_new _ _)))
  · refine (Below.heap_alloc _ _ _ (by omega)).trans ((Below.heap_alloc _ _ _ (by omega)).trans ?_)
    exact heap_alloc_at z1
  · refine (Below.heap_alloc _ _ _ (by omega)).trans ?_
    exact heap_alloc_at z2
  · exact heap_alloc_at z3
  · exact ((((Below.refl _ _).alloc (Nat.le_refl _) _).alloc (by omega) _).alloc (by omega) _).alloc (by omega) _
section
variable {w0 wr w' : World} {t p n : Nat} {T : TS} {sv : Value}
theorem Born.blocks (h : Born w0 t p n T sv wr) (hb : ∀ k, k = w0.heap.size ∨ k = w0.heap.size + 1 ∨ k = w0.heap.size + 2 → w'.heap[k]? = wr.heap[k]?) {T' : TS} (ht : TapeIn w' t p n T') (hB : Below w0.heap.size w0 w') : Born w0 t p n T' sv w' :=
  ⟨h.tt, (hb _ (.inl rfl)).trans h.g1, (hb _ (.inr (.inl rfl))).trans h.g2, (hb _ (.inr (.inr rfl))).trans h.g3, ht, hB⟩
theorem Born.lt (h : Born w0 t p n T sv wr) : w0.heap.size + 4 ≤ wr.heap.size := by
  have := h.tape.lt; have := h.tt; omega
theorem Born.on (h : Born w0 t p n T sv wr) (hb : Below wr.heap.size wr w') : Born w0 t p n T sv w' :=
  h.blocks (fun k hk => hb.block k (by have := h.lt; omega)) (h.tape.below hb) (h.below.trans (hb.mono h.below.size))
end
set_option maxRecDepth 100000 in
set_option maxHeartbeats 800000 in
theorem open_down (w : World) (p : Nat) (own : Nat → Prop) (D : DS) (lo hi : Nat) (hd : DrumAt w p own D) (h2 : hi ≤ D.safe.length) (h3 : lo < hi) (ho : D.off = true) :
    Calls Try.prog 65 #[.pointer (some ⟨p, 0, none⟩), I lo, I hi] w fun e w' => e = .returned (.tuple #[.pointer none, .slice none 0 0, I 20]) ∧ Below w.heap.size w w' := by
  have hn2 := hd.ok.n2
  have HD := hid hd
  have HO := hid ho
  have HN := hid (next_down)
  clear hd ho
  have hmf := closes
  have hd' : ∀ w', Below w.heap.size w w' → DrumAt w' p own D := fun w' h => HD.out.below h
  have HDD := hid hd'
  have HST := hid (Born.start w p D.safe.length lo hi h3 h2 hn2)
  have h4 : ¬ (D.safe.length : Int) < (hi : Int) := by omega
  have h5 : ¬ (hi : Int) ≤ (lo : Int) := by omega
  clear hd'
  go_enter_defers Try.func65, Try.ntmps65
  go_wp2_with (first | (go_at_call 60; refine (pages_any _ p own D (HDD.out _ ((((Below.refl _ _).alloc (Nat.le_refl _) _).alloc (by simp) _).alloc (by simp; omega) _))).mono ?_; rintro e w1 ⟨rfl, rfl⟩) | (go_at_call 97; refine (HN.out _ _ p own _ D HST.out.tape (HDD.out _ HST.out.below) HO.out rfl).mono ?_; rintro e w2 ⟨rfl, hb⟩; have HB := hid hb; clear hb))
  have hb := HST.out.on HB.out
  refine door_gave rfl rfl rfl hb.g1 hb.g2 hb.g3 rfl rfl rfl (by omega) (by omega) (by omega) (fun w' hm => ⟨rfl, ?_⟩)
  exact hb.below.trans (hm.below hb.below.size (fun i hi => by omega))
end Go.Proofs.Ytoaeapnkefjpaaa
