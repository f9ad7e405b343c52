/-
  THE PROGRAM'S TAPE, seventh file: Open, found. Conditions: those that each contract names.
-/
import Derived.Test.YtoaeapnkefjpaaaTapeP6
import Derived.Test.YtoaeapnkefjpaaaReg3
namespace Go.Proofs.Ytoaeapnkefjpaaa
open Go.RowKit
set_option linter.unusedVariables false
set_option linter.unusedSimpArgs false

theorem Op.push {w0 wr w1 : World} {t p n : Nat} {T : TS} {acc : List (List UInt8)} {u : Value} {r : List UInt8} {sv v' : Value} {vs : List Value} {pb : Nat → Prop} (h1 : Born w0 t p n T sv wr) (h2 : RecsIn wr (w0.heap.size + 4) sv vs pb acc)
    (hu : wr.ownsRow (w0.heap.size + 4) 5 1 u r.length (r.map B)) (hun : ∀ k, u.ownBlock = some k → ¬ pb k ∧ sv.ownBlock ≠ some k)
    (hown : w1.ownsRow (w0.heap.size + 4) 23 1 v' (acc.length + 1) (vs ++ [u])) (hgrow : (wr.alloc (.cells #[u] 23)).grownBy w1 sv.ownBlock) (hat : v'.ownBlock = sv.ownBlock ∨ v'.ownBlock = some (wr.heap.size + 1)) (u' : Value) :
    Op w0 t p n T (acc ++ [r]) u' none (w1.setCell ⟨w0.heap.size + 1, 0, none⟩ v') := by
  have hlt := h1.lt
  have htt := h1.tt
  have hz : (wr.alloc (.cells #[u] 23)).heap.size = wr.heap.size + 1 := by simp
  have hsv : ∀ k, sv.ownBlock = some k → w0.heap.size + 4 ≤ k := fun k hk => (own_lt h2.row k hk).1
  have k1 : ∀ k, k < wr.heap.size → sv.ownBlock ≠ some k → w1.heap[k]? = wr.heap[k]? := fun k hk hne => (hgrow.block k (by omega) (fun e => hne e.symm)).trans (Below.heap_alloc wr _ k hk)
  have k2 : ∀ k, k < wr.heap.size → sv.ownBlock ≠ some k → k ≠ w0.heap.size + 1 → (w1.setCell ⟨w0.heap.size + 1, 0, none⟩ v').heap[k]? = wr.heap[k]? := fun k hk hne h5 => (heap_setCell_other w1 ⟨w0.heap.size + 1, 0, none⟩ k v' h5).trans (k1 k hk hne)
  have hg2 : w1.heap[w0.heap.size + 1]? = some (.cells #[sv] 45 (0, 0)) := (k1 _ (by omega) (fun e => by have := hsv _ e; omega)).trans h1.g2
  have hs1 : wr.heap.size ≤ w1.heap.size := by have := hgrow.size; omega
  have hb1 : Below w0.heap.size w0 w1 := h1.below.trans ⟨hgrow.os, hgrow.tape, hgrow.output, by omega, fun k hk => k1 k (by omega) (fun e => by have := hsv _ e; omega)⟩
  refine ⟨v', vs ++ [u], _, ⟨htt, ?_, ?_, ?_, ?_, ?_⟩, h2.push hu hun ?_ ?_ ?_ ?_, fun q e => by cases e⟩
  · exact (k2 _ (by omega) (fun e => by have := hsv _ e; omega) (by omega)).trans h1.g1
  · exact set_one hg2 rfl v'
  · exact (k2 _ (by omega) (fun e => by have := hsv _ e; omega) (by omega)).trans h1.g3
  · exact h1.tape.keep (k2 _ (by omega) (fun e => by have := hsv _ e; omega) (by omega))
  · exact hb1.setCell (by simp) _
  · exact own_mod hown (fun k hk => heap_setCell_other w1 ⟨w0.heap.size + 1, 0, none⟩ k v' (fun e => by have := (own_lt hown k hk).1; simp only at e; omega))
  · exact fun k h5 hk hne => k2 k hk hne (by omega)
  · simpa using hs1
  · intro k hk
    rcases hat with e | e
    · exact .inl (e.symm.trans hk)
    · rw [e] at hk
      have := Option.some.inj hk
      exact .inr (by omega)
/-- Both blocks stay. -/
def KeepTwo (a b : Nat) (w w' : World) : Prop := w'.heap[a]? = w.heap[a]? ∧ w'.heap[b]? = w.heap[b]?
theorem KeepTwo.refl {a b : Nat} (w : World) : KeepTwo a b w w := ⟨rfl, rfl⟩
theorem KeepTwo.trans {a b : Nat} (w w' w'' : World) (h : KeepTwo a b w w') (k : KeepTwo a b w' w'') : KeepTwo a b w w'' := ⟨k.1.trans h.1, k.2.trans h.2⟩
/-- What Open comes to. -/
def Opened (w0 : World) (p n lo hi : Nat) (x : Int × List (List UInt8) × Nat × Nat) (e : Ending) (w' : World) : Prop :=
  (x.1 ≠ 0 ∧ e = .returned (.tuple #[.pointer none, .slice none 0 0, I x.1]) ∧ Below w0.heap.size w0 w') ∨
  (x.1 = 0 ∧ ∃ t v, e = .returned (.tuple #[.pointer (some ⟨t, 0, none⟩), v, I 0]) ∧ w0.heap.size ≤ t ∧ TapeIn w' t p n ⟨lo, hi, x.2.2.1, x.2.2.2, 0⟩ ∧ Recs w' (t + 1) v x.2.1 ∧ Below w0.heap.size w0 w')
/-- The place of the tape at t. -/
def posOf (t : Nat) (w : World) : Nat := match w.cell? ⟨t, 3, none⟩ with | some (.int _ n) => n.toNat | _ => 0
theorem posOf_is {w : World} {t p n : Nat} {T : TS} (h : TapeIn w t p n T) : posOf t w = T.pos := by unfold posOf; rw [h.c3]; rfl
def isOne (v : Value) : Nat := match v with | .bool true => 1 | _ => 0
theorem getD_set (tmps : Array Value) (d k : Nat) (v : Value) (h : d ≠ k) : (tmps.setIfInBounds d v)[k]?.getD undef = tmps[k]?.getD undef := by
  rw [Array.getElem?_setIfInBounds_ne h]
theorem res65 (d : Tmp) (v : Value) (tmps : Array Value) (h : d ∉ [6, 7, 8]) : results Try.f65 (tmps.setIfInBounds d v) = results Try.f65 tmps := by
  simp only [List.mem_cons, List.not_mem_nil, or_false, not_or] at h
  simp [results, Try.results65, getD_set tmps d 6 v h.1, getD_set tmps d 7 v h.2.1, getD_set tmps d 8 v h.2.2]
theorem hq65 {ops : Array Oper} {R : Ending → World → Prop} (hck : (ops.all fun o => o.dst.all fun d => ![6, 7, 8].contains d) = true) (i : Nat) (oi : Oper) (hi : ops[i]? = some oi) (c : List PanicEntry) (a : Act) (v : Value) (w : World) (h : bodyPostD Try.prog Try.f65 R (.panic c) (Act.put a oi.dst v) w) : bodyPostD Try.prog Try.f65 R (.panic c) a w :=
  door_ops [6, 7, 8] res65 hck i oi hi c a v w h
/-- A result of next, pending. -/
def Pend (w0 : World) (t p n lo hi : Nat) (S : List UInt8) (X : Int × List (List UInt8) × Nat × Nat) (v : Value) (b : Bool) (wr : World) : Prop :=
  ∃ (T : TS) (acc : List (List UInt8)), T.lo = lo ∧ T.hi = hi ∧ T.sick = 0 ∧
    ((b = false ∧ Op w0 t p n T acc v none wr ∧ X = (0, acc, T.pos, T.count) ∧ acc.length = T.count) ∨
     (∃ r k, b = true ∧ Op w0 t p n T acc v (some r) wr ∧ X = TS.opened S k T.pos T.count (acc ++ [r]) ∧ S.length + 1 ≤ k + T.pos ∧ acc.length + 1 = T.count))
theorem found_bad {S : List UInt8} {a c : Nat} {e : Int} (h : TS.found S a c = .bad e) : e ≠ 0 := by
  unfold TS.found at h
  split at h
  · cases h
  · split at h
    · cases h
    · split at h
      · split at h
        · cases h
        · cases h; decide
      · cases h; decide
theorem Op.tape {w0 wr : World} {t p n : Nat} {T : TS} {acc : List (List UInt8)} {u : Value} {pr : Option (List UInt8)} (h : Op w0 t p n T acc u pr wr) : TapeIn wr t p n T := by
  obtain ⟨sv, vs, pb, h1, h2, h3⟩ := h.ex
  exact h1.tape
theorem Op.below {w0 wr : World} {t p n : Nat} {T : TS} {acc : List (List UInt8)} {u : Value} {pr : Option (List UInt8)} (h : Op w0 t p n T acc u pr wr) : Below w0.heap.size w0 wr := by
  obtain ⟨sv, vs, pb, h1, h2, h3⟩ := h.ex
  exact h1.below
/-- One step more. -/
theorem next_step {w0 wr : World} {t p lo hi : Nat} {own : Nat → Prop} {T : TS} {D : DS} {acc : List (List UInt8)} {u : Value} {S : List UInt8} {X : Int × List (List UInt8) × Nat × Nat} {k : Nat} (h : Op w0 t p D.safe.length T acc u none wr) (hd : DrumAt wr p own D) (ho : D.off = false)
    (h1 : T.lo = lo) (h2 : T.hi = hi) (h3 : T.sick = 0) (hS : S = TS.stretch D lo (hi - lo)) (hX : X = TS.opened S k T.pos T.count acc) (hk : S.length + 1 ≤ k + T.pos) (hl : S.length = (hi - lo) * 256) (hc : acc.length = T.count) :
    Calls Try.prog 97 #[.pointer (some ⟨t, 0, none⟩)] wr fun e w' =>
      (∃ v b, e = .returned (.tuple #[v, .bool b]) ∧ Pend w0 t p D.safe.length lo hi S X v b w' ∧ ((b = false ∧ posOf t w' = T.pos) ∨ (b = true ∧ T.pos + 12 ≤ posOf t w')) ∧ posOf t w' ≤ S.length) ∨
      (∃ e0, X = (e0, [], 0, 0) ∧ e0 ≠ 0 ∧ e = .panicked (gaveUp e0) ∧ Below wr.heap.size wr w') := by
  have ht := h.tape
  have hS2 : TS.bytes D T = S := by unfold TS.bytes; rw [h1, h2, hS]
  have hn := next_any wr t p own T D ht hd ho
  rw [hS2] at hn
  have hpos := ht.ok.pos
  have hsz : T.size = S.length := by unfold TS.size; rw [h1, h2, hl]
  obtain ⟨k, rfl⟩ : ∃ m, k = m + 1 := ⟨k - 1, by omega⟩
  unfold TS.opened at hX
  cases hF : TS.found S T.pos T.count with
  | no =>
    rw [hF] at hn hX
    refine hn.mono fun e w' hh => .inl ?_
    obtain ⟨rfl, hb⟩ := hh
    have hop := h.on hb (.slice none 0 0)
    have hp := posOf_is hop.tape
    exact ⟨_, false, rfl, ⟨T, acc, h1, h2, h3, .inl ⟨rfl, hop, hX, hc⟩⟩, .inl ⟨rfl, hp⟩, by rw [hp]; omega⟩
  | bad e0 =>
    rw [hF] at hn hX
    refine hn.mono fun e w' hh => .inr ?_
    obtain ⟨rfl, hb⟩ := hh
    exact ⟨e0, hX, found_bad hF, rfl, hb⟩
  | yes r =>
    rw [hF] at hn hX
    refine hn.mono fun e w' hh => .inl ?_
    obtain ⟨v, rfl, hv, ht', hm⟩ := hh
    have hop := h.yes hv ht' hm
    have hp := posOf_is hop.tape
    have hy := TS.found_yes hF
    exact ⟨_, true, rfl, ⟨{ T with pos := T.pos + 12 + r.length, count := T.count + 1 }, acc, h1, h2, h3, .inr ⟨r, k, rfl, hop, hX, by show S.length + 1 ≤ k + (T.pos + 12 + r.length); omega, by show acc.length + 1 = T.count + 1; omega⟩⟩, .inr ⟨rfl, by rw [hp]; show T.pos + 12 ≤ T.pos + 12 + r.length; omega⟩, by rw [hp]; exact hy.1⟩
set_option maxRecDepth 100000 in
set_option maxHeartbeats 1600000 in
theorem open_on (w : World) (p : Nat) (own : Nat → Prop) (D : DS) (lo hi : Nat) (hd : DrumAt w p own D) (h2 : hi ≤ D.safe.length) (h3 : lo < hi) (ho : D.off = false) :
    Calls Try.prog 65 #[.pointer (some ⟨p, 0, none⟩), I lo, I hi] w (Opened w p D.safe.length lo hi (TS.opened (TS.stretch D lo (hi - lo)) ((hi - lo) * 256 + 1) 0 0 [])) := by
  have hn2 := hd.ok.n2
  have HD := hid hd
  have HO := hid ho
  obtain ⟨S, hS⟩ : ∃ S, S = TS.stretch D lo (hi - lo) := ⟨_, rfl⟩
  rw [← hS]
  have HS := hid hS
  have hSl : S.length = (hi - lo) * 256 := by rw [hS]; exact TS.stretch_len hd.ok (by omega)
  have HSL := hid hSl
  obtain ⟨X, hX⟩ : ∃ X, X = TS.opened S ((hi - lo) * 256 + 1) 0 0 [] := ⟨_, rfl⟩
  rw [← hX]
  have HX := hid hX
  clear hd ho hS hSl hX
  have hmf := closes
  have hd' : ∀ w', Below w.heap.size w w' → DrumAt w' p own D := fun w' h => HD.out.below h
  have HDD := hid hd'
  have HST := hid (Born.start w p D.safe.length lo hi h3 h2 hn2)
  have h4 : ¬ (D.safe.length : Int) < (hi : Int) := by omega
  have h5 : ¬ (hi : Int) ≤ (lo : Int) := by omega
  clear hd'
  go_enter_defers Try.func65, Try.ntmps65
  go_wp2_with (first | (go_at_call 60; refine (pages_any _ p own D (HDD.out _ ((((Below.refl _ _).alloc (Nat.le_refl _) _).alloc (by simp) _).alloc (by simp; omega) _))).mono ?_; rintro e w1 ⟨rfl, rfl⟩))
  refine (next_step (S := S) (X := X) (lo := lo) (hi := hi) (k := (hi - lo) * 256 + 1) (Op.start HST.out (.slice none 0 0)) (HDD.out _ HST.out.below) HO.out rfl rfl rfl HS.out HX.out (by rw [HSL.out]; omega) HSL.out rfl).mono ?_
  rintro e w2 (⟨v, b, rfl, hp, -, hp2⟩ | ⟨e0, hx, he, rfl, hb⟩)
  rotate_left
  · have hb := HST.out.on hb
    refine door_gave rfl rfl rfl hb.g1 hb.g2 hb.g3 rfl rfl rfl (by omega) (by omega) (by omega) (fun w' hm => .inl ⟨by rw [hx]; exact he, by rw [hx], ?_⟩)
    exact hb.below.trans (hm.below hb.below.size (fun i hi => by omega))
  have HP := hid hp
  have HP2 := hid hp2
  clear hp hp2 HST
  clear h4 h5
  go_wp2
  go_loopw [9, 10] (fun v is wr => ∃ b : Bool, is = .bool b ∧ Hid (Pend w (w.heap.size + 3) p D.safe.length lo hi S X v b wr)) (fun _ is wr => 2 * (S.length - posOf (w.heap.size + 3) wr) + isOne is)
  case atStart => exact ⟨b, rfl, HP⟩
  case round =>
    clear HP HP2
    obtain ⟨b', rfl, HP⟩ := hrel
    cases b'
    · obtain ⟨T, acc, e1, e2, e3, hh⟩ := HP.out
      have hop : Op w (w.heap.size + 3) p D.safe.length T acc u9 none wr ∧ X = (0, acc, T.pos, T.count) := by
        rcases hh with ⟨_, h1, h2, _⟩ | ⟨r, k, hb, _⟩
        · exact ⟨h1, h2⟩
        · cases hb
      obtain ⟨hop, hx⟩ := hop
      obtain ⟨sv, vs, pb, hB, hR, -⟩ := hop.ex
      have k1 : ∀ w', KeepTwo w.heap.size (w.heap.size + 1) wr.drew w' → w'.cell? ⟨w.heap.size, 0, none⟩ = some (.pointer (some ⟨w.heap.size + 3, 0, none⟩)) := fun w' hk => by rw [cell_of_row w' _ _ _ _ _ (hk.1.trans hB.g1)]; rfl
      have k2 : ∀ w', KeepTwo w.heap.size (w.heap.size + 1) wr.drew w' → w'.cell? ⟨w.heap.size + 1, 0, none⟩ = some sv := fun w' hk => by rw [cell_of_row w' _ _ _ _ _ (hk.2.trans hB.g2)]; rfl
      obtain ⟨aos, cos, rfl⟩ := own_form hR.row
      have HBo := hid hB
      have HRe := hid hR
      have HXX := hid hx
      have HT : Hid (T = ⟨lo, hi, T.pos, T.count, 0⟩) := hid (by cases T; simp only at e1 e2 e3; subst e1 e2 e3; rfl)
      clear hop hx hB hR hh e1 e2 e3 HP
      go_wp2
      refine wp_region_order' (KeepTwo w.heap.size (w.heap.size+1)) [3,4] [(0,0),(1,0),(2,1),(3,2),(4,2)] _ (by kernel_rfl) rfl KeepTwo.refl KeepTwo.trans (by kernel_rfl) (by simp only [pick, List.getElem?_toArray, List.getElem?_cons_zero, List.getElem?_cons_succ]; rfl) (fun i oi hi c a v w h => hq65 (by kernel_rfl) i oi hi c a v w h) ?_
      refine wpK_q (v := ?_) (a' := ?_) (by rfl) (fun w' hR => ?_) ?_ ?_
      rotate_left 2
      · go_simp; with_reducible rfl
      · simp only [Act.put, List.setIfInBounds_toArray, List.set_cons_zero, List.set_cons_succ]; rfl
      refine wpK_q (v := ?_) (a' := ?_) (by rfl) (fun w' hR => ?_) ?_ ?_
      rotate_left 2
      · go_simp; with_reducible rfl
      · simp only [Act.put, List.setIfInBounds_toArray, List.set_cons_zero, List.set_cons_succ]; rfl
      have hB := HBo.out
      have q1 : wr.drew.cell? ⟨w.heap.size, 0, none⟩ = some (.pointer (some ⟨w.heap.size + 3, 0, none⟩)) := k1 _ (KeepTwo.refl _)
      have s1 := set_one (show wr.drew.heap[w.heap.size]? = _ from hB.g1) rfl (.pointer (some ⟨w.heap.size + 3, 0, none⟩))
      refine wpK_s (by rfl) rfl (exec_store rfl (vx := .pointer (some ⟨w.heap.size, 0, none⟩)) (vy := .pointer (some ⟨w.heap.size + 3, 0, none⟩)) rfl rfl (run_store1 (u := .pointer (some ⟨w.heap.size + 3, 0, none⟩)) (by kernel_rfl) rfl rfl q1 (frozen_row (show wr.drew.heap[w.heap.size]? = _ from hB.g1) 0))) (fun _ => ⟨s1.trans hB.g1.symm, heap_setCell_other wr.drew ⟨w.heap.size, 0, none⟩ _ _ (by simp)⟩) ?_
      obtain ⟨wx, hwx⟩ : ∃ wx, wx = wr.drew.setCell ⟨w.heap.size, 0, none⟩ (.pointer (some ⟨w.heap.size + 3, 0, none⟩)) := ⟨_, rfl⟩
      have x1 : ∀ k, wx.heap[k]? = wr.heap[k]? := fun k => by
        rw [hwx]
        by_cases e : k = w.heap.size
        · rw [e, s1]; exact hB.g1.symm
        · exact heap_setCell_other wr.drew ⟨w.heap.size, 0, none⟩ k _ e
      have z1 : wx.heap.size = wr.heap.size := by rw [hwx]; simp
      have o1 : wx.os = wr.os ∧ wx.tape = wr.tape ∧ wx.output = wr.output := by rw [hwx]; exact ⟨rfl, rfl, rfl⟩
      rw [← hwx]
      have q2 : wx.cell? ⟨w.heap.size + 1, 0, none⟩ = some (.slice aos acc.length cos) := by rw [cell_of_row wx _ _ _ _ _ ((x1 _).trans hB.g2)]; rfl
      have s2 := set_one ((x1 _).trans hB.g2) rfl (.slice aos acc.length cos)
      refine wpK_s (by rfl) rfl (exec_store rfl (vx := .pointer (some ⟨w.heap.size + 1, 0, none⟩)) (vy := .slice aos acc.length cos) rfl rfl (run_store1 (u := .slice aos acc.length cos) (by kernel_rfl) rfl rfl q2 (frozen_row ((x1 _).trans hB.g2) 0))) (fun h => by cases h) ?_
      obtain ⟨wy, hwy⟩ : ∃ wy, wy = wx.setCell ⟨w.heap.size + 1, 0, none⟩ (.slice aos acc.length cos) := ⟨_, rfl⟩
      have x2 : ∀ k, wy.heap[k]? = wr.heap[k]? := fun k => by
        rw [hwy]
        by_cases e : k = w.heap.size + 1
        · rw [e, s2]; exact hB.g2.symm
        · exact (heap_setCell_other wx ⟨w.heap.size + 1, 0, none⟩ k _ e).trans (x1 k)
      have z2 : wy.heap.size = wr.heap.size := by rw [hwy]; simpa using z1
      have o2 : wy.os = wr.os ∧ wy.tape = wr.tape ∧ wy.output = wr.output := by rw [hwy]; exact o1
      rw [← hwy]
      have q3 : wy.cell? ⟨w.heap.size + 2, 0, none⟩ = some (I 0) := by rw [cell_of_row wy _ _ _ _ _ ((x2 _).trans hB.g3)]; rfl
      have s3 := set_one ((x2 _).trans hB.g3) rfl (I 0)
      refine wpK_s (by rfl) rfl (exec_store rfl (vx := .pointer (some ⟨w.heap.size + 2, 0, none⟩)) (vy := I 0) rfl rfl (run_store1 (u := I 0) (by kernel_rfl) rfl rfl q3 (frozen_row ((x2 _).trans hB.g3) 0))) (fun h => by cases h) ?_
      obtain ⟨wz, hwz⟩ : ∃ wz, wz = wy.setCell ⟨w.heap.size + 2, 0, none⟩ (I 0) := ⟨_, rfl⟩
      have x3 : ∀ k, wz.heap[k]? = wr.heap[k]? := fun k => by
        rw [hwz]
        by_cases e : k = w.heap.size + 2
        · rw [e, s3]; exact hB.g3.symm
        · exact (heap_setCell_other wy ⟨w.heap.size + 2, 0, none⟩ k _ e).trans (x2 k)
      have z3 : wz.heap.size = wr.heap.size := by rw [hwz]; simpa using z2
      have o3 : wz.os = wr.os ∧ wz.tape = wr.tape ∧ wz.output = wr.output := by rw [hwz]; exact o2
      rw [← hwz]
      have hBz : Below wr.heap.size wr wz := ⟨o3.1, o3.2.1, o3.2.2, by omega, fun k _ => x3 k⟩
      have HBz := hid hBz
      refine wpK_done ?_
      clear k1 k2 q1 s1 hwx x1 z1 o1 q2 s2 hwy x2 z2 o2 q3 s3 hwz x3 z3 o3 hBz hB
      have hB := HBo.out.on HBz.out
      have d1 : wz.cell? ⟨w.heap.size, 0, none⟩ = some (.pointer (some ⟨w.heap.size + 3, 0, none⟩)) := by rw [cell_of_row wz _ _ _ _ _ hB.g1]; rfl
      have d2 : wz.cell? ⟨w.heap.size + 1, 0, none⟩ = some (.slice aos acc.length cos) := by rw [cell_of_row wz _ _ _ _ _ hB.g2]; rfl
      have d3 : wz.cell? ⟨w.heap.size + 2, 0, none⟩ = some (I 0) := by rw [cell_of_row wz _ _ _ _ _ hB.g3]; rfl
      have HBB := hid hB
      clear hB
      go_wp2
      refine door_ret rfl rfl rfl d1 d2 d3 (.inr ?_)
      rw [HXX.out]
      refine ⟨rfl, _, _, rfl, by omega, ?_, ⟨vs, pb, HRe.out.keep (fun k _ hk => HBz.out.block k hk) HBz.out.size⟩, HBB.out.below⟩
      have := HBB.out.tape
      rw [HT.out] at this
      exact this
    · obtain ⟨T, acc, e1, e2, e3, hh⟩ := HP.out
      have hop : ∃ r k, Op w (w.heap.size + 3) p D.safe.length T acc u9 (some r) wr ∧ X = TS.opened S k T.pos T.count (acc ++ [r]) ∧ S.length + 1 ≤ k + T.pos ∧ acc.length + 1 = T.count := by
        rcases hh with ⟨hb, _⟩ | ⟨r, k, _, h1, h2, h3⟩
        · cases hb
        · exact ⟨r, k, h1, h2, h3⟩
      obtain ⟨r, k, hop, hx, hk, hcc⟩ := hop
      obtain ⟨sv, vs, pb, hB, hR, hU⟩ := hop.ex
      obtain ⟨hu, hun⟩ := hU r rfl
      have hac : acc.length ≤ 1048576 := by have := hop.tape.bd; omega
      have HCC := hid hcc
      obtain ⟨aos, cos, rfl⟩ := own_form hR.row
      obtain ⟨aou, cou, rfl⟩ := own_form hu
      have c1 : wr.cell? ⟨w.heap.size + 1, 0, none⟩ = some (.slice aos acc.length cos) := by rw [cell_of_row wr _ _ _ _ _ hB.g2]; rfl
      have hpo := posOf_is hop.tape
      have HBo := hid hB
      have HRe := hid hR
      have HU := hid hu
      have HUN := hid hun
      have HXX := hid hx
      have HK := hid hk
      have HPO := hid hpo
      have hbz : w.heap.size + 4 ≤ wr.heap.size := hB.lt
      have E1 := hid e1
      have E2 := hid e2
      have E3 := hid e3
      clear hop hx hB hR hh e1 e2 e3 HP hu hun hU hk hpo hcc
      go_wp2_with (at_builtin; refine wpList_app rfl (.tmp 45) (.tmp 47) 45 rfl (w.heap.size + 4) 23 (.slice none 0 0) 1 24 Try.underlying45 info23t rfl (by decide) acc.length vs 1 [.slice aou r.length cou] ?own ?src ?h63 ?hb ?hbase ?_)
      case own => exact HRe.out.row.alloc _
      case src => exact Src.new wr 1 23 [_] rfl (fun x hx => by obtain rfl := List.mem_singleton.1 hx; rfl)
      case h63 => unfold maxLen; omega
      case hb => omega
      case hbase => simp; omega
      intro v' w1 hown hgrow hat
      have hpush := Op.push HBo.out HRe.out HU.out HUN.out hown hgrow hat (.slice none 0 0)
      have hsv := fun k hk => (own_lt HRe.out.row k hk).1
      have hg2 : w1.heap[w.heap.size + 1]? = some (.cells #[.slice aos acc.length cos] 45 (0, 0)) := ((hgrow.block _ (by simp; omega) (fun e => by have := hsv _ e.symm; omega)).trans (Below.heap_alloc wr _ _ (by omega))).trans HBo.out.g2
      have hc2 : w1.cell? ⟨w.heap.size + 1, 0, none⟩ = some (.slice aos acc.length cos) := by rw [cell_of_row w1 _ _ _ _ _ hg2]; rfl
      have hf2 := frozen_row hg2 0
      obtain ⟨av, cv, rfl⟩ := own_form hown
      have HPU := hid hpush
      have hlen3 : (w1.setCell ⟨w.heap.size + 1, 0, none⟩ (.slice av (acc.length + 1) cv)).cell? ⟨w.heap.size, 0, none⟩ = some (.pointer (some ⟨w.heap.size + 3, 0, none⟩)) := by
        obtain ⟨sv2, vs2, pb2, hB2, -, -⟩ := hpush.ex
        rw [cell_of_row _ _ _ _ _ _ hB2.g1]; rfl
      have hlen4 : w1.cell? ⟨w.heap.size, 0, none⟩ = some (.pointer (some ⟨w.heap.size + 3, 0, none⟩)) := by
        refine (World.cell?_of_block (w := w1.setCell ⟨w.heap.size + 1, 0, none⟩ (.slice av (acc.length + 1) cv)) (a := ⟨w.heap.size, 0, none⟩) ?_).trans hlen3
        exact (heap_setCell_other w1 ⟨w.heap.size + 1, 0, none⟩ _ _ (by simp)).symm
      clear hown hgrow hat hpush hg2 hsv c1 hlen3
      go_wp2_with fail
      refine (next_step (S := S) (X := X) (lo := lo) (hi := hi) (k := k) (acc := acc ++ [r]) (T := T) HPU.out (HDD.out _ HPU.out.below) HO.out E1.out E2.out E3.out HS.out HXX.out HK.out HSL.out (by rw [List.length_append]; exact HCC.out)).mono ?_
      rintro e w2 (⟨v2, b2, rfl, hp, hq, hp2⟩ | ⟨e0, hx, he, rfl, hb⟩)
      · have HP := hid hp
        have HQ := hid hq
        have HP2 := hid hp2
        clear hp hq hp2
        go_wp2
        go_roundw
        case rel => exact ⟨b2, rfl, HP⟩
        case measure =>
          have h1 := HPO.out
          have h2 := HP2.out
          rw [h1]
          rcases HQ.out with ⟨rfl, h3⟩ | ⟨rfl, h3⟩
          · rw [h3]; simp [isOne]
          · show 2 * (S.length - posOf (w.heap.size + 3) w2) + 1 < 2 * (S.length - T.pos) + 1
            omega
      · have hb := HPU.out.on hb (.slice none 0 0)
        obtain ⟨sv2, vs2, pb2, hB2, -, -⟩ := hb.ex
        refine door_gave rfl rfl rfl hB2.g1 hB2.g2 hB2.g3 rfl rfl rfl (by omega) (by omega) (by omega) (fun w' hm => .inl ⟨by rw [hx]; exact he, by rw [hx], ?_⟩)
        exact hB2.below.trans (hm.below hB2.below.size (fun i hi => by omega))
end Go.Proofs.Ytoaeapnkefjpaaa
