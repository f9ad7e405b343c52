/-
  DrumArms of layer 3: the plain law and the walk.
-/
import Derived.Test.YtoaeapnkefjpaaaDrumG
namespace Go.Proofs.Ytoaeapnkefjpaaa.drumArms
open Go.RowKit
set_option linter.unusedVariables false
set_option linter.unusedSimpArgs false

/-- Behind i operations. -/
def Inv (n : Int) (i : Nat) (D : DS) : Prop := D.safe.length = 3 ∧ D.waits.length ≤ i ∧
  ((n < 1 ∧ D.off = false ∧ D.armed = 0 ∧ D.ops = i) ∨ (1 ≤ n ∧ (i : Int) < n ∧ D.off = false ∧ D.armed = n - i ∧ D.ops = i) ∨ (1 ≤ n ∧ n ≤ i ∧ D.off = true ∧ D.armed = 0 ∧ D.ops = n))
/-- What an operation answers. -/
def ans (n : Int) (i : Nat) : Int := if 1 ≤ n ∧ n ≤ i + 1 then 20 else 0
theorem inc_small {x : Int} (h : 0 ≤ x ∧ x ≤ 1000) : DS.inc x = x + 1 := by unfold DS.inc wrap64; omega
theorem op_inv {n : Int} {i : Nat} {D : DS} (hi : i ≤ 100) (hs : D.safe.length = 3) (hw : D.waits.length ≤ i + 1)
    (h : (n < 1 ∧ D.off = false ∧ D.armed = 0 ∧ D.ops = i) ∨ (1 ≤ n ∧ (i : Int) < n ∧ D.off = false ∧ D.armed = n - i ∧ D.ops = i)) :
    Inv n (i + 1) D.op ∧ (D.op.off = true ↔ (1 ≤ n ∧ n ≤ i + 1)) := by
  have hinc : DS.inc D.ops = i + 1 := by
    have : D.ops = i := by rcases h with h | h; exact h.2.2.2; exact h.2.2.2.2
    rw [this, inc_small (by omega)]
  unfold DS.op
  by_cases h1 : 0 < D.armed
  · rw [if_pos h1]
    by_cases h2 : D.armed - 1 = 0
    · rw [if_pos h2]
      have ho : D.off = false := by rcases h with h | h; exact h.2.1; exact h.2.2.1
      unfold DS.Off
      simp only [ho, Bool.false_eq_true, if_false]
      refine ⟨⟨by simp only [DS.lay_len]; exact hs, by simp, ?_⟩, ?_⟩
      · refine .inr (.inr ?_)
        rcases h with h | h
        · omega
        · refine ⟨h.1, by omega, rfl, rfl, ?_⟩
          simp only [hinc]; omega
      · simp only [true_iff]
        rcases h with h | h
        · omega
        · exact ⟨h.1, by omega⟩
    · rw [if_neg h2]
      refine ⟨⟨hs, hw, ?_⟩, ?_⟩
      · rcases h with h | h
        · omega
        · refine .inr (.inl ⟨h.1, by omega, h.2.2.1, ?_, by simp only [hinc]; omega⟩)
          simp only []; omega
      · rcases h with h | h
        · omega
        · simp only [h.2.2.1, Bool.false_eq_true, false_iff]; omega
  · rw [if_neg h1]
    refine ⟨⟨hs, hw, ?_⟩, ?_⟩
    · rcases h with h | h
      · exact .inl ⟨h.1, h.2.1, h.2.2.1, by simp only [hinc]; omega⟩
      · omega
    · rcases h with h | h
      · simp only [h.2.1, Bool.false_eq_true, false_iff]; omega
      · omega
theorem write_inv {n : Int} {i : Nat} {D : DS} (hi : i ≤ 100) (h : Inv n i D) {a : Nat} (ha : a < 3) {l : List UInt8} (hl : l.length = 256) : Inv n (i + 1) (D.write a l).2 ∧ (D.write a l).1 = ans n i := by
  obtain ⟨hs, hw, h⟩ := h
  unfold ans
  have hb : D.bad a l.length = false := by
    unfold DS.bad
    have h1 : ¬ ((D.safe.length : Int) ≤ (a : Int)) := by omega
    have h2 : ¬ ((a : Int) < 0) := by omega
    simp [h1, h2, hl]
  unfold DS.write
  rw [hb]
  simp only [Bool.false_eq_true, if_false, Int.toNat_natCast]
  by_cases ho : D.off = true
  · rw [ho] at h ⊢
    simp only [if_true]
    rcases h with h | h | h
    · exact absurd h.2.1 (by decide)
    · exact absurd h.2.2.1 (by decide)
    · exact ⟨⟨hs, by omega, .inr (.inr ⟨h.1, by omega, ho, h.2.2.2.1, h.2.2.2.2⟩)⟩, by rw [if_pos ⟨h.1, by omega⟩]⟩
  · have ho' : D.off = false := by simpa using ho
    simp only [ho', Bool.false_eq_true, if_false]
    have h' : (n < 1 ∧ D.off = false ∧ D.armed = 0 ∧ D.ops = i) ∨ (1 ≤ n ∧ (i : Int) < n ∧ D.off = false ∧ D.armed = n - i ∧ D.ops = i) := by
      rcases h with h | h | h
      · exact .inl h
      · exact .inr h
      · exact absurd h.2.2.1 ho
    have := op_inv (n := n) (i := i) (D := { D with waits := D.waits ++ [(a, l)] }) hi hs (by simp; omega) h'
    by_cases hE : (DS.op { D with waits := D.waits ++ [(a, l)] }).off = true
    · have h2 := this.2.1 hE
      simp only [ho'] at this hE ⊢
      simp only [hE, if_true]
      exact ⟨this.1, by rw [if_pos h2]⟩
    · have h2 : ¬ (1 ≤ n ∧ n ≤ i + 1) := fun hh => hE (this.2.2 hh)
      have hE' : (DS.op { D with waits := D.waits ++ [(a, l)] }).off = false := by simpa using hE
      simp only [ho'] at this hE' ⊢
      simp only [hE', Bool.false_eq_true, if_false]
      exact ⟨this.1, by rw [if_neg h2]⟩
theorem flush_inv {n : Int} {i : Nat} {D : DS} (hi : i ≤ 100) (h : Inv n i D) : Inv n (i + 1) D.Flush.2 ∧ D.Flush.1 = ans n i := by
  obtain ⟨hs, hw, h⟩ := h
  unfold ans
  unfold DS.Flush
  by_cases ho : D.off = true
  · rw [ho] at h
    rw [if_pos ho]
    rcases h with h | h | h
    · exact absurd h.2.1 (by decide)
    · exact absurd h.2.2.1 (by decide)
    · exact ⟨⟨hs, by show D.waits.length ≤ i + 1; omega, .inr (.inr ⟨h.1, by omega, ho, h.2.2.2.1, h.2.2.2.2⟩)⟩, by rw [if_pos ⟨h.1, by omega⟩]⟩
  · have ho' : D.off = false := by simpa using ho
    rw [if_neg ho]
    have h' : (n < 1 ∧ D.off = false ∧ D.armed = 0 ∧ D.ops = i) ∨ (1 ≤ n ∧ (i : Int) < n ∧ D.off = false ∧ D.armed = n - i ∧ D.ops = i) := by
      rcases h with h | h | h
      · exact .inl h
      · exact .inr h
      · exact absurd h.2.2.1 ho
    have := op_inv (n := n) (i := i) (D := D) hi hs (by omega) h'
    by_cases hE : D.op.off = true
    · simp only [hE, if_true]
      exact ⟨this.1, by rw [if_pos (this.2.1 hE)]⟩
    · have hE' : D.op.off = false := by simpa using hE
      simp only [hE', Bool.false_eq_true, if_false]
      have h2 : ¬ (1 ≤ n ∧ n ≤ i + 1) := fun hh => hE (this.2.2 hh)
      refine ⟨⟨by simp only [DS.flush_len]; exact this.1.1, by simp, ?_⟩, by rw [if_neg h2]⟩
      rcases this.1.2.2 with g | g | g
      · exact .inl ⟨g.1, rfl, g.2.2⟩
      · exact .inr (.inl ⟨g.1, g.2.1, rfl, g.2.2.2⟩)
      · exact absurd g.2.2.1 hE
/-- What Ops and Down tell. -/
theorem inv_tells {n : Int} {i : Nat} {D : DS} (h : Inv n (i + 1) D) : (1 ≤ n ∧ n ≤ i + 1 → D.off = true ∧ D.ops = n) ∧ (¬ (1 ≤ n ∧ n ≤ i + 1) → D.off = false ∧ D.ops = i + 1) := by
  obtain ⟨_, _, h⟩ := h
  constructor <;> intro hh
  · rcases h with h | h | h
    · omega
    · omega
    · exact ⟨h.2.2.1, h.2.2.2.2⟩
  · rcases h with h | h | h
    · exact ⟨h.2.1, by omega⟩
    · exact ⟨h.2.2.1, by omega⟩
    · omega
/-- The end. -/
theorem inv_end {n : Int} {i : Nat} {D : DS} (hi : i ≤ 100) (h : Inv n i D) : (∃ l, D.On.read 0 = (0, l)) ∧ (D.On.Flush.1 = 0 ∨ (D.On.Flush.1 = 20 ∧ n = i + 1)) := by
  obtain ⟨hs, hw, h⟩ := h
  refine ⟨⟨_, DS.read_ok (D := D.On) rfl (a := 0) (by show 0 < D.safe.length; omega)⟩, ?_⟩
  by_cases ha : D.armed = 0
  · left; rw [DS.flush_ok (D := D.On) rfl ha]
  · have hn : 1 ≤ n ∧ (i : Int) < n ∧ D.armed = n - i ∧ D.ops = i := by
      rcases h with h | h | h
      · omega
      · exact ⟨h.1, h.2.1, h.2.2.2.1, h.2.2.2.2⟩
      · omega
    have := op_inv (n := n) (i := i) (D := D.On) hi hs (by show D.waits.length ≤ i + 1; omega) (.inr ⟨hn.1, hn.2.1, rfl, hn.2.2.1, hn.2.2.2⟩)
    unfold DS.Flush
    have ho : D.On.off = false := rfl
    rw [if_neg (by rw [ho]; decide)]
    by_cases hE : D.On.op.off = true
    · simp only [hE, if_true]
      right
      have := this.2.1 hE
      exact ⟨trivial, by omega⟩
    · have hE' : D.On.op.off = false := by simpa using hE
      simp only [hE', Bool.false_eq_true, if_false]
      left; trivial
theorem inv_start (n k : Int) : Inv n 0 ((DS.new (DS.clamp 3)).Arm n k) := by
  have h3 : (DS.new (DS.clamp 3)).safe.length = 3 := by kernel_rfl
  refine ⟨h3, Nat.le_refl _, ?_⟩
  by_cases h : n < 1
  · exact .inl ⟨h, rfl, by show max n 0 = 0; omega, rfl⟩
  · exact .inr (.inl ⟨by omega, by omega, rfl, by show max n 0 = n - ((0 : Nat) : Int); omega, rfl⟩)
theorem full_u8 (w : World) (x : Int) (h : 0 ≤ x ∧ x < 256) : Calls Try.prog 57 #[.int .u8 x] w fun e w' => ∃ (c : UInt8) (v : Value), e = .returned v ∧ w'.ownsRow w.heap.size 5 1 v (fullPage c).length ((fullPage c).map B) ∧ Below w.heap.size w w' := by
  have e : x = ((UInt8.ofNat x.toNat).toNat : Int) := by rw [UInt8.toNat_ofNat_of_lt' (by simp [UInt8.size]; omega)]; omega
  have := full_any w (UInt8.ofNat x.toNat)
  rw [show B (UInt8.ofNat x.toNat) = Value.int .u8 x from by show Value.int .u8 _ = _; rw [← e]] at this
  exact this.mono fun e w' hh => ⟨_, hh⟩
set_option maxRecDepth 100000 in
set_option maxHeartbeats 1600000 in
theorem walk (n k : Int) (a1 : Option Addr) (len cap : Nat) (w : World) (hn : -9223372036854775808 ≤ n ∧ n ≤ 9223372036854775807) (hk : -9223372036854775808 ≤ k ∧ k ≤ 9223372036854775807) (hl : len ≤ 9223372036854775807)
    (hb : 0 < len → ∃ g off, a1 = some ⟨g, off, none⟩ ∧ ∀ i, i < len → ∃ b, w.cell? ⟨g, off + i, none⟩ = some (.bool b)) :
    Calls Try.prog 13 #[I n, .slice a1 len cap, I k] w fun e w' => e = .returned (.bool true) ∧ Below w.heap.size w w' := by
  have HBB := hid hb
  clear hb
  by_cases h100 : 100 < len
  · go_enter Try.func13, Try.ntmps13
    go_wp2_with (go_at_call 56; refine (wakes3_any _).mono ?_; rintro e w1 ⟨rfl, hb⟩; have HB := hid hb; clear hb)
    go_ret
    exact ⟨rfl, HB.out⟩
  go_enter Try.func13, Try.ntmps13
  go_wp2_with (first | (go_at_call 56; refine (wakes3_any _).mono ?_; rintro e w1 ⟨rfl, hb⟩; have HB := hid hb; clear hb) | (go_at_call 36; refine (st_new _ 3 (by omega)).mono ?_; rintro e w2 ⟨p, own, rfl, h⟩; have H := hid (h.back HB.out); clear h HB) | (go_at_call 44; refine (st_arm H.out n k hn hk).mono ?_; rintro e w3 ⟨rfl, h, hM⟩; have HI := hid (inv_start n k); replace H := hid h; clear h hM))
  go_loopw [25] (fun i wr => ∃ (j : Nat) (own : Nat → Prop) (D : DS), j ≤ len ∧ i = I j ∧ Hid (St w own p D wr) ∧ Hid (Inv n j D)) (fun i _ => len - (intOf i).toNat)
  case atStart => exact ⟨0, _, _, Nat.zero_le _, rfl, H, HI⟩
  case round =>
    clear H HI
    obtain ⟨j, own, D, hj, rfl, H, HI⟩ := hrel
    by_cases hlt : j < len
    · obtain ⟨g, off, rfl, hcells⟩ := HBB.out (by omega)
      obtain ⟨b, hbj⟩ := hcells j hlt
      have hc : wr.cell? ⟨g, off + j, none⟩ = some (.bool b) := (H.out.below.cell (block_lt_of_cell hbj)).trans hbj
      clear hcells hbj
      have hq : (j : Int) % 3 = ((j % 3 : Nat) : Int) := by omega
      have HQ := hid hq
      have hq3 : j % 3 < 3 := Nat.mod_lt _ (by decide)
      clear hq
      have hT : (1 ≤ n ∧ n ≤ (j : Int) + 1) ∨ n < 1 ∨ (1 ≤ n ∧ (j : Int) + 1 < n) := by omega
      rcases hT with hT | hT | hT <;> cases b
      all_goals
        have hans : ans n j = if 1 ≤ n ∧ n ≤ (j : Int) + 1 then 20 else 0 := rfl
        first | rw [if_pos (by omega)] at hans | rw [if_neg (by omega)] at hans
        have HANS := hid hans
        clear hans
        go_wp2_with (first | (go_at_call 52; refine (st_flush H.out).mono ?_; rw [(flush_inv (by omega) HI.out).2, HANS.out]; rintro e w3 ⟨rfl, h, hM⟩; have HI' := hid (flush_inv (by omega) HI.out).1; have H' := hid h; (first | have HD := hid ((inv_tells HI'.out).1 (by omega)) | have HD := hid ((inv_tells HI'.out).2 (by omega))); clear h hM) | (go_at_call 57; refine (full_u8 _ _ (by omega)).mono ?_; rintro e w2 ⟨c, v, rfl, ho, hb⟩; have HV := hid (H.out.apart ho); replace H := hid (H.out.on hb); clear ho hb) | (go_at_call 50; refine (st_write H.out _ (by omega) HV.out (by have := HI.out.2.1; omega)).mono ?_; rw [HQ.out, (write_inv (by omega) HI.out hq3 (fullPage_len c)).2, HANS.out]; rintro e w3 ⟨rfl, own', h, hO, hM⟩; have HI' := hid (write_inv (by omega) HI.out hq3 (fullPage_len c)).1; have H' := hid h; (first | have HD := hid ((inv_tells HI'.out).1 (by omega)) | have HD := hid ((inv_tells HI'.out).2 (by omega))); clear h hO hM) | (go_at_call 61; refine (down_any _ _ _ _ H'.out.at').mono ?_; rw [HD.out.1]; rintro e w4 ⟨rfl, rfl⟩) | (go_at_call 59; refine (ops_any _ _ _ _ H'.out.at').mono ?_; rw [HD.out.2]; rintro e w4 ⟨rfl, rfl⟩))
        refine ⟨⟨j + 1, _, _, by omega, by go_num, H', HI'⟩, by simp [intOf]; omega⟩
    · have e : j = len := by omega
      subst e
      have HE := hid (inv_end (by omega) HI.out)
      obtain ⟨⟨lx, hrd⟩, hfl⟩ := HE.out
      have HRD := hid hrd
      clear hrd HE
      rcases hfl with hf0 | ⟨hf20, hne⟩
      · have HF := hid hf0
        clear hf0
        go_wp2_with (first | (go_at_call 48; refine (st_on H.out).mono ?_; rintro e w3 ⟨rfl, h, hM⟩; replace H := hid h; clear h hM) | (go_at_call 58; refine (st_read H.out 0 (by omega)).mono ?_; rw [HRD.out]; rintro e w4 ⟨v, rfl, h, ho, hb⟩; replace H := hid h; clear h ho hb) | (go_at_call 52; refine (st_flush H.out).mono ?_; rw [HF.out]; rintro e w5 ⟨rfl, h, hM⟩; replace H := hid h; clear h hM))
        go_ret
        exact ⟨rfl, H.out.below⟩
      · have HF := hid hf20
        clear hf20
        have hn1 : 1 ≤ n := by omega
        go_wp2_with (first | (go_at_call 48; refine (st_on H.out).mono ?_; rintro e w3 ⟨rfl, h, hM⟩; replace H := hid h; clear h hM) | (go_at_call 58; refine (st_read H.out 0 (by omega)).mono ?_; rw [HRD.out]; rintro e w4 ⟨v, rfl, h, ho, hb⟩; replace H := hid h; clear h ho hb) | (go_at_call 52; refine (st_flush H.out).mono ?_; rw [HF.out]; rintro e w5 ⟨rfl, h, hM⟩; replace H := hid h; clear h hM))
        go_ret
        exact ⟨rfl, H.out.below⟩
theorem walkAll (n : Int) (hn : -9223372036854775808 ≤ n ∧ n ≤ 9223372036854775807) (a1 : Option Addr) (len cap : Nat) (hl : len ≤ 9223372036854775807) {w : World}
    (hb : 0 < len → ∃ g off, a1 = some ⟨g, off, none⟩ ∧ ∀ i, i < len → ∃ b, w.cell? ⟨g, off + i, none⟩ = some (.bool b)) (k : Int) (hk : -9223372036854775808 ≤ k ∧ k ≤ 9223372036854775807) (w' : World) (e : w = w') :
    Calls Try.prog 13 #[I n, .slice a1 len cap, I k] w' fun e w'' => e = .returned (.bool true) ∧ Below w'.heap.size w' w'' := by
  subst e
  exact walk n k a1 len cap w hn hk hl hb
end Go.Proofs.Ytoaeapnkefjpaaa.drumArms
