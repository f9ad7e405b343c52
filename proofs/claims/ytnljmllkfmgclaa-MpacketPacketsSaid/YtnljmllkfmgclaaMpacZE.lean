/-
  THE DOCUMENT'S ANSWER: Next (12). Conditions: those that each contract names.
-/
import Derived.Test.YtnljmllkfmgclaaMpacZC
import Derived.Test.YtnljmllkfmgclaaMpacZD
namespace Go.Proofs.Ytnljmllkfmgclaa
open Go.RowKit
set_option linter.unusedVariables false
set_option linter.unusedSimpArgs false

/-- The way out of the document's Next. -/
theorem ret12 {wr : World} {q : Nat} {P : Pk} {nv cv u3 u4 : Value} {tmps : Array Value} {R : Ending → World → Prop} (hq : PIn wr q P nv cv)
    (h2 : tmps[2]?.getD undef = .pointer (some ⟨q, 0, none⟩)) (h3 : tmps[3]?.getD undef = u3) (h4 : tmps[4]?.getD undef = u4) (hR : R (.returned (.tuple #[.agg (pkCells P nv cv), u3, u4])) wr) : bodyPost Try.prog Try.f12 R Exit.ret { tmps := tmps, defers := [] } wr := by
  have k0 : wr.cell? ⟨q, 0, none⟩ = some (I P.kind) := hq.cell 0
  have k1 : wr.cell? ⟨q, 1, none⟩ = some (I P.flags) := hq.cell 1
  have k2 : wr.cell? ⟨q, 2, none⟩ = some (I P.id) := hq.cell 2
  have k3 : wr.cell? ⟨q, 3, none⟩ = some (I P.code) := hq.cell 3
  have k4 : wr.cell? ⟨q, 4, none⟩ = some (S P.name) := hq.cell 4
  have k5 : wr.cell? ⟨q, 5, none⟩ = some (S P.text) := hq.cell 5
  have k6 : wr.cell? ⟨q, 6, none⟩ = some (I P.keep) := hq.cell 6
  have k7 : wr.cell? ⟨q, 7, none⟩ = some (.bool P.will) := hq.cell 7
  have k8 : wr.cell? ⟨q, 8, none⟩ = some (S P.topic) := hq.cell 8
  have k9 : wr.cell? ⟨q, 9, none⟩ = some (.bool P.clean) := hq.cell 9
  have k10 : wr.cell? ⟨q, 10, none⟩ = some nv := hq.cell 10
  have k11 : wr.cell? ⟨q, 11, none⟩ = some cv := hq.cell 11
  have hh : R (.returned (.tuple #[.agg #[I P.kind, I P.flags, I P.id, I P.code, S P.name, S P.text, I P.keep, .bool P.will, S P.topic, .bool P.clean, nv, cv], u3, u4])) wr := hR
  simp [bodyPost, results, Try.results12, go_sem, h2, h3, h4, hh, k0, k1, k2, k3, k4, k5, k6, k7, k8, k9, k10, k11]
/-- The answer's block, as it was laid. -/
structure Q12 (w wr : World) : Prop where
  pk : PIn wr w.heap.size Pk.zero nil0 nil0
  below : Below w.heap.size w wr
theorem Q12.start (w : World) : Q12 w (w.alloc (.cells (pkCells Pk.zero nil0 nil0) 25)) := ⟨pk_box, (Below.refl _ _).alloc (Nat.le_refl _) _⟩
theorem Q12.on {w wr wx : World} (h : Q12 w wr) (hb : Below wr.heap.size wr wx) : Q12 w wx := ⟨h.pk.below hb, h.below.trans (hb.mono h.below.size)⟩
theorem Q12.store {w wr : World} (h : Q12 w wr) (P : Pk) (nv cv : Value) : PIn (wr.setCells w.heap.size 0 (pkCells P nv cv).toList) w.heap.size P nv cv ∧ Below w.heap.size w (wr.setCells w.heap.size 0 (pkCells P nv cv).toList) := by
  have hm : Mod (fun k => k = w.heap.size) wr (wr.setCells w.heap.size 0 (pkCells P nv cv).toList) := Mod.setCells (own := fun k => k = w.heap.size) rfl _ _ _
  exact ⟨h.pk.stored _ _ _, h.below.trans (hm.below h.below.size (fun i hi => by omega))⟩
set_option maxRecDepth 100000 in
set_option maxHeartbeats 1600000 in
theorem next12_any (w : World) (s : List UInt8) (hs : s.length ≤ 1048576) : Calls Try.prog 12 #[S s] w (Nexted w (Mp.next s)) := by
  obtain ⟨O, hO⟩ : ∃ O, O = Mp.next s := ⟨_, rfl⟩
  rw [← hO]
  have HO := hid hO
  have HQ := hid (Q12.start w)
  have hz := str_size s
  clear hO
  go_enter Try.func12, Try.ntmps12
  go_upto_region 1 with (fail)
  rw [show w.alloc (.cells #[.int .i64 0, .int .i64 0, .int .i64 0, .int .i64 0, .string { data := #[] }, .string { data := #[] }, .int .i64 0, .bool false, .string { data := #[] }, .bool false, .slice none 0 0, .slice none 0 0] 25) = w.alloc (.cells (pkCells Pk.zero nil0 nil0) 25) from rfl]
  generalize w.alloc (.cells (pkCells Pk.zero nil0 nil0) 25) = wq at *
  cases s with
  | nil =>
    have he := str_empty [] rfl
    have hst := HQ.out.store Pk.zero nil0 nil0
    have HST := hid (HQ.out.pk.store (P' := Pk.zero) (nv' := nil0) (cv' := nil0) rfl rfl)
    have HS1 := hid hst.1
    have HS2 := hid hst.2
    clear hst
    go_wp2_with (first | (show wpList _ _ _ ({ dst := none, op := Op.store _ (.tmp 2) _, type := _, pos := _, after := _, guard := _ } :: _) _ _; refine wpList_store_by rfl (.tmp 2) (.tmp 16) rfl rfl (.pointer (some ⟨w.heap.size, 0, none⟩)) (.agg (pkCells Pk.zero nil0 nil0)) rfl rfl HST.out ?_) | fail)
    refine ret12 HS1.out rfl rfl rfl ?_
    rw [HO.out]
    exact ⟨HS2.out, rfl⟩
  | cons h t =>
    have he := str_full (h :: t) (by simp)
    have g0 : ∀ hh, (str (h :: t))[0]'hh = h := fun _ => rfl
    have hh := h.toNat_lt
    have e1 : IntKind.i64.wrap (h.toNat : Int) = (h.toNat : Int) := IntWalk.i64_in _ (by omega)
    unfold Mp.next at HO
    simp only at HO
    simp only [List.length_cons] at hs hz
    go_upto_region 5 with (fail)
    clear he g0 e1
    have q1 : ((h.toNat : Int) / 16) = ((h.toNat / 16 : Nat) : Int) := by omega
    have q2 : ((h.toNat : Int) % 16) = ((h.toNat % 16 : Nat) : Int) := by omega
    rw [q1, q2]
    have hk : h.toNat / 16 < 16 := by omega
    have hf : h.toNat % 16 < 16 := by omega
    generalize h.toNat / 16 = k at *
    generalize h.toNat % 16 = f at *
    clear q1 q2
    have HF := hid (flags16_any wq k f hk hf)
    cases hfl : Mp.flagsOk k f with
    | false =>
      rw [hfl] at HF
      rw [if_pos hfl] at HO
      clear hfl
      have hst := HQ.out.store Pk.zero nil0 nil0
      have HST := hid (HQ.out.pk.store (P' := Pk.zero) (nv' := nil0) (cv' := nil0) rfl rfl)
      have HS1 := hid hst.1
      have HS2 := hid hst.2
      clear hst
      go_wp2_with (first | (show wpList _ _ _ ({ dst := none, op := Op.store _ (.tmp 2) _, type := _, pos := _, after := _, guard := _ } :: _) _ _; refine wpList_store_by rfl (.tmp 2) (.tmp 29) rfl rfl (.pointer (some ⟨w.heap.size, 0, none⟩)) (.agg (pkCells Pk.zero nil0 nil0)) rfl rfl HST.out ?_) | (go_at_call 16; refine HF.out.mono ?_; rintro e w2 ⟨rfl, rfl⟩) | fail)
      refine ret12 HS1.out rfl rfl rfl ?_
      rw [HO.out]
      exact ⟨HS2.out, rfl⟩
    | true =>
      rw [hfl] at HF
      rw [if_neg (by rw [hfl]; decide)] at HO
      have hkk := Mp.flagsOk_kind hfl
      clear hfl
      go_upto_region 10 with (first | (go_at_call 16; refine HF.out.mono ?_; rintro e w2 ⟨rfl, rfl⟩) | fail)
      clear HF
      obtain ⟨L, hL⟩ : ∃ L, L = Mp.len t 3 0 0 := ⟨_, rfl⟩
      rw [← hL] at HO
      have HL := hid hL
      clear hL
      go_wp2_with fail
      go_loop [7, 8, 9, 10] (fun s7 s8 s9 s10 => (∃ i N : Nat, i ≤ 2 ∧ N < 128 ^ i ∧ s7 = I N ∧ s8 = I ((128 ^ i : Nat) : Int) ∧ s9 = I ((i : Int) + 1) ∧ s10 = .bool true ∧ Hid (L = Mp.len t (3 - i) i N)) ∨ (∃ n wd : Nat, s10 = .bool false ∧ s7 = I n ∧ s9 = I ((wd : Int) + 1) ∧ L = .got n wd)) (fun _ _ s9 s10 => if (match s10 with | .bool b => b | _ => false) = true then 5 - (intOf s9).toNat else 0)
      case atStart => exact .inl ⟨0, 0, by omega, by decide, rfl, rfl, rfl, rfl, HL⟩
      case round =>
        rcases hrel with ⟨i, N, hi, hN, rfl, rfl, rfl, rfl, hl⟩ | ⟨n, wd, rfl, rfl, rfl, hl⟩
        · have h3 : i = 0 ∨ i = 1 ∨ i = 2 := by omega
          rcases h3 with rfl | rfl | rfl
          · as_aux_lemma =>
              simp only [Nat.pow_zero] at hN ⊢
              by_cases hlt : 0 < t.length
              rotate_left
              · have hl2 : L = .short := by
                  have h9 : L = Mp.len t (2 + 1) 0 N := hl.out
                  unfold Mp.len at h9
                  rw [List.getElem?_eq_none (by omega)] at h9
                  exact h9
                rw [hl2] at HO
                have hd : decide ((t.length : Int) + 1 ≤ 1) = true := decide_eq_true (by omega)
                clear hl2 hl
                have hst := HQ.out.store Pk.zero nil0 nil0
                have HST := hid (HQ.out.pk.store (P' := Pk.zero) (nv' := nil0) (cv' := nil0) rfl rfl)
                have HS1 := hid hst.1
                have HS2 := hid hst.2
                clear hst
                go_wp2_with (first | (show wpList _ _ _ ({ dst := none, op := Op.store _ (.tmp 2) _, type := _, pos := _, after := _, guard := _ } :: _) _ _; refine wpList_store_by rfl (.tmp 2) (.tmp 35) rfl rfl (.pointer (some ⟨w.heap.size, 0, none⟩)) (.agg (pkCells Pk.zero nil0 nil0)) rfl rfl HST.out ?_) | fail)
                refine ret12 HS1.out rfl rfl rfl ?_
                rw [HO.out]
                exact ⟨HS2.out, rfl⟩
              obtain ⟨c, hc⟩ : ∃ c, c = t[0] := ⟨_, rfl⟩
              have hg : ∀ hh, (str (h :: t))[1]'hh = c := fun _ => hc.symm
              have hcl := c.toNat_lt
              have ec : IntKind.i64.wrap (c.toNat : Int) = (c.toNat : Int) := IntWalk.i64_in _ (by omega)
              have hl2 : L = Mp.len t (2 + 1) 0 N := hl.out
              unfold Mp.len at hl2
              rw [List.getElem?_eq_getElem hlt, ← hc] at hl2
              simp only [Nat.pow_zero, Nat.pow_one, Nat.mul_one, show (128 : Nat) ^ 2 = 16384 from rfl, show (128 : Nat) ^ (1 + 1) = 16384 from rfl, show (128 : Nat) ^ (0 + 1) = 128 from rfl] at hl2
              have hdl : decide ((t.length : Int) + 1 ≤ 1) = false := decide_eq_false (by omega)
              have HL2 := hid hl2
              clear hl2 hl hc
              by_cases hb1 : 16384 < N + c.toNat % 128
              · have hd : decide ((16384 : Int) < (N : Int) + (c.toNat : Int) % 128) = true := decide_eq_true (by omega)
                have hz : (16384 : Int) < (N : Int) + (c.toNat : Int) % 128 := by omega
                have h9 := HL2.out
                rw [if_pos (.inl hb1)] at h9
                rw [h9] at HO
                clear h9 hb1 HL2
                have hst := HQ.out.store Pk.zero nil0 nil0
                have HST := hid (HQ.out.pk.store (P' := Pk.zero) (nv' := nil0) (cv' := nil0) rfl rfl)
                have HS1 := hid hst.1
                have HS2 := hid hst.2
                clear hst
                go_wp2_with (first | (show wpList _ _ _ ({ dst := none, op := Op.store _ (.tmp 2) _, type := _, pos := _, after := _, guard := _ } :: _) _ _; refine wpList_store_by rfl (.tmp 2) (.tmp 57) rfl rfl (.pointer (some ⟨w.heap.size, 0, none⟩)) (.agg (pkCells Pk.zero nil0 nil0)) rfl rfl HST.out ?_) | fail)
                refine ret12 HS1.out rfl rfl rfl ?_
                rw [HO.out]
                exact ⟨HS2.out, rfl⟩
              have hd1 : decide ((16384 : Int) < (N : Int) + (c.toNat : Int) % 128) = false := decide_eq_false (by omega)
              have hz1 : ¬ (16384 : Int) < (N : Int) + (c.toNat : Int) % 128 := by omega
              by_cases hc1 : c.toNat < 128
              · have hd2 : decide ((128 : Int) ≤ (c.toNat : Int)) = false := decide_eq_false (by omega)
                have hz2 : ¬ (128 : Int) ≤ (c.toNat : Int) := by omega
                have h9 := HL2.out
                rw [if_neg (by omega), if_pos hc1] at h9
                rw [if_pos (by simp)] at h9
                have H9 := hid h9
                clear h9 HL2 hb1 hc1
                go_wp2_with fail
                go_round
                case rel => exact .inr ⟨N + c.toNat % 128, 1, rfl, by go_num, by go_num, by rw [H9.out]⟩
                case measure => simp [intOf]
              · have hd2 : decide ((128 : Int) ≤ (c.toNat : Int)) = true := decide_eq_true (by omega)
                have hz2 : (128 : Int) ≤ (c.toNat : Int) := by omega
                have h9 := HL2.out
                rw [if_neg (by omega), if_neg hc1] at h9
                have H9 := hid h9
                have HX1 : Hid (c.toNat % 128 + N < 128) := hid (by omega)
                clear h9 HL2 hb1 hc1
                go_wp2_with fail
                go_round
                case rel => exact .inl ⟨1, N + c.toNat % 128, by omega, by have := HX1.out; omega, by go_num, by go_num, by go_num, rfl, hid (by rw [H9.out])⟩
                case measure => simp [intOf]
          · as_aux_lemma =>
              simp only [Nat.pow_one] at hN ⊢
              by_cases hlt : 1 < t.length
              rotate_left
              · have hl2 : L = .short := by
                  have h9 : L = Mp.len t (1 + 1) 1 N := hl.out
                  unfold Mp.len at h9
                  rw [List.getElem?_eq_none (by omega)] at h9
                  exact h9
                rw [hl2] at HO
                have hd : decide ((t.length : Int) + 1 ≤ 2) = true := decide_eq_true (by omega)
                clear hl2 hl
                have hst := HQ.out.store Pk.zero nil0 nil0
                have HST := hid (HQ.out.pk.store (P' := Pk.zero) (nv' := nil0) (cv' := nil0) rfl rfl)
                have HS1 := hid hst.1
                have HS2 := hid hst.2
                clear hst
                go_wp2_with (first | (show wpList _ _ _ ({ dst := none, op := Op.store _ (.tmp 2) _, type := _, pos := _, after := _, guard := _ } :: _) _ _; refine wpList_store_by rfl (.tmp 2) (.tmp 35) rfl rfl (.pointer (some ⟨w.heap.size, 0, none⟩)) (.agg (pkCells Pk.zero nil0 nil0)) rfl rfl HST.out ?_) | fail)
                refine ret12 HS1.out rfl rfl rfl ?_
                rw [HO.out]
                exact ⟨HS2.out, rfl⟩
              obtain ⟨c, hc⟩ : ∃ c, c = t[1] := ⟨_, rfl⟩
              have hg : ∀ hh, (str (h :: t))[2]'hh = c := fun _ => hc.symm
              have hcl := c.toNat_lt
              have ec : IntKind.i64.wrap (c.toNat : Int) = (c.toNat : Int) := IntWalk.i64_in _ (by omega)
              have hl2 : L = Mp.len t (1 + 1) 1 N := hl.out
              unfold Mp.len at hl2
              rw [List.getElem?_eq_getElem hlt, ← hc] at hl2
              simp only [Nat.pow_zero, Nat.pow_one, Nat.mul_one, show (128 : Nat) ^ 2 = 16384 from rfl, show (128 : Nat) ^ (1 + 1) = 16384 from rfl, show (128 : Nat) ^ (0 + 1) = 128 from rfl] at hl2
              have hdl : decide ((t.length : Int) + 1 ≤ 2) = false := decide_eq_false (by omega)
              have HL2 := hid hl2
              clear hl2 hl hc
              by_cases hb1 : 16384 < N + c.toNat % 128 * 128
              · have hd : decide ((16384 : Int) < (N : Int) + (c.toNat : Int) % 128 * 128) = true := decide_eq_true (by omega)
                have hz : (16384 : Int) < (N : Int) + (c.toNat : Int) % 128 * 128 := by omega
                have h9 := HL2.out
                rw [if_pos (.inl hb1)] at h9
                rw [h9] at HO
                clear h9 hb1 HL2
                have hst := HQ.out.store Pk.zero nil0 nil0
                have HST := hid (HQ.out.pk.store (P' := Pk.zero) (nv' := nil0) (cv' := nil0) rfl rfl)
                have HS1 := hid hst.1
                have HS2 := hid hst.2
                clear hst
                go_wp2_with (first | (show wpList _ _ _ ({ dst := none, op := Op.store _ (.tmp 2) _, type := _, pos := _, after := _, guard := _ } :: _) _ _; refine wpList_store_by rfl (.tmp 2) (.tmp 57) rfl rfl (.pointer (some ⟨w.heap.size, 0, none⟩)) (.agg (pkCells Pk.zero nil0 nil0)) rfl rfl HST.out ?_) | fail)
                refine ret12 HS1.out rfl rfl rfl ?_
                rw [HO.out]
                exact ⟨HS2.out, rfl⟩
              have hd1 : decide ((16384 : Int) < (N : Int) + (c.toNat : Int) % 128 * 128) = false := decide_eq_false (by omega)
              have hz1 : ¬ (16384 : Int) < (N : Int) + (c.toNat : Int) % 128 * 128 := by omega
              by_cases hc1 : c.toNat < 128
              · have hd2 : decide ((128 : Int) ≤ (c.toNat : Int)) = false := decide_eq_false (by omega)
                have hz2 : ¬ (128 : Int) ≤ (c.toNat : Int) := by omega
                have h9 := HL2.out
                rw [if_neg (by omega), if_pos hc1] at h9
                by_cases hc0 : c.toNat = 0
                · have hd3 : ((c.toNat : Int) == 0) = true := by rw [beq_iff_eq]; omega
                  rw [if_neg (by omega)] at h9
                  rw [h9] at HO
                  clear h9 HL2 hb1 hc1 hc0
                  have hst := HQ.out.store Pk.zero nil0 nil0
                  have HST := hid (HQ.out.pk.store (P' := Pk.zero) (nv' := nil0) (cv' := nil0) rfl rfl)
                  have HS1 := hid hst.1
                  have HS2 := hid hst.2
                  clear hst
                  go_wp2_with (first | (show wpList _ _ _ ({ dst := none, op := Op.store _ (.tmp 2) _, type := _, pos := _, after := _, guard := _ } :: _) _ _; refine wpList_store_by rfl (.tmp 2) (.tmp 68) rfl rfl (.pointer (some ⟨w.heap.size, 0, none⟩)) (.agg (pkCells Pk.zero nil0 nil0)) rfl rfl HST.out ?_) | fail)
                  refine ret12 HS1.out rfl rfl rfl ?_
                  rw [HO.out]
                  exact ⟨HS2.out, rfl⟩
                · have hd3 : ((c.toNat : Int) == 0) = false := by rw [beq_eq_false_iff_ne]; omega
                  rw [if_pos (.inr hc0)] at h9
                  have H9 := hid h9
                  clear h9 HL2 hb1 hc1 hc0
                  go_wp2_with fail
                  go_round
                  case rel => exact .inr ⟨N + c.toNat % 128 * 128, 2, rfl, by go_num, by go_num, by rw [H9.out]⟩
                  case measure => simp [intOf]
              · have hd2 : decide ((128 : Int) ≤ (c.toNat : Int)) = true := decide_eq_true (by omega)
                have hz2 : (128 : Int) ≤ (c.toNat : Int) := by omega
                have h9 := HL2.out
                rw [if_neg (by omega), if_neg hc1] at h9
                have H9 := hid h9
                have HX1 : Hid (c.toNat % 128 * 128 + N < 16384) := hid (by omega)
                clear h9 HL2 hb1 hc1
                go_wp2_with fail
                go_round
                case rel => exact .inl ⟨2, N + c.toNat % 128 * 128, by omega, by have := HX1.out; omega, by go_num, by go_num, by go_num, rfl, hid (by rw [H9.out])⟩
                case measure => simp [intOf]
          · as_aux_lemma =>
              simp only [show (128 : Nat) ^ 2 = 16384 from rfl] at hN ⊢
              by_cases hlt : 2 < t.length
              rotate_left
              · have hl2 : L = .short := by
                  have h9 : L = Mp.len t (0 + 1) 2 N := hl.out
                  unfold Mp.len at h9
                  rw [List.getElem?_eq_none (by omega)] at h9
                  exact h9
                rw [hl2] at HO
                have hd : decide ((t.length : Int) + 1 ≤ 3) = true := decide_eq_true (by omega)
                clear hl2 hl
                have hst := HQ.out.store Pk.zero nil0 nil0
                have HST := hid (HQ.out.pk.store (P' := Pk.zero) (nv' := nil0) (cv' := nil0) rfl rfl)
                have HS1 := hid hst.1
                have HS2 := hid hst.2
                clear hst
                go_wp2_with (first | (show wpList _ _ _ ({ dst := none, op := Op.store _ (.tmp 2) _, type := _, pos := _, after := _, guard := _ } :: _) _ _; refine wpList_store_by rfl (.tmp 2) (.tmp 35) rfl rfl (.pointer (some ⟨w.heap.size, 0, none⟩)) (.agg (pkCells Pk.zero nil0 nil0)) rfl rfl HST.out ?_) | fail)
                refine ret12 HS1.out rfl rfl rfl ?_
                rw [HO.out]
                exact ⟨HS2.out, rfl⟩
              obtain ⟨c, hc⟩ : ∃ c, c = t[2] := ⟨_, rfl⟩
              have hg : ∀ hh, (str (h :: t))[3]'hh = c := fun _ => hc.symm
              have hcl := c.toNat_lt
              have ec : IntKind.i64.wrap (c.toNat : Int) = (c.toNat : Int) := IntWalk.i64_in _ (by omega)
              have hl2 : L = Mp.len t (0 + 1) 2 N := hl.out
              unfold Mp.len at hl2
              rw [List.getElem?_eq_getElem hlt, ← hc] at hl2
              simp only [Nat.pow_zero, Nat.pow_one, Nat.mul_one, show (128 : Nat) ^ 2 = 16384 from rfl, show (128 : Nat) ^ (1 + 1) = 16384 from rfl, show (128 : Nat) ^ (0 + 1) = 128 from rfl] at hl2
              have hdl : decide ((t.length : Int) + 1 ≤ 3) = false := decide_eq_false (by omega)
              have HL2 := hid hl2
              clear hl2 hl hc
              by_cases hb1 : 16384 < N + c.toNat % 128 * 16384
              · have hd : decide ((16384 : Int) < (N : Int) + (c.toNat : Int) % 128 * 16384) = true := decide_eq_true (by omega)
                have hz : (16384 : Int) < (N : Int) + (c.toNat : Int) % 128 * 16384 := by omega
                have h9 := HL2.out
                rw [if_pos (.inl hb1)] at h9
                rw [h9] at HO
                clear h9 hb1 HL2
                have hst := HQ.out.store Pk.zero nil0 nil0
                have HST := hid (HQ.out.pk.store (P' := Pk.zero) (nv' := nil0) (cv' := nil0) rfl rfl)
                have HS1 := hid hst.1
                have HS2 := hid hst.2
                clear hst
                go_wp2_with (first | (show wpList _ _ _ ({ dst := none, op := Op.store _ (.tmp 2) _, type := _, pos := _, after := _, guard := _ } :: _) _ _; refine wpList_store_by rfl (.tmp 2) (.tmp 57) rfl rfl (.pointer (some ⟨w.heap.size, 0, none⟩)) (.agg (pkCells Pk.zero nil0 nil0)) rfl rfl HST.out ?_) | fail)
                refine ret12 HS1.out rfl rfl rfl ?_
                rw [HO.out]
                exact ⟨HS2.out, rfl⟩
              have hd1 : decide ((16384 : Int) < (N : Int) + (c.toNat : Int) % 128 * 16384) = false := decide_eq_false (by omega)
              have hz1 : ¬ (16384 : Int) < (N : Int) + (c.toNat : Int) % 128 * 16384 := by omega
              by_cases hc1 : c.toNat < 128
              · have hd2 : decide ((128 : Int) ≤ (c.toNat : Int)) = false := decide_eq_false (by omega)
                have hz2 : ¬ (128 : Int) ≤ (c.toNat : Int) := by omega
                have h9 := HL2.out
                rw [if_neg (by omega), if_pos hc1] at h9
                by_cases hc0 : c.toNat = 0
                · have hd3 : ((c.toNat : Int) == 0) = true := by rw [beq_iff_eq]; omega
                  rw [if_neg (by omega)] at h9
                  rw [h9] at HO
                  clear h9 HL2 hb1 hc1 hc0
                  have hst := HQ.out.store Pk.zero nil0 nil0
                  have HST := hid (HQ.out.pk.store (P' := Pk.zero) (nv' := nil0) (cv' := nil0) rfl rfl)
                  have HS1 := hid hst.1
                  have HS2 := hid hst.2
                  clear hst
                  go_wp2_with (first | (show wpList _ _ _ ({ dst := none, op := Op.store _ (.tmp 2) _, type := _, pos := _, after := _, guard := _ } :: _) _ _; refine wpList_store_by rfl (.tmp 2) (.tmp 68) rfl rfl (.pointer (some ⟨w.heap.size, 0, none⟩)) (.agg (pkCells Pk.zero nil0 nil0)) rfl rfl HST.out ?_) | fail)
                  refine ret12 HS1.out rfl rfl rfl ?_
                  rw [HO.out]
                  exact ⟨HS2.out, rfl⟩
                · have hd3 : ((c.toNat : Int) == 0) = false := by rw [beq_eq_false_iff_ne]; omega
                  rw [if_pos (.inr hc0)] at h9
                  have H9 := hid h9
                  clear h9 HL2 hb1 hc1 hc0
                  go_wp2_with fail
                  go_round
                  case rel => exact .inr ⟨N + c.toNat % 128 * 16384, 3, rfl, by go_num, by go_num, by rw [H9.out]⟩
                  case measure => simp [intOf]
              · have hd2 : decide ((128 : Int) ≤ (c.toNat : Int)) = true := decide_eq_true (by omega)
                have hz2 : (128 : Int) ≤ (c.toNat : Int) := by omega
                have h9 := HL2.out
                rw [if_pos (by omega)] at h9
                rw [h9] at HO
                clear h9 HL2 hb1 hc1
                have hst := HQ.out.store Pk.zero nil0 nil0
                have HST := hid (HQ.out.pk.store (P' := Pk.zero) (nv' := nil0) (cv' := nil0) rfl rfl)
                have HS1 := hid hst.1
                have HS2 := hid hst.2
                clear hst
                go_wp2_with (first | (show wpList _ _ _ ({ dst := none, op := Op.store _ (.tmp 2) _, type := _, pos := _, after := _, guard := _ } :: _) _ _; refine wpList_store_by rfl (.tmp 2) (.tmp 57) rfl rfl (.pointer (some ⟨w.heap.size, 0, none⟩)) (.agg (pkCells Pk.zero nil0 nil0)) rfl rfl HST.out ?_) | fail)
                refine ret12 HS1.out rfl rfl rfl ?_
                rw [HO.out]
                exact ⟨HS2.out, rfl⟩
        · as_aux_lemma =>
          have hg := Mp.len_got t 3 0 0 n wd (by rw [← HL.out]; exact hl)
          rw [hl] at HO
          replace HO : Hid (O = if (h :: t).length < 1 + wd + n then .more else match Mp.body k f (((h :: t).drop (1 + wd)).take n) with | none => .proto | some p => .ok p (1 + wd + n)) := HO
          clear HL hl
          by_cases hlt : (h :: t).length < 1 + wd + n
          · rw [if_pos hlt] at HO
            simp only [List.length_cons] at hlt
            have hd : decide ((t.length : Int) + 1 - ((wd : Int) + 1) < (n : Int)) = true := decide_eq_true (by omega)
            have hz1 : (t.length : Int) + 1 - ((wd : Int) + 1) < (n : Int) := by omega
            have hst := HQ.out.store Pk.zero nil0 nil0
            have HST := hid (HQ.out.pk.store (P' := Pk.zero) (nv' := nil0) (cv' := nil0) rfl rfl)
            have HS1 := hid hst.1
            have HS2 := hid hst.2
            clear hst
            go_wp2_with (first | (show wpList _ _ _ ({ dst := none, op := Op.store _ (.tmp 2) _, type := _, pos := _, after := _, guard := _ } :: _) _ _; refine wpList_store_by rfl (.tmp 2) (.tmp 79) rfl rfl (.pointer (some ⟨w.heap.size, 0, none⟩)) (.agg (pkCells Pk.zero nil0 nil0)) rfl rfl HST.out ?_) | fail)
            refine ret12 HS1.out rfl rfl rfl ?_
            rw [HO.out]
            exact ⟨HS2.out, rfl⟩
          · rw [if_neg hlt] at HO
            simp only [List.length_cons] at hlt
            have hd : decide ((t.length : Int) + 1 - ((wd : Int) + 1) < (n : Int)) = false := decide_eq_false (by omega)
            have hz1 : ¬ (t.length : Int) + 1 - ((wd : Int) + 1) < (n : Int) := by omega
            obtain ⟨x, hx⟩ : ∃ x, x = ((h :: t).drop (1 + wd)).take n := ⟨_, rfl⟩
            rw [← hx] at HO
            have hxl : x.length ≤ 1048576 := by rw [hx, List.length_take]; omega
            have hsl : ∀ w' : World, (Instr.slice 9 (S (h :: t)) (some (.int .i64 ((wd : Int) + 1))) (some (.int .i64 ((wd : Int) + 1 + (n : Int)))) none).run Try.prog w' = .ok (S x) w' := fun w' => by
              have h1 := run_slice_string (P := Try.prog) w' 9 (str (h :: t)) .i64 .i64 ((wd : Int) + 1) ((wd : Int) + 1 + (n : Int)) Try.underlying9 (by omega) (by omega) (by rw [hz]; omega)
              rw [h1, show ((wd : Int) + 1).toNat = 1 + wd by omega, show ((wd : Int) + 1 + (n : Int)).toNat = 1 + wd + n by omega, str_extract, hx, show 1 + wd + n - (1 + wd) = n by omega]
            have hrd := fun w' => read_any w' k f x hxl hkk hf
            have hag := Rp.read_ok k f x
            generalize Rp.read k f x = y at *
            have HRD := hid hrd
            have HAG := hid hag
            clear hx hrd hag hxl
            go_upto_region 26 with (first | (go_at_call 25; refine (HRD.out _).mono ?_; rintro e w2 ⟨hb2, nv, cv, rfl, hn2, hc2⟩; have HB2 := hid hb2; have HN2 := hid hn2; have HC2 := hid hc2; clear hb2 hn2 hc2) | (show wpList _ _ _ ({ dst := none, op := Op.store _ (.tmp 12) _, type := _, pos := _, after := _, guard := _ } :: _) _ _; refine wpList_store_by rfl (.tmp 12) (.tmp 90) rfl rfl (.pointer (some ⟨w2.heap.size, 0, none⟩)) (.agg (pkCells y.1 nv cv)) rfl rfl ((pk_box (w := w2) (P := Pk.zero) (nv := nil0) (cv := nil0)).store (by obtain ⟨_, _, rfl⟩ := own_form HN2.out; rfl) (by obtain ⟨_, _, rfl⟩ := own_form HC2.out; rfl)) ?_) | fail)
            obtain ⟨s1, s2⟩ := stored25 w2 y.1 nv cv
            have hon := own_below HN2.out s2
            have hoc := own_below HC2.out s2
            have hq2 := (HQ.out.on HB2.out).on s2
            have hwq := HQ.out.below.size
            have hwq2 : w.heap.size < wq.heap.size := HQ.out.pk.lt
            have hbs := HB2.out.size
            generalize (w2.alloc (.cells (pkCells Pk.zero nil0 nil0) 25)).setCells w2.heap.size 0 (pkCells y.1 nv cv).toList = w3 at *
            generalize w2.heap.size = q2 at *
            have HS := hid s1
            have HON := hid hon
            have HOC := hid hoc
            have HQ2 := hid hq2
            clear s1 s2 hon hoc hq2 HN2 HC2 HB2 HRD HQ hsl
            have HQ := HQ2
            clear HQ2
            obtain ⟨yp, yb⟩ := y
            simp only at HS HON HOC HAG
            cases hbd : Mp.body k f x with
            | none =>
              rw [hbd] at HO HAG
              obtain rfl : yb = false := HAG.out
              clear hbd HAG
              have hst := HQ.out.store Pk.zero nil0 nil0
              have HST := hid (HQ.out.pk.store (P' := Pk.zero) (nv' := nil0) (cv' := nil0) rfl rfl)
              have HS1 := hid hst.1
              have HS2 := hid hst.2
              clear hst
              go_wp2_with (first | (show wpList _ _ _ ({ dst := none, op := Op.store _ (.tmp 2) _, type := _, pos := _, after := _, guard := _ } :: _) _ _; refine wpList_store_by rfl (.tmp 2) (.tmp 94) rfl rfl (.pointer (some ⟨w.heap.size, 0, none⟩)) (.agg (pkCells Pk.zero nil0 nil0)) rfl rfl HST.out ?_) | fail)
              refine ret12 HS1.out rfl rfl rfl ?_
              rw [HO.out]
              exact ⟨HS2.out, rfl⟩
            | some P =>
              rw [hbd] at HO HAG
              have hyp : (yp, yb) = (P, true) := HAG.out
              obtain ⟨rfl, rfl⟩ := Prod.mk.inj hyp
              clear hbd HAG hyp
              have LD := hid HS.out.load
              have hn1 : nv.oneCell' = true := by obtain ⟨_, _, rfl⟩ := own_form HON.out; rfl
              have hc1 : cv.oneCell' = true := by obtain ⟨_, _, rfl⟩ := own_form HOC.out; rfl
              have hst := HQ.out.store yp nv cv
              have HST := hid (HQ.out.pk.store (P' := yp) (nv' := nv) (cv' := cv) hn1 hc1)
              have HS1 := hid hst.1
              have HS2 := hid hst.2
              have HN4 := hid (own_setCells (b := w.heap.size) (vs := (pkCells yp nv cv).toList) (o := 0) HON.out (fun k hk => by have := (own_lt HON.out k hk).1; omega))
              have HC4 := hid (own_setCells (b := w.heap.size) (vs := (pkCells yp nv cv).toList) (o := 0) HOC.out (fun k hk => by have := (own_lt HOC.out k hk).1; omega))
              clear hst hn1 hc1
              go_wp2_with (first | (show wpList _ _ _ ({ dst := some 95, op := _, type := _, pos := _, after := _, guard := _ } :: _) _ _; refine wpList_load_by rfl (.tmp 12) rfl (.pointer (some ⟨q2, 0, none⟩)) rfl LD.out ?_) | (show wpList _ _ _ ({ dst := none, op := Op.store _ (.tmp 2) _, type := _, pos := _, after := _, guard := _ } :: _) _ _; refine wpList_store_by rfl (.tmp 2) (.tmp 95) rfl rfl (.pointer (some ⟨w.heap.size, 0, none⟩)) (.agg (pkCells yp nv cv)) rfl rfl HST.out ?_) | fail)
              refine ret12 HS1.out rfl rfl rfl ?_
              rw [HO.out]
              refine ⟨HS2.out, nv, cv, ?_, own_anew HN4.out (fun k hk => by have := (own_lt HN4.out k hk).1; omega), own_anew HC4.out (fun k hk => by have := (own_lt HC4.out k hk).1; omega)⟩
              rw [show ((1 + wd + n : Nat) : Int) = (wd : Int) + 1 + (n : Int) by omega]
              rfl
end Go.Proofs.Ytnljmllkfmgclaa
