/-
  TapeClears: the walk. Conditions: none beyond the given row's.
-/
import Derived.Test.YtoaeapnkefjpaaaTapeL2
import Derived.Test.YtoaeapnkefjpaaaTapeW3
namespace Go.Proofs.Ytoaeapnkefjpaaa
open Go.RowKit
set_option linter.unusedVariables false
set_option linter.unusedSimpArgs false

theorem tst_open_on {w0 w : World} {own : Nat → Prop} {p : Nat} {D : DS} {lo hi : Nat} {recs : List (List UInt8)} (h : St w0 own p D w) (ho : TS.On D lo hi recs) :
    Calls Try.prog 65 #[.pointer (some ⟨p, 0, none⟩), I lo, I hi] w fun e w' => ∃ t v, e = .returned (.tuple #[.pointer (some ⟨t, 0, none⟩), v, I 0]) ∧
      TSt w0 own p t ⟨lo, hi, (TS.encs 0 recs).length, recs.length, 0⟩ D w' ∧ w.heap.size ≤ t ∧ Recs w' (t + 1) v recs ∧ Below w.heap.size w w' := by
  have hn := h.at'.ok.n2
  have := tst_open h lo hi (by have := ho.lt; have := ho.le; omega) (by have := ho.lt; have := ho.le; omega)
  rw [ho.opn] at this
  refine this.mono fun e w' hx => ?_
  rcases hx with ⟨h1, -⟩ | ⟨-, t, v, h1, h2, h3, h4, h5⟩
  · exact absurd rfl h1
  · exact ⟨t, v, h1, h2, h3, h4, h5⟩
theorem tst_append_on {w0 w : World} {own : Nat → Prop} {p t : Nat} {T : TS} {D : DS} {recs : List (List UInt8)} (h : TSt w0 own p t T D w) (hh : TS.Holds D T recs) {v : Value} {r : List UInt8} (hv : Sees w v r) (hr : r.length ≤ 65536) (hs : T.pos + 12 + r.length ≤ T.size) (hN : D.waits.length ≤ 800000000) :
    Calls Try.prog 66 #[.pointer (some ⟨t, 0, none⟩), v] w fun e w' => e = .returned (I 0) ∧ ∃ own' T' D', TSt w0 own' p t T' D' w' ∧ TS.Holds D' T' (recs ++ [r]) ∧ T'.lo = T.lo ∧ T'.hi = T.hi ∧ T'.pos = T.pos + 12 + r.length ∧ D'.waits.length ≤ D.waits.length + 400 ∧ D'.safe.length = D.safe.length := by
  obtain ⟨h1, h2, h3, h4, h5⟩ := hh.append hr hs
  refine (tst_append h hv hN).mono fun e w' hx => ?_
  obtain ⟨k1, own', k2, -⟩ := hx
  rw [h1] at k1
  exact ⟨k1, own', _, _, k2, h2, h3, h4, h5, TS.append_waits D T r, TS.append_len D T r⟩
/-- Between two rounds of TapeClears. -/
def ClOut (w : World) (p k : Nat) (wr : World) : Prop := ∃ own D recs, St w own p D wr ∧ TS.On D 0 80 recs ∧ (k = 0 → recs = []) ∧ D.waits.length ≤ 20000 * k
/-- Between two records. -/
def ClIn (w : World) (p t k : Nat) (L : List (List UInt8)) (i : Nat) (wr : World) : Prop := ∃ own T D, TSt w own p t T D wr ∧ TS.Holds D T (L.take i) ∧ T.lo = 0 ∧ T.hi = 80 ∧ T.pos ≤ 612 * i ∧ D.waits.length ≤ 20000 * k + 1 + 400 * i
set_option maxRecDepth 100000 in
set_option maxHeartbeats 3200000 in
theorem clears_walk (w : World) (a0 : Option Addr) (cap0 : Nat) (L0 : List (List UInt8)) (h0 : Shows w (.slice a0 L0.length cap0) L0) (a1 : Option Addr) (cap1 : Nat) (L1 : List (List UInt8)) (h1 : Shows w (.slice a1 L1.length cap1) L1) :
    Calls Try.prog 18 #[.slice a0 L0.length cap0, .slice a1 L1.length cap1] w fun e w' => e = .returned (.bool true) ∧ Below w.heap.size w w' := by
  have H0 := hid h0
  have H1 := hid h1
  obtain ⟨_, _, _, m0⟩ := h0.len
  obtain ⟨_, _, _, m1⟩ := h1.len
  unfold maxLen at m0 m1
  clear h0 h1
  have hcases : 30 < L0.length ∨ (L0.length ≤ 30 ∧ 30 < L1.length) ∨ (L0.length ≤ 30 ∧ L1.length ≤ 30) := by omega
  rcases hcases with c | ⟨c, d⟩ | ⟨c, d⟩
  · have e0 : decide ((30 : Int) < (L0.length : Int)) = true := decide_eq_true (by omega)
    go_enter Try.func18, Try.ntmps18
    go_wp2_with (go_at_call 64; refine (wakes4_any _).mono ?_; rintro e w1 ⟨rfl, hb⟩; have HB := hid hb; clear hb)
    go_ret
    exact ⟨rfl, HB.out⟩
  · have e0 : decide ((30 : Int) < (L0.length : Int)) = false := decide_eq_false (by omega)
    have e1 : decide ((30 : Int) < (L1.length : Int)) = true := decide_eq_true (by omega)
    go_enter Try.func18, Try.ntmps18
    go_wp2_with (go_at_call 64; refine (wakes4_any _).mono ?_; rintro e w1 ⟨rfl, hb⟩; have HB := hid hb; clear hb)
    go_ret
    exact ⟨rfl, HB.out⟩
  · have e0 : decide ((30 : Int) < (L0.length : Int)) = false := decide_eq_false (by omega)
    have e1 : decide ((30 : Int) < (L1.length : Int)) = false := decide_eq_false (by omega)
    go_enter Try.func18, Try.ntmps18
    go_wp2_with (first | (go_at_call 64; refine (wakes4_any _).mono ?_; rintro e w1 ⟨rfl, hb⟩; have HB := hid hb; clear hb) | (go_at_call 36; refine (st_new _ 80 (by omega)).mono ?_; rintro e w2 ⟨p, own, rfl, h⟩; have HS := hid (show St w own p (DS.new 80) w2 from h.back HB.out); clear h HB))
    clear e0 e1
    go_loopw [6] (fun i wr => ∃ k : Nat, k ≤ 2 ∧ i = I k ∧ Hid (ClOut w p k wr)) (fun i _ => 2 - (intOf i).toNat)
    case atStart => exact ⟨0, by omega, rfl, hid ⟨own, _, _, HS.out, TS.On.new (by omega) (by omega) (by omega) (by omega), fun _ => rfl, by decide⟩⟩
    case round =>
      clear HS
      obtain ⟨k, hk, rfl, HK⟩ := hrel
      have hk3 : k = 0 ∨ k = 1 ∨ k = 2 := by omega
      rcases hk3 with rfl | rfl | rfl
      rotate_left 2
      · go_wp2
        go_ret
        obtain ⟨ow, D, rc, h1, -⟩ := HK.out
        exact ⟨rfl, h1.below⟩
      -- ROUNDS
      · skip
        obtain ⟨ow, D, rc, hst, hon, hrc, hwt⟩ := HK.out
        obtain rfl := hrc rfl
        have hop := tst_open_on (lo := 0) (hi := 80) hst hon
        have hop' : Calls Try.prog 65 #[.pointer (some ⟨p, 0, none⟩), I 0, I 80] wr _ := hop
        have HOP := hid hop'
        have HON := hid hon
        have HWT : Hid (D.waits.length ≤ 20000 * 0 + 1) := hid (by omega)
        clear hop hop' hst hon hrc hwt
        go_wp2_with fail
        refine HOP.out.mono ?_
        rintro e w3 ⟨t, v, rfl, ht, hlt, hrc, hb⟩
        obtain ⟨ao, co, rfl⟩ := hrc.form
        have HIN : Hid (ClIn w p t 0 L0 0 w3) := hid ⟨ow, _, D, ht, by simpa using HON.out.holds, rfl, rfl, by simp [TS.encs], by have := HWT.out; omega⟩
        clear HOP HON HWT ht hlt hrc hb HK
        rw [List.length_nil]
        go_wp2
        go_loopw [54] (fun i wr => ∃ n : Nat, n ≤ L0.length ∧ i = I n ∧ Hid (ClIn w p t 0 L0 n wr)) (fun i _ => L0.length - (intOf i).toNat)
        case atStart => exact ⟨0, by omega, rfl, HIN⟩
        case round =>
          clear HIN
          obtain ⟨n, hn, rfl, HIN⟩ := hrel
          by_cases hlt : n < L0.length
          · obtain ⟨r, hr⟩ : ∃ r, L0[n]? = some r := ⟨_, List.getElem?_eq_getElem hlt⟩
            obtain ⟨g, off, u, hga, hc, hs⟩ := H0.out.at hr
            obtain ⟨oi, T, Di, hti, hho, hlo, hhi, hps, hwt⟩ := HIN.out
            have hbw := hti.drum.below
            have hc' := (World.cell?_of_block (w := w) (a := ⟨g, off + n, none⟩) (hbw.block g (cell_lt hc))).trans hc
            have hs' := hs.below hbw
            obtain ⟨au, cu, rfl, hul⟩ := hs'.form0
            have HBW := hid hbw
            by_cases h6 : 600 < r.length
            · have h6' : decide ((600 : Int) < (r.length : Int)) = true := decide_eq_true (by omega)
              subst hga
              clear hti hho hlo hhi hps hwt hs' hbw
              go_wp2
              go_ret
              exact ⟨rfl, HBW.out⟩
            · have h6' : decide ((600 : Int) < (r.length : Int)) = false := decide_eq_false (by omega)
              have hsz : T.size = 80 * 256 := by unfold TS.size; rw [hlo, hhi]
              have hap := tst_append_on hti hho hs' (by omega) (by omega) (by omega)
              have HAP := hid hap
              have HNX := hid (fun (own' : Nat → Prop) (T' : TS) (D' : DS) (w' : World) (x1 : TSt w own' p t T' D' w') (x2 : TS.Holds D' T' (L0.take n ++ [r])) (x3 : T'.lo = T.lo) (x4 : T'.hi = T.hi) (x5 : T'.pos = T.pos + 12 + r.length) (x6 : D'.waits.length ≤ Di.waits.length + 400) =>
                (⟨own', T', D', x1, by rw [take_snoc hr]; exact x2, x3.trans hlo, x4.trans hhi, by omega, by omega⟩ : ClIn w p t 0 L0 (n + 1) w'))
              subst hga
              clear hti hho hlo hhi hps hwt hs' hbw hap hsz
              go_wp2_with (go_at_call 66; refine HAP.out.mono ?_; rintro e w4 ⟨rfl, own', T', D', x1, x2, x3, x4, x5, x6, x7⟩; have HI2 := hid (HNX.out own' T' D' w4 x1 x2 x3 x4 x5 x6); clear x1 x2 x3 x4 x5 x6 x7)
              go_roundw
              case rel => exact ⟨n + 1, by omega, by go_num, HI2⟩
              case measure => simp [intOf]; omega
          · have hnl : n = L0.length := by omega
            subst hnl
            obtain ⟨oi, T, Di, hti, hho, hlo, hhi, hps, hwt⟩ := HIN.out
            rw [List.take_length] at hho
            have hon := hho.on
            rw [hlo, hhi] at hon
            have hop := tst_open_on (lo := 0) (hi := 80) hti.drum hon
            have hop' : Calls Try.prog 65 #[.pointer (some ⟨p, 0, none⟩), I 0, I 80] wr _ := hop
            have HOP := hid hop'
            have HON := hid hon
            have HWT := hid hwt
            clear hop hop' hti hho hlo hhi hps hwt hon HIN
            go_wp2_with (go_at_call 65; refine HOP.out.mono ?_; rintro e w5 ⟨t2, v2, rfl, ht2, hlt2, hrc2, hb2⟩; obtain ⟨ao2, co2, rfl⟩ := hrc2.form; have HSH := hid hrc2.shows; have HT2 := hid ht2; clear ht2 hlt2 hrc2 hb2)
            have hal := alike_any w5 _ _ L0 L0 HSH.out (H0.out.below HT2.out.drum.below)
            rw [decide_eq_true rfl] at hal
            have HAL := hid hal
            clear hal
            go_wp2_with (go_at_call 67; refine HAL.out.mono ?_; rintro e w6 ⟨rfl, m6, rfl⟩)
            go_roundw
            case rel => exact ⟨0 + 1, by omega, by go_num, hid ⟨oi, Di, L0, HT2.out.drum.on (below_drewN _ _), HON.out, fun h => by omega, by have := HWT.out; omega⟩⟩
            case measure => simp [intOf]
      · skip
        obtain ⟨ow0, D0, rc, hst0, hon0, -, hwt⟩ := HK.out
        have hcl := tclear_any wr p ow0 D0 0 hst0.at' (by omega) (by omega)
        obtain ⟨hc1, hc2⟩ := TS.On.clear hon0.live hon0.lt hon0.le
        have hcw := DS.write_waits' D0 ((0 : Nat) : Int) page0
        have hz0 : ((0 : Nat) : Int) = 0 := rfl
        rw [hz0] at hc1 hc2 hcw
        rw [hc1] at hcl
        have HCL := hid hcl
        have HST0 := hid hst0
        have HC2 := hid hc2
        have HCW := hid (Nat.le_trans hcw (Nat.add_le_add_right hwt 1))
        clear hcl hst0 hon0 hwt hc1 hc2 hcw hz0
        go_wp2_with (go_at_call 68; refine HCL.out.mono ?_; rintro e wc ⟨rfl, hd⟩; have HD := hid hd; clear hd)
        obtain ⟨ow, hst, -⟩ := HST0.out.step' HD.out
        generalize (D0.write 0 page0).2 = D at *
        have hop := tst_open_on (lo := 0) (hi := 80) hst HC2.out
        have hop' : Calls Try.prog 65 #[.pointer (some ⟨p, 0, none⟩), I 0, I 80] wc _ := hop
        have HOP := hid hop'
        have HON := HC2
        have HWT : Hid (D.waits.length ≤ 20000 * 1 + 1) := hid (by have := HCW.out; omega)
        clear hop hop' hst HD HST0 HCL HC2 HCW
        refine HOP.out.mono ?_
        rintro e w3 ⟨t, v, rfl, ht, hlt, hrc, hb⟩
        obtain ⟨ao, co, rfl⟩ := hrc.form
        have HIN : Hid (ClIn w p t 1 L1 0 w3) := hid ⟨ow, _, D, ht, by simpa using HON.out.holds, rfl, rfl, by simp [TS.encs], by have := HWT.out; omega⟩
        clear HOP HON HWT ht hlt hrc hb HK
        rw [List.length_nil]
        go_wp2
        go_loopw [54] (fun i wr => ∃ n : Nat, n ≤ L1.length ∧ i = I n ∧ Hid (ClIn w p t 1 L1 n wr)) (fun i _ => L1.length - (intOf i).toNat)
        case atStart => exact ⟨0, by omega, rfl, HIN⟩
        case round =>
          clear HIN
          obtain ⟨n, hn, rfl, HIN⟩ := hrel
          by_cases hlt : n < L1.length
          · obtain ⟨r, hr⟩ : ∃ r, L1[n]? = some r := ⟨_, List.getElem?_eq_getElem hlt⟩
            obtain ⟨g, off, u, hga, hc, hs⟩ := H1.out.at hr
            obtain ⟨oi, T, Di, hti, hho, hlo, hhi, hps, hwt⟩ := HIN.out
            have hbw := hti.drum.below
            have hc' := (World.cell?_of_block (w := w) (a := ⟨g, off + n, none⟩) (hbw.block g (cell_lt hc))).trans hc
            have hs' := hs.below hbw
            obtain ⟨au, cu, rfl, hul⟩ := hs'.form0
            have HBW := hid hbw
            by_cases h6 : 600 < r.length
            · have h6' : decide ((600 : Int) < (r.length : Int)) = true := decide_eq_true (by omega)
              subst hga
              clear hti hho hlo hhi hps hwt hs' hbw
              go_wp2
              go_ret
              exact ⟨rfl, HBW.out⟩
            · have h6' : decide ((600 : Int) < (r.length : Int)) = false := decide_eq_false (by omega)
              have hsz : T.size = 80 * 256 := by unfold TS.size; rw [hlo, hhi]
              have hap := tst_append_on hti hho hs' (by omega) (by omega) (by omega)
              have HAP := hid hap
              have HNX := hid (fun (own' : Nat → Prop) (T' : TS) (D' : DS) (w' : World) (x1 : TSt w own' p t T' D' w') (x2 : TS.Holds D' T' (L1.take n ++ [r])) (x3 : T'.lo = T.lo) (x4 : T'.hi = T.hi) (x5 : T'.pos = T.pos + 12 + r.length) (x6 : D'.waits.length ≤ Di.waits.length + 400) =>
                (⟨own', T', D', x1, by rw [take_snoc hr]; exact x2, x3.trans hlo, x4.trans hhi, by omega, by omega⟩ : ClIn w p t 1 L1 (n + 1) w'))
              subst hga
              clear hti hho hlo hhi hps hwt hs' hbw hap hsz
              go_wp2_with (go_at_call 66; refine HAP.out.mono ?_; rintro e w4 ⟨rfl, own', T', D', x1, x2, x3, x4, x5, x6, x7⟩; have HI2 := hid (HNX.out own' T' D' w4 x1 x2 x3 x4 x5 x6); clear x1 x2 x3 x4 x5 x6 x7)
              go_roundw
              case rel => exact ⟨n + 1, by omega, by go_num, HI2⟩
              case measure => simp [intOf]; omega
          · have hnl : n = L1.length := by omega
            subst hnl
            obtain ⟨oi, T, Di, hti, hho, hlo, hhi, hps, hwt⟩ := HIN.out
            rw [List.take_length] at hho
            have hon := hho.on
            rw [hlo, hhi] at hon
            have hop := tst_open_on (lo := 0) (hi := 80) hti.drum hon
            have hop' : Calls Try.prog 65 #[.pointer (some ⟨p, 0, none⟩), I 0, I 80] wr _ := hop
            have HOP := hid hop'
            have HON := hid hon
            have HWT := hid hwt
            clear hop hop' hti hho hlo hhi hps hwt hon HIN
            go_wp2_with (go_at_call 65; refine HOP.out.mono ?_; rintro e w5 ⟨t2, v2, rfl, ht2, hlt2, hrc2, hb2⟩; obtain ⟨ao2, co2, rfl⟩ := hrc2.form; have HSH := hid hrc2.shows; have HT2 := hid ht2; clear ht2 hlt2 hrc2 hb2)
            have hal := alike_any w5 _ _ L1 L1 HSH.out (H1.out.below HT2.out.drum.below)
            rw [decide_eq_true rfl] at hal
            have HAL := hid hal
            clear hal
            go_wp2_with (go_at_call 67; refine HAL.out.mono ?_; rintro e w6 ⟨rfl, m6, rfl⟩)
            go_roundw
            case rel => exact ⟨1 + 1, by omega, by go_num, hid ⟨oi, Di, L1, HT2.out.drum.on (below_drewN _ _), HON.out, fun h => by omega, by have := HWT.out; omega⟩⟩
            case measure => simp [intOf]
namespace tapeClears
theorem walkAll (a0 : Option Addr) (cap0 : Nat) (L0 : List (List UInt8)) {w : World} (h0 : Shows w (.slice a0 L0.length cap0) L0) (a1 : Option Addr) (cap1 : Nat) (L1 : List (List UInt8)) (h1 : Shows w (.slice a1 L1.length cap1) L1) (w' : World) (e : w = w') :
    Calls Try.prog 18 #[.slice a0 L0.length cap0, .slice a1 L1.length cap1] w' fun e w'' => e = .returned (.bool true) ∧ Below w'.heap.size w' w'' := by
  subst e
  exact clears_walk w a0 cap0 L0 h0 a1 cap1 L1 h1
end tapeClears
end Go.Proofs.Ytoaeapnkefjpaaa
