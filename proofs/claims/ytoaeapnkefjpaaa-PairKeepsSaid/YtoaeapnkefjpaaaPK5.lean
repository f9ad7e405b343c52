/-
  Part 5 of what PairFull, PairTurns lean on: contracts of the functions that they reach, and plain lemmas. Conditions: those that each lemma names.
-/
import Derived.Lib.AppendStr
import Derived.Deep.DeepMust
import Derived.Test.YtoaeapnkefjpaaaPK3
import Derived.Test.YtoaeapnkefjpaaaPK4
namespace Go.Proofs.Ytoaeapnkefjpaaa
open Go.RowKit
set_option linter.unusedVariables false
set_option linter.unusedSimpArgs false

theorem tst_open_on {w0 w : World} {own : Nat → Prop} {p : Nat} {D : DS} {lo hi : Nat} {recs : List (List UInt8)} (h : St w0 own p D w) (ho : TS.On D lo hi recs) :
    Calls Try.prog 65 #[.pointer (some ⟨p, 0, none⟩), I lo, I hi] w fun e w' => ∃ t v, e = .returned (.tuple #[.pointer (some ⟨t, 0, none⟩), v, I 0]) ∧
      TSt w0 own p t ⟨lo, hi, (TS.encs 0 recs).length, recs.length, 0⟩ D w' ∧ w.heap.size ≤ t ∧ Recs w' (t + 1) v recs ∧ Below w.heap.size w w' := by
  have hn := h.at'.ok.n2
  have := tst_open h lo hi (by have := ho.lt; have := ho.le; omega) (by have := ho.lt; have := ho.le; omega)
  rw [ho.opn] at this
  refine this.mono fun e w' hx => ?_
  rcases hx with ⟨h1, -⟩ | ⟨-, t, v, h1, h2, h3, h4, h5⟩
  · exact absurd rfl h1
  · exact ⟨t, v, h1, h2, h3, h4, h5⟩
theorem tst_append_on {w0 w : World} {own : Nat → Prop} {p t : Nat} {T : TS} {D : DS} {recs : List (List UInt8)} (h : TSt w0 own p t T D w) (hh : TS.Holds D T recs) {v : Value} {r : List UInt8} (hv : Sees w v r) (hr : r.length ≤ 65536) (hs : T.pos + 12 + r.length ≤ T.size) (hN : D.waits.length ≤ 800000000) :
    Calls Try.prog 66 #[.pointer (some ⟨t, 0, none⟩), v] w fun e w' => e = .returned (I 0) ∧ ∃ own' T' D', TSt w0 own' p t T' D' w' ∧ TS.Holds D' T' (recs ++ [r]) ∧ T'.lo = T.lo ∧ T'.hi = T.hi ∧ T'.pos = T.pos + 12 + r.length ∧ D'.waits.length ≤ D.waits.length + 400 ∧ D'.safe.length = D.safe.length := by
  obtain ⟨h1, h2, h3, h4, h5⟩ := hh.append hr hs
  refine (tst_append h hv hN).mono fun e w' hx => ?_
  obtain ⟨k1, own', k2, -⟩ := hx
  rw [h1] at k1
  exact ⟨k1, own', _, _, k2, h2, h3, h4, h5, TS.append_waits D T r, TS.append_len D T r⟩
/-- Between two rounds of TapeClears. -/
def ClOut (w : World) (p k : Nat) (wr : World) : Prop := ∃ own D recs, St w own p D wr ∧ TS.On D 0 80 recs ∧ (k = 0 → recs = []) ∧ D.waits.length ≤ 20000 * k
/-- Between two records. -/
def ClIn (w : World) (p t k : Nat) (L : List (List UInt8)) (i : Nat) (wr : World) : Prop := ∃ own T D, TSt w own p t T D wr ∧ TS.Holds D T (L.take i) ∧ T.lo = 0 ∧ T.hi = 80 ∧ T.pos ≤ 612 * i ∧ D.waits.length ≤ 20000 * k + 1 + 400 * i
set_option maxRecDepth 100000 in
set_option maxHeartbeats 3200000 in
theorem clears_walk (w : World) (a0 : Option Addr) (cap0 : Nat) (L0 : List (List UInt8)) (h0 : Shows w (.slice a0 L0.length cap0) L0) (a1 : Option Addr) (cap1 : Nat) (L1 : List (List UInt8)) (h1 : Shows w (.slice a1 L1.length cap1) L1) :
    Calls Try.prog 18 #[.slice a0 L0.length cap0, .slice a1 L1.length cap1] w fun e w' => e = .returned (.bool true) ∧ Below w.heap.size w w' := by
  have H0 := hid h0
  have H1 := hid h1
  obtain ⟨_, _, _, m0⟩ := h0.len
  obtain ⟨_, _, _, m1⟩ := h1.len
  unfold maxLen at m0 m1
  clear h0 h1
  have hcases : 30 < L0.length ∨ (L0.length ≤ 30 ∧ 30 < L1.length) ∨ (L0.length ≤ 30 ∧ L1.length ≤ 30) := by omega
  rcases hcases with c | ⟨c, d⟩ | ⟨c, d⟩
  · have e0 : decide ((30 : Int) < (L0.length : Int)) = true := decide_eq_true (by omega)
    go_enter Try.func18, Try.ntmps18
    go_wp2_with (go_at_call 64; refine (wakes4_any _).mono ?_; rintro e w1 ⟨rfl, hb⟩; have HB := hid hb; clear hb)
    go_ret
    exact ⟨rfl, HB.out⟩
  · have e0 : decide ((30 : Int) < (L0.length : Int)) = false := decide_eq_false (by omega)
    have e1 : decide ((30 : Int) < (L1.length : Int)) = true := decide_eq_true (by omega)
    go_enter Try.func18, Try.ntmps18
    go_wp2_with (go_at_call 64; refine (wakes4_any _).mono ?_; rintro e w1 ⟨rfl, hb⟩; have HB := hid hb; clear hb)
    go_ret
    exact ⟨rfl, HB.out⟩
  · have e0 : decide ((30 : Int) < (L0.length : Int)) = false := decide_eq_false (by omega)
    have e1 : decide ((30 : Int) < (L1.length : Int)) = false := decide_eq_false (by omega)
    go_enter Try.func18, Try.ntmps18
    go_wp2_with (first | (go_at_call 64; refine (wakes4_any _).mono ?_; rintro e w1 ⟨rfl, hb⟩; have HB := hid hb; clear hb) | (go_at_call 36; refine (st_new _ 80 (by omega)).mono ?_; rintro e w2 ⟨p, own, rfl, h⟩; have HS := hid (show St w own p (DS.new 80) w2 from h.back HB.out); clear h HB))
    clear e0 e1
    go_loopw [6] (fun i wr => ∃ k : Nat, k ≤ 2 ∧ i = I k ∧ Hid (ClOut w p k wr)) (fun i _ => 2 - (intOf i).toNat)
    case atStart => exact ⟨0, by omega, rfl, hid ⟨own, _, _, HS.out, TS.On.new (by omega) (by omega) (by omega) (by omega), fun _ => rfl, by decide⟩⟩
    case round =>
      clear HS
      obtain ⟨k, hk, rfl, HK⟩ := hrel
      have hk3 : k = 0 ∨ k = 1 ∨ k = 2 := by omega
      rcases hk3 with rfl | rfl | rfl
      rotate_left 2
      · go_wp2
        go_ret
        obtain ⟨ow, D, rc, h1, -⟩ := HK.out
        exact ⟨rfl, h1.below⟩
      -- ROUNDS
      · skip
        obtain ⟨ow, D, rc, hst, hon, hrc, hwt⟩ := HK.out
        obtain rfl := hrc rfl
        have hop := tst_open_on (lo := 0) (hi := 80) hst hon
        have hop' : Calls Try.prog 65 #[.pointer (some ⟨p, 0, none⟩), I 0, I 80] wr _ := hop
        have HOP := hid hop'
        have HON := hid hon
        have HWT : Hid (D.waits.length ≤ 20000 * 0 + 1) := hid (by omega)
        clear hop hop' hst hon hrc hwt
        go_wp2_with fail
        refine HOP.out.mono ?_
        rintro e w3 ⟨t, v, rfl, ht, hlt, hrc, hb⟩
        obtain ⟨ao, co, rfl⟩ := hrc.form
        have HIN : Hid (ClIn w p t 0 L0 0 w3) := hid ⟨ow, _, D, ht, by simpa using HON.out.holds, rfl, rfl, by simp [TS.encs], by have := HWT.out; omega⟩
        clear HOP HON HWT ht hlt hrc hb HK
        rw [List.length_nil]
        go_wp2
        go_loopw [54] (fun i wr => ∃ n : Nat, n ≤ L0.length ∧ i = I n ∧ Hid (ClIn w p t 0 L0 n wr)) (fun i _ => L0.length - (intOf i).toNat)
        case atStart => exact ⟨0, by omega, rfl, HIN⟩
        case round =>
          clear HIN
          obtain ⟨n, hn, rfl, HIN⟩ := hrel
          by_cases hlt : n < L0.length
          · obtain ⟨r, hr⟩ : ∃ r, L0[n]? = some r := ⟨_, List.getElem?_eq_getElem hlt⟩
            obtain ⟨g, off, u, hga, hc, hs⟩ := H0.out.at hr
            obtain ⟨oi, T, Di, hti, hho, hlo, hhi, hps, hwt⟩ := HIN.out
            have hbw := hti.drum.below
            have hc' := (World.cell?_of_block (w := w) (a := ⟨g, off + n, none⟩) (hbw.block g (cell_lt hc))).trans hc
            have hs' := hs.below hbw
            obtain ⟨au, cu, rfl, hul⟩ := hs'.form0
            have HBW := hid hbw
            by_cases h6 : 600 < r.length
            · have h6' : decide ((600 : Int) < (r.length : Int)) = true := decide_eq_true (by omega)
              subst hga
              clear hti hho hlo hhi hps hwt hs' hbw
              go_wp2
              go_ret
              exact ⟨rfl, HBW.out⟩
            · have h6' : decide ((600 : Int) < (r.length : Int)) = false := decide_eq_false (by omega)
              have hsz : T.size = 80 * 256 := by unfold TS.size; rw [hlo, hhi]
              have hap := tst_append_on hti hho hs' (by omega) (by omega) (by omega)
              have HAP := hid hap
              have HNX := hid (fun (own' : Nat → Prop) (T' : TS) (D' : DS) (w' : World) (x1 : TSt w own' p t T' D' w') (x2 : TS.Holds D' T' (L0.take n ++ [r])) (x3 : T'.lo = T.lo) (x4 : T'.hi = T.hi) (x5 : T'.pos = T.pos + 12 + r.length) (x6 : D'.waits.length ≤ Di.waits.length + 400) =>
                (⟨own', T', D', x1, by rw [take_snoc hr]; exact x2, x3.trans hlo, x4.trans hhi, by omega, by omega⟩ : ClIn w p t 0 L0 (n + 1) w'))
              subst hga
              clear hti hho hlo hhi hps hwt hs' hbw hap hsz
              go_wp2_with (go_at_call 66; refine HAP.out.mono ?_; rintro e w4 ⟨rfl, own', T', D', x1, x2, x3, x4, x5, x6, x7⟩; have HI2 := hid (HNX.out own' T' D' w4 x1 x2 x3 x4 x5 x6); clear x1 x2 x3 x4 x5 x6 x7)
              go_roundw
              case rel => exact ⟨n + 1, by omega, by go_num, HI2⟩
              case measure => simp [intOf]; omega
          · have hnl : n = L0.length := by omega
            subst hnl
            obtain ⟨oi, T, Di, hti, hho, hlo, hhi, hps, hwt⟩ := HIN.out
            rw [List.take_length] at hho
            have hon := hho.on
            rw [hlo, hhi] at hon
            have hop := tst_open_on (lo := 0) (hi := 80) hti.drum hon
            have hop' : Calls Try.prog 65 #[.pointer (some ⟨p, 0, none⟩), I 0, I 80] wr _ := hop
            have HOP := hid hop'
            have HON := hid hon
            have HWT := hid hwt
            clear hop hop' hti hho hlo hhi hps hwt hon HIN
            go_wp2_with (go_at_call 65; refine HOP.out.mono ?_; rintro e w5 ⟨t2, v2, rfl, ht2, hlt2, hrc2, hb2⟩; obtain ⟨ao2, co2, rfl⟩ := hrc2.form; have HSH := hid hrc2.shows; have HT2 := hid ht2; clear ht2 hlt2 hrc2 hb2)
            have hal := alike_any w5 _ _ L0 L0 HSH.out (H0.out.below HT2.out.drum.below)
            rw [decide_eq_true rfl] at hal
            have HAL := hid hal
            clear hal
            go_wp2_with (go_at_call 67; refine HAL.out.mono ?_; rintro e w6 ⟨rfl, m6, rfl⟩)
            go_roundw
            case rel => exact ⟨0 + 1, by omega, by go_num, hid ⟨oi, Di, L0, HT2.out.drum.on (below_drewN _ _), HON.out, fun h => by omega, by have := HWT.out; omega⟩⟩
            case measure => simp [intOf]
      · skip
        obtain ⟨ow0, D0, rc, hst0, hon0, -, hwt⟩ := HK.out
        have hcl := tclear_any wr p ow0 D0 0 hst0.at' (by omega) (by omega)
        obtain ⟨hc1, hc2⟩ := TS.On.clear hon0.live hon0.lt hon0.le
        have hcw := DS.write_waits' D0 ((0 : Nat) : Int) page0
        have hz0 : ((0 : Nat) : Int) = 0 := rfl
        rw [hz0] at hc1 hc2 hcw
        rw [hc1] at hcl
        have HCL := hid hcl
        have HST0 := hid hst0
        have HC2 := hid hc2
        have HCW := hid (Nat.le_trans hcw (Nat.add_le_add_right hwt 1))
        clear hcl hst0 hon0 hwt hc1 hc2 hcw hz0
        go_wp2_with (go_at_call 68; refine HCL.out.mono ?_; rintro e wc ⟨rfl, hd⟩; have HD := hid hd; clear hd)
        obtain ⟨ow, hst, -⟩ := HST0.out.step' HD.out
        generalize (D0.write 0 page0).2 = D at *
        have hop := tst_open_on (lo := 0) (hi := 80) hst HC2.out
        have hop' : Calls Try.prog 65 #[.pointer (some ⟨p, 0, none⟩), I 0, I 80] wc _ := hop
        have HOP := hid hop'
        have HON := HC2
        have HWT : Hid (D.waits.length ≤ 20000 * 1 + 1) := hid (by have := HCW.out; omega)
        clear hop hop' hst HD HST0 HCL HC2 HCW
        refine HOP.out.mono ?_
        rintro e w3 ⟨t, v, rfl, ht, hlt, hrc, hb⟩
        obtain ⟨ao, co, rfl⟩ := hrc.form
        have HIN : Hid (ClIn w p t 1 L1 0 w3) := hid ⟨ow, _, D, ht, by simpa using HON.out.holds, rfl, rfl, by simp [TS.encs], by have := HWT.out; omega⟩
        clear HOP HON HWT ht hlt hrc hb HK
        rw [List.length_nil]
        go_wp2
        go_loopw [54] (fun i wr => ∃ n : Nat, n ≤ L1.length ∧ i = I n ∧ Hid (ClIn w p t 1 L1 n wr)) (fun i _ => L1.length - (intOf i).toNat)
        case atStart => exact ⟨0, by omega, rfl, HIN⟩
        case round =>
          clear HIN
          obtain ⟨n, hn, rfl, HIN⟩ := hrel
          by_cases hlt : n < L1.length
          · obtain ⟨r, hr⟩ : ∃ r, L1[n]? = some r := ⟨_, List.getElem?_eq_getElem hlt⟩
            obtain ⟨g, off, u, hga, hc, hs⟩ := H1.out.at hr
            obtain ⟨oi, T, Di, hti, hho, hlo, hhi, hps, hwt⟩ := HIN.out
            have hbw := hti.drum.below
            have hc' := (World.cell?_of_block (w := w) (a := ⟨g, off + n, none⟩) (hbw.block g (cell_lt hc))).trans hc
            have hs' := hs.below hbw
            obtain ⟨au, cu, rfl, hul⟩ := hs'.form0
            have HBW := hid hbw
            by_cases h6 : 600 < r.length
            · have h6' : decide ((600 : Int) < (r.length : Int)) = true := decide_eq_true (by omega)
              subst hga
              clear hti hho hlo hhi hps hwt hs' hbw
              go_wp2
              go_ret
              exact ⟨rfl, HBW.out⟩
            · have h6' : decide ((600 : Int) < (r.length : Int)) = false := decide_eq_false (by omega)
              have hsz : T.size = 80 * 256 := by unfold TS.size; rw [hlo, hhi]
              have hap := tst_append_on hti hho hs' (by omega) (by omega) (by omega)
              have HAP := hid hap
              have HNX := hid (fun (own' : Nat → Prop) (T' : TS) (D' : DS) (w' : World) (x1 : TSt w own' p t T' D' w') (x2 : TS.Holds D' T' (L1.take n ++ [r])) (x3 : T'.lo = T.lo) (x4 : T'.hi = T.hi) (x5 : T'.pos = T.pos + 12 + r.length) (x6 : D'.waits.length ≤ Di.waits.length + 400) =>
                (⟨own', T', D', x1, by rw [take_snoc hr]; exact x2, x3.trans hlo, x4.trans hhi, by omega, by omega⟩ : ClIn w p t 1 L1 (n + 1) w'))
              subst hga
              clear hti hho hlo hhi hps hwt hs' hbw hap hsz
              go_wp2_with (go_at_call 66; refine HAP.out.mono ?_; rintro e w4 ⟨rfl, own', T', D', x1, x2, x3, x4, x5, x6, x7⟩; have HI2 := hid (HNX.out own' T' D' w4 x1 x2 x3 x4 x5 x6); clear x1 x2 x3 x4 x5 x6 x7)
              go_roundw
              case rel => exact ⟨n + 1, by omega, by go_num, HI2⟩
              case measure => simp [intOf]; omega
          · have hnl : n = L1.length := by omega
            subst hnl
            obtain ⟨oi, T, Di, hti, hho, hlo, hhi, hps, hwt⟩ := HIN.out
            rw [List.take_length] at hho
            have hon := hho.on
            rw [hlo, hhi] at hon
            have hop := tst_open_on (lo := 0) (hi := 80) hti.drum hon
            have hop' : Calls Try.prog 65 #[.pointer (some ⟨p, 0, none⟩), I 0, I 80] wr _ := hop
            have HOP := hid hop'
            have HON := hid hon
            have HWT := hid hwt
            clear hop hop' hti hho hlo hhi hps hwt hon HIN
            go_wp2_with (go_at_call 65; refine HOP.out.mono ?_; rintro e w5 ⟨t2, v2, rfl, ht2, hlt2, hrc2, hb2⟩; obtain ⟨ao2, co2, rfl⟩ := hrc2.form; have HSH := hid hrc2.shows; have HT2 := hid ht2; clear ht2 hlt2 hrc2 hb2)
            have hal := alike_any w5 _ _ L1 L1 HSH.out (H1.out.below HT2.out.drum.below)
            rw [decide_eq_true rfl] at hal
            have HAL := hid hal
            clear hal
            go_wp2_with (go_at_call 67; refine HAL.out.mono ?_; rintro e w6 ⟨rfl, m6, rfl⟩)
            go_roundw
            case rel => exact ⟨1 + 1, by omega, by go_num, hid ⟨oi, Di, L1, HT2.out.drum.on (below_drewN _ _), HON.out, fun h => by omega, by have := HWT.out; omega⟩⟩
            case measure => simp [intOf]
namespace tapeClears
theorem walkAll (a0 : Option Addr) (cap0 : Nat) (L0 : List (List UInt8)) {w : World} (h0 : Shows w (.slice a0 L0.length cap0) L0) (a1 : Option Addr) (cap1 : Nat) (L1 : List (List UInt8)) (h1 : Shows w (.slice a1 L1.length cap1) L1) (w' : World) (e : w = w') :
    Calls Try.prog 18 #[.slice a0 L0.length cap0, .slice a1 L1.length cap1] w' fun e w'' => e = .returned (.bool true) ∧ Below w'.heap.size w' w'' := by
  subst e
  exact clears_walk w a0 cap0 L0 h0 a1 cap1 L1 h1
end tapeClears
end Go.Proofs.Ytoaeapnkefjpaaa

namespace Go.Proofs.Ytoaeapnkefjpaaa
open Go.RowKit
set_option linter.unusedVariables false
set_option linter.unusedSimpArgs false

/-- Values that came in, gathered in a row of one's own. -/
structure WantsIn (w0 w : World) (base : Nat) (v : Value) (us : List Value) (recs : List (List UInt8)) : Prop where
  row : w.ownsRow base 23 1 v recs.length us
  len : us.length = recs.length
  each : ∀ (j : Nat) (u : Value) (r : List UInt8), us[j]? = some u → recs[j]? = some r → Sees w0 u r
theorem WantsIn.nil (w0 w : World) (base : Nat) : WantsIn w0 w base (.slice none 0 0) [] [] := ⟨World.ownsRow_nil _ _ _ _, rfl, fun j u r hu => by simp at hu⟩
theorem WantsIn.keep {w0 w w' : World} {base : Nat} {v : Value} {us : List Value} {recs : List (List UInt8)} (h : WantsIn w0 w base v us recs) (hb : ∀ k, v.ownBlock = some k → w'.heap[k]? = w.heap[k]?) : WantsIn w0 w' base v us recs := ⟨own_mod h.row hb, h.len, h.each⟩
theorem WantsIn.below {w0 w w' : World} {base : Nat} {v : Value} {us : List Value} {recs : List (List UInt8)} (h : WantsIn w0 w base v us recs) (hb : Below w.heap.size w w') : WantsIn w0 w' base v us recs := h.keep (fun k hk => hb.block k (own_lt h.row k hk).2)
theorem WantsIn.push {w0 w w' : World} {base : Nat} {v v' u : Value} {us : List Value} {recs : List (List UInt8)} {r : List UInt8} (h : WantsIn w0 w base v us recs) (hr : Sees w0 u r) (ho : w'.ownsRow base 23 1 v' (recs.length + 1) (us ++ [u])) : WantsIn w0 w' base v' (us ++ [u]) (recs ++ [r]) := by
  refine ⟨own_len ho (by simp) rfl, by simp [h.len], fun j x y hx hy => ?_⟩
  by_cases hj : j < recs.length
  · rw [List.getElem?_append_left (by rw [h.len]; exact hj)] at hx
    rw [List.getElem?_append_left hj] at hy
    exact h.each j x y hx hy
  · have hlt := (List.getElem?_eq_some_iff.1 hy).1
    simp only [List.length_append, List.length_cons, List.length_nil] at hlt
    have e : j = recs.length := by omega
    subst e
    rw [List.getElem?_append_right (by rw [h.len]; exact Nat.le_refl _), h.len, Nat.sub_self] at hx
    rw [List.getElem?_append_right (Nat.le_refl _), Nat.sub_self] at hy
    simp only [List.getElem?_cons_zero, Option.some.injEq] at hx hy
    rw [← hx, ← hy]
    exact hr
theorem WantsIn.shows {w0 w : World} {base : Nat} {v : Value} {us : List Value} {recs : List (List UInt8)} (h : WantsIn w0 w base v us recs) (hb : Below w0.heap.size w0 w) : Shows w v recs := by
  by_cases h0 : 0 < recs.length
  · obtain ⟨g, cap, rfl, h1, h2, h3, h4⟩ := own_slice h.row h0
    refine ⟨_, cap, rfl, h1, h2, fun _ => ⟨g, 0, rfl, fun i r hr => ?_⟩⟩
    have hi := (List.getElem?_eq_some_iff.1 hr).1
    obtain ⟨u, hu⟩ : ∃ u, us[i]? = some u := ⟨_, List.getElem?_eq_getElem (by rw [h.len]; exact hi)⟩
    refine ⟨u, ?_, (h.each i u r hu hr).below hb⟩
    rw [Nat.zero_add]
    exact own_cell h.row hu
  · have : recs = [] := List.length_eq_zero_iff.1 (by omega)
    subst this
    rcases h.row.2 with ⟨rfl, -⟩ | ⟨g, cap, cur, rfl, hb, hg, hnc, hcm, r⟩
    · exact ⟨none, 0, rfl, Nat.le_refl _, by decide, fun h => by simp at h⟩
    · exact ⟨_, cap, rfl, hnc, hcm, fun h => by simp at h⟩
end Go.Proofs.Ytoaeapnkefjpaaa

namespace Go.Proofs.Ytoaeapnkefjpaaa
open Go.RowKit
set_option linter.unusedVariables false
set_option linter.unusedSimpArgs false

/-- A row of bytes of one's own, of so many bytes, whatever they are. -/
def Loose (w : World) (base : Nat) (u : Value) (n : Nat) : Prop := ∃ bs : List UInt8, bs.length = n ∧ w.ownsRow base 5 1 u n (bs.map B)
theorem Loose.set {w : World} {base : Nat} {u : Value} {n : Nat} (h : Loose w base u n) (g j : Nat) (c : UInt8) : Loose (w.setCell ⟨g, j, none⟩ (B c)) base u n := by
  obtain ⟨bs, hl, h1, h2⟩ := h
  rcases h2 with ⟨rfl, h0⟩ | ⟨g', cap, cur, rfl, hb, hg, hnc, hcm, hcs, ht⟩
  · exact ⟨bs, hl, h1, .inl ⟨rfl, h0⟩⟩
  · by_cases e : g' = g
    · subst e
      refine ⟨bs.set j c, by rw [List.length_set]; exact hl, by simpa using h1, .inr ⟨g', cap, cur.setIfInBounds j (B c), rfl, hb, heap_setCell_same w g' j cur 5 (B c) hg, hnc, hcm, by simpa using hcs, ?_⟩⟩
      rw [Array.toList_setIfInBounds, List.take_set, ht, ← List.map_set]
    · exact ⟨bs, hl, h1, .inr ⟨g', cap, cur, rfl, hb, (heap_setCell_other w ⟨g, j, none⟩ g' _ e).trans hg, hnc, hcm, hcs, ht⟩⟩
/-- Records whose bytes are overwritten. -/
structure LooseRecs (w : World) (base : Nat) (v : Value) (vs : List Value) (L : List (List UInt8)) : Prop where
  row : w.ownsRow base 23 1 v L.length vs
  len : vs.length = L.length
  each : ∀ (i : Nat) (u : Value) (r : List UInt8), vs[i]? = some u → L[i]? = some r → Loose w base u r.length ∧ ∀ k, u.ownBlock = some k → v.ownBlock ≠ some k
theorem LooseRecs.of {w : World} {base : Nat} {v : Value} {vs : List Value} {pb : Nat → Prop} {L : List (List UInt8)} (h : RecsIn w base v vs pb L) : LooseRecs w base v vs L :=
  ⟨h.row, h.len, fun i u r hu hr => ⟨⟨r, rfl, (h.each i u r hu hr).1⟩, fun k hk e => h.out k e ((h.each i u r hu hr).2 k hk)⟩⟩
theorem LooseRecs.set {w : World} {base : Nat} {v : Value} {vs : List Value} {L : List (List UInt8)} (h : LooseRecs w base v vs L) {g : Nat} (hg : v.ownBlock ≠ some g) (j : Nat) (c : UInt8) : LooseRecs (w.setCell ⟨g, j, none⟩ (B c)) base v vs L :=
  ⟨own_setCell_other h.row (a := ⟨g, j, none⟩) hg _, h.len, fun i u r hu hr => ⟨(h.each i u r hu hr).1.set g j c, (h.each i u r hu hr).2⟩⟩
theorem LooseRecs.at {w : World} {base : Nat} {ao : Option Addr} {n co : Nat} {vs : List Value} {L : List (List UInt8)} (h : LooseRecs w base (.slice ao n co) vs L) {i : Nat} {r : List UInt8} (hr : L[i]? = some r) :
    ∃ G u, ao = some ⟨G, 0, none⟩ ∧ vs[i]? = some u ∧ w.cell? ⟨G, i, none⟩ = some u ∧ Loose w base u r.length ∧ (∀ k, u.ownBlock = some k → (Value.slice ao n co).ownBlock ≠ some k ∧ base ≤ k) := by
  have hi := (List.getElem?_eq_some_iff.1 hr).1
  obtain ⟨u, hu⟩ : ∃ u, vs[i]? = some u := ⟨_, List.getElem?_eq_getElem (by rw [h.len]; exact hi)⟩
  have hrow := h.row
  obtain ⟨G, cp, hv, h1, h2, h3, h4⟩ := own_slice h.row (by omega)
  simp only [Value.slice.injEq] at hv
  obtain ⟨rfl, rfl, rfl⟩ := hv
  obtain ⟨hl, ho⟩ := h.each i u r hu hr
  refine ⟨G, u, rfl, hu, own_cell hrow hu, hl, fun k hk => ⟨ho k hk, ?_⟩⟩
  obtain ⟨bs, _, hb⟩ := hl
  exact (own_lt hb k hk).1
theorem Loose.at {w : World} {base : Nat} {ao : Option Addr} {n m co : Nat} (h : Loose w base (.slice ao m co) n) {j : Nat} (hj : j < n) : ∃ g c, ao = some ⟨g, 0, none⟩ ∧ n ≤ co ∧ w.cell? ⟨g, j, none⟩ = some (B c) ∧ w.frozen? ⟨g, j, none⟩ = false := by
  obtain ⟨bs, hl, hb⟩ := h
  obtain ⟨g, cp, hv, h1, -⟩ := own_slice hb (by omega)
  simp only [Value.slice.injEq] at hv
  obtain ⟨rfl, rfl, rfl⟩ := hv
  exact ⟨g, bs[j]'(by omega), rfl, h1, own_cell hb (by rw [List.getElem?_map, List.getElem?_eq_getElem (by omega)]; rfl), own_frozen hb j⟩
theorem Loose.form {w : World} {base : Nat} {u : Value} {n : Nat} (h : Loose w base u n) : ∃ ao co, u = .slice ao n co := by
  obtain ⟨bs, hl, hb⟩ := h
  exact own_form hb
theorem St.keepBelow {w0 w w' : World} {own : Nat → Prop} {p : Nat} {D : DS} {n : Nat} (h : St w0 own p D w) (ho : ∀ k, own k → k < n) (hw : w0.heap.size ≤ n) (hb : Below n w w') : St w0 own p D w' :=
  ⟨h.at'.keep (fun k hk => hb.block k (ho k hk)) hb.size, h.fresh, h.below.trans (hb.mono hw)⟩
end Go.Proofs.Ytoaeapnkefjpaaa

namespace Go.Proofs.Ytoaeapnkefjpaaa
open Go.RowKit
set_option linter.unusedVariables false
set_option linter.unusedSimpArgs false
theorem own_empty (w : World) (e : TypeId) (size : Nat) : (w.alloc (.cells #[] e)).ownsRow w.heap.size e size (.slice (some ⟨w.heap.size, 0, none⟩) 0 0) 0 [] :=
  ⟨by simp, .inr ⟨w.heap.size, 0, #[], rfl, Nat.le_refl _, heap_alloc_new _ _, Nat.le_refl _, by decide, by simp, by simp⟩⟩
/-- The spare room's text. -/
def spare : List UInt8 := [115, 112, 97, 114, 101, 32, 114, 111, 111, 109, 32, 111, 102, 32, 105, 116]
theorem str_spare (r : List UInt8) : str r ++ { data := #[115, 112, 97, 114, 101, 32, 114, 111, 111, 109, 32, 111, 102, 32, 105, 116] } = str (r ++ spare) := by
  apply ByteArray.ext
  rw [ByteArray.data_append]
  simp [str, spare]
theorem TSt.mod {w0 w w' : World} {own : Nat → Prop} {p t : Nat} {T : TS} {D : DS} {g : Nat} (h : TSt w0 own p t T D w) (hm : Mod (fun k => k = g) w w') (h1 : ¬ own g) (h2 : g ≠ t) (h3 : w0.heap.size ≤ g) : TSt w0 own p t T D w' :=
  ⟨⟨h.drum.at'.mod hm (fun k hk e => h1 (e ▸ hk)), h.drum.fresh, h.drum.below.trans (hm.below h.drum.below.size (fun i hi e => by omega))⟩, h.tape.mod hm (fun e => h2 e.symm), h.nt, h.tf⟩
/-- Between two records: the tape, and the list gathered. -/
structure KpB (w wx : World) (p t : Nat) (own : Nat → Prop) (T : TS) (D : DS) (v : Value) (us : List Value) (recs : List (List UInt8)) (i : Nat) : Prop where
  tst : TSt w own p t T D wx
  holds : TS.Holds D T recs
  lo : T.lo = 0
  hi : T.hi = 60
  pos : T.pos ≤ 412 * i
  waits : D.waits.length ≤ 400 * i
  wants : WantsIn w wx (t + 1) v us recs
  nv : ∀ k, v.ownBlock = some k → ¬ own k
theorem KpB.below {w wx wy : World} {p t : Nat} {own : Nat → Prop} {T : TS} {D : DS} {v : Value} {us : List Value} {recs : List (List UInt8)} {i : Nat} (h : KpB w wx p t own T D v us recs i) (hb : Below wx.heap.size wx wy) : KpB w wy p t own T D v us recs i := ⟨h.tst.on hb, h.holds, h.lo, h.hi, h.pos, h.waits, h.wants.below hb, h.nv⟩
/-- An append of what lies in a row apart. -/
theorem KpB.append {w wx : World} {p t : Nat} {own : Nat → Prop} {T : TS} {D : DS} {v : Value} {us : List Value} {recs : List (List UInt8)} {i : Nat} (h : KpB w wx p t own T D v us recs i) {u : Value} {r : List UInt8} (hu : Sees wx u r) (hr : r.length ≤ 400) (hi : i ≤ 31) :
    Calls Try.prog 66 #[.pointer (some ⟨t, 0, none⟩), u] wx fun e w' => e = .returned (I 0) ∧ Mod (fun k => own k ∨ k = t) wx w' ∧ ∃ own' T' D', TSt w own' p t T' D' w' ∧ TS.Holds D' T' (recs ++ [r]) ∧ T'.lo = 0 ∧ T'.hi = 60 ∧ T'.pos ≤ 412 * (i + 1) ∧ D'.waits.length ≤ 400 * (i + 1) ∧ WantsIn w w' (t + 1) v us recs ∧ (∀ k, k < wx.heap.size → ¬ own k → ¬ own' k) := by
  have hsz : T.size = (T.hi - T.lo) * 256 := rfl
  have hlo := h.lo
  have hhi := h.hi
  have hps := h.pos
  have hwt := h.waits
  have hfit : T.pos + 12 + r.length ≤ T.size := by rw [hsz, hlo, hhi]; omega
  obtain ⟨h1, h2, h3, h4, h5⟩ := h.holds.append (r := r) (by omega) hfit
  have hw2 := TS.append_waits D T r
  refine (tst_append h.tst hu (by omega)).mono fun e w' hx => ?_
  obtain ⟨k1, own', k2, k3, k4⟩ := hx
  rw [h1] at k1
  refine ⟨k1, k4, own', _, _, k2, h2, h3.trans hlo, h4.trans hhi, by rw [h5]; omega, by omega, h.wants.keep (fun k hk => k4.block k (own_lt h.wants.row k hk).2 (fun ho => ho.elim (h.nv k hk) (fun e => by have := (own_lt h.wants.row k hk).1; omega))), fun k hk hn ho => (k3 k ho).elim hn (fun h => by omega)⟩
/-- A record taken into the list. -/
theorem tst_push {w wx w1 : World} {p t : Nat} {own : Nat → Prop} {T : TS} {D : DS} {v v' : Value} {us : List Value} {recs : List (List UInt8)} {r : List UInt8} {u : Value} {o : Obj}
    (ht : TSt w own p t T D wx) (hw : WantsIn w wx (t + 1) v us recs) (hnv : ∀ k, v.ownBlock = some k → ¬ own k) (hu : Sees w u r)
    (hown : w1.ownsRow (t + 1) 23 1 v' (recs.length + 1) (us ++ [u])) (hgrow : (wx.alloc o).grownBy w1 v.ownBlock) (hat : v'.ownBlock = v.ownBlock ∨ v'.ownBlock = some (wx.heap.size + 1)) :
    TSt w own p t T D w1 ∧ WantsIn w w1 (t + 1) v' (us ++ [u]) (recs ++ [r]) ∧ (∀ k, v'.ownBlock = some k → ¬ own k) := by
  have hz : (wx.alloc o).heap.size = wx.heap.size + 1 := by simp
  have hkeep : ∀ k, k < wx.heap.size → v.ownBlock ≠ some k → w1.heap[k]? = wx.heap[k]? := fun k hk h1 => (hgrow.block k (by omega) (fun e => h1 e.symm)).trans (Below.heap_alloc wx o k hk)
  have hlt := ht.drum.at'.lt
  have htz := ht.tape.lt
  have hv1 : ∀ k, v.ownBlock = some k → t + 1 ≤ k := fun k hk => (own_lt hw.row k hk).1
  have hww := ht.drum.below.size
  have htf := ht.tf
  refine ⟨⟨⟨ht.drum.at'.keep (fun k hk => hkeep k (hlt k hk) (fun e => (hnv k e) hk)) (by have := hgrow.size; omega), ht.drum.fresh, ht.drum.below.trans ⟨hgrow.os, hgrow.tape, hgrow.output, by have := hgrow.size; omega, fun k hk => hkeep k (by omega) (fun e => by have := hv1 k e; omega)⟩⟩, ht.tape.keep (hkeep t htz (fun e => by have := hv1 t e; omega)), ht.nt, ht.tf⟩, hw.push hu hown, fun k hk => ?_⟩
  rcases hat with h | h
  · exact hnv k (by rw [← h]; exact hk)
  · rw [h] at hk
    have e := Option.some.inj hk
    exact fun ho => by have := hlt k ho; omega
set_option maxRecDepth 100000 in
set_option maxHeartbeats 3200000 in
theorem keeps_walk (w : World) (a0 : Option Addr) (cap0 : Nat) (L : List (List UInt8)) (h0 : Shows w (.slice a0 L.length cap0) L) :
    Calls Try.prog 17 #[.slice a0 L.length cap0] w fun e w' => e = .returned (.bool true) ∧ Below w.heap.size w w' := by
  have H0 := hid h0
  obtain ⟨_, _, _, m0⟩ := h0.len
  unfold maxLen at m0
  clear h0
  by_cases c : 30 < L.length
  · have e0 : decide ((30 : Int) < (L.length : Int)) = true := decide_eq_true (by omega)
    go_enter Try.func17, Try.ntmps17
    go_wp2_with (go_at_call 64; refine (wakes4_any _).mono ?_; rintro e w1 ⟨rfl, hb⟩; have HB := hid hb; clear hb)
    go_ret
    exact ⟨rfl, HB.out⟩
  have e0 : decide ((30 : Int) < (L.length : Int)) = false := decide_eq_false (by omega)
  go_enter Try.func17, Try.ntmps17
  go_wp2_with (first | (go_at_call 64; refine (wakes4_any _).mono ?_; rintro e w1 ⟨rfl, hb⟩; have HB := hid hb; clear hb) | (go_at_call 36; refine (st_new _ 60 (by omega)).mono ?_; rintro e w2 ⟨p, own, rfl, h⟩; have HS := hid (show St w own p (DS.new 60) w2 from h.back HB.out); clear h HB))
  clear e0
  have hon : TS.On (DS.new 60) 0 60 [] := TS.On.new (by omega) (by omega) (by omega) (by omega)
  have hop := tst_open_on (lo := 0) (hi := 60) HS.out hon
  have hop' : Calls Try.prog 65 #[.pointer (some ⟨p, 0, none⟩), I 0, I 60] w2 _ := hop
  refine hop'.mono ?_
  rintro e w3 ⟨t, v, rfl, ht, hlt, hrc, hb⟩
  obtain ⟨ao, co, rfl⟩ := hrc.form
  have HT := hid ht
  have HO := hid hon.holds
  clear hon hop hop' ht hlt hrc hb HS
  rw [List.length_nil]
  go_wp2
  have HTB : Hid (KpB w w3 p t own ⟨0, 60, (TS.encs 0 []).length, ([] : List (List UInt8)).length, 0⟩ (DS.new 60) (.slice none 0 0) [] [] 0) := hid ⟨HT.out, HO.out, rfl, rfl, by simp [TS.encs], by decide, WantsIn.nil _ _ _, fun k hk => by cases hk⟩
  clear HT HO
  go_loopw [7, 35] (fun v i wr => ∃ (k : Nat) (own : Nat → Prop) (T : TS) (D : DS) (us : List Value), k ≤ L.length ∧ i = I k ∧ Hid (KpB w wr p t own T D v us (L.take k) k)) (fun _ i _ => L.length - (intOf i).toNat)
  case atStart => exact ⟨0, _, _, _, _, by omega, rfl, by rw [List.take_zero]; exact HTB⟩
  case round =>
    clear HTB
    obtain ⟨k, own, T, D, us, hk, rfl, HT⟩ := hrel
    by_cases hlt : k < L.length
    · obtain ⟨r, hr⟩ : ∃ r, L[k]? = some r := ⟨_, List.getElem?_eq_getElem hlt⟩
      obtain ⟨g, off, u, hga, hc, hs⟩ := H0.out.at hr
      have hbw := HT.out.tst.drum.below
      have hc' := (World.cell?_of_block (w := w) (a := ⟨g, off + k, none⟩) (hbw.block g (cell_lt hc))).trans hc
      have hs' := hs
      obtain ⟨au, cu, rfl, hul⟩ := hs'.form0
      have HBW := hid hbw
      have HSU := hid hs
      have HR := hid hr
      by_cases h6 : 400 < r.length
      · have h6' : decide ((400 : Int) < (r.length : Int)) = true := decide_eq_true (by omega)
        subst hga
        clear hs' hbw hc hs hr
        go_wp2
        go_ret
        exact ⟨rfl, HBW.out⟩
      · have h6' : decide ((400 : Int) < (r.length : Int)) = false := decide_eq_false (by omega)
        obtain ⟨av, cv, rfl⟩ := own_form HT.out.wants.row
        have hlk : (L.take k).length = k := by rw [List.length_take]; omega
        rw [hlk] at HT
        have HLK := hid hlk
        clear hlk
        subst hga
        clear hs' hbw hc hs hr
        go_upto_region 15 with (fail)
        have HO0 := hid (own_empty wr 5 1)
        have hb0 : Below wr.heap.size wr (wr.alloc (.cells #[] 5)) := (Below.refl _ _).alloc (Nat.le_refl _) _
        have HSa := hid ((HSU.out.below HBW.out).below hb0)
        have HB0 := hid hb0
        clear hb0
        go_wp2_with (at_builtin; refine wpList_app rfl (.tmp 42) (.tmp 43) 23 rfl wr.heap.size 5 (.int .u8 0) 1 1 Try.underlying23 info5 rfl (by decide) 0 [] r.length (r.map B) HO0.out HSa.out.src ?h63 ?hb ?hbase ?_)
        case h63 => unfold maxLen; omega
        case hb => omega
        case hbase => simp
        intro v2 wb hown hgrow hat
        replace hown : wb.ownsRow wr.heap.size 5 1 v2 r.length (r.map B) := own_len hown (by simp) (by simp)
        have HO2 := hid hown
        have HB2 := hid (HB0.out.grown hgrow (by simp) (fun j hj => by cases hj; exact Nat.le_refl _))
        obtain ⟨av2, cv2, rfl⟩ := own_form hown
        have hs2 : wr.heap.size ≤ wb.heap.size := HB2.out.size
        clear hown hgrow hat HO0 HSa HB0
        obtain ⟨i5, hi5, hz5, hs5, hb5⟩ := info_parts info5'
        go_wp2_with (at_builtin; go_must (refine Lib.wpList_append_own_string wb rfl (.tmp 44) _ 23 9 rfl wr.heap.size 5 i5 Try.underlying23 Try.underlying9 hi5 hz5 hs5 hb5 (.slice av2 r.length cv2) r.length (r.map B) rfl HO2.out _ rfl ?h63 ?hb hs2 ?_))
        case h63 => show r.length + 16 ≤ maxLen; unfold maxLen; omega
        case hb => show r.length + 16 ≤ 140737488355328; omega
        intro v3 wc hown hgrow hnn
        have hsp : Lib.strCells { data := #[115, 112, 97, 114, 101, 32, 114, 111, 111, 109, 32, 111, 102, 32, 105, 116] } = spare.map B := by kernel_rfl
        rw [hsp, ← List.map_append] at hown
        replace hown : wc.ownsRow wr.heap.size 5 1 v3 (r.length + 16) ((r ++ spare).map B) := hown
        have HB3 := hid (HB2.out.grown hgrow hs2 (fun j hj => (own_lt HO2.out j hj).1))
        obtain ⟨g3, cap3, rfl, q1, q2, q3, q4⟩ := own_slice hown (by omega)
        have hlen3 : (r ++ spare).length = r.length + 16 := by rw [List.length_append]; rfl
        have hsm := own_sees' hown hlen3
        have hst := hsm.take r.length (by omega)
        rw [List.take_left' rfl] at hst
        have hkb := HT.out.below HB3.out
        have hap := hkb.append hst (by omega) (by omega)
        have HAP := hid hap
        have HO3 := hid hown
        have HG := hid (And.intro q3 q4)
        have hng : ¬ own g3 := fun ho => by have := HT.out.tst.drum.at'.lt g3 ho; omega
        have hgt : g3 ≠ t := fun e => by have := HT.out.tst.tape.lt; omega
        have HNG := hid (And.intro hng hgt)
        have hcapn : (r.length : Int) ≤ (cap3 : Int) := by omega
        clear hown hgrow hnn hsp hsm hst hkb hap HO2 HB2 hs2 q1 q3 q4 hng hgt hi5 hz5 hs5 hb5
        go_upto_region 17 with (go_at_call 66; refine HAP.out.mono ?_; rintro e w5 ⟨rfl, x1, own', T', D', x2, x3, x4, x5, x6, x7, x8, x9⟩; have X := hid (And.intro x1 (And.intro x2 (And.intro x3 (And.intro x4 (And.intro x5 (And.intro x6 (And.intro x7 (And.intro x8 x9)))))))); clear x1 x2 x3 x4 x5 x6 x7 x8 x9)
        obtain ⟨x1, x2, x3, x4, x5, x6, x7, x8, x9⟩ := X.out
        have hm5 : w5.ownsRow wr.heap.size 5 1 (.slice (some ⟨g3, 0, none⟩) (r.length + 16) cap3) (r.length + 16) ((r ++ spare).map B) := own_mod HO3.out (fun j hj => x1.block j (own_lt HO3.out j hj).2 (fun ho => by
          have e : g3 = j := Option.some.inj hj
          subst e
          exact ho.elim HNG.out.1 HNG.out.2))
        have hlen3 : (r ++ spare).length = r.length + 16 := by rw [List.length_append]; rfl
        have k1 := run_str (P := Try.prog) Try.underlying23 Try.underlying5 Try.underlying9 (own_sees' hm5 hlen3)
        have k2 := run_str (P := Try.prog) Try.underlying23 Try.underlying5 Try.underlying9 (HSU.out.below x2.drum.below)
        have HM5 := hid hm5
        clear hlen3 hm5 x1 x2 x3 x4 x5 x6 x7 x8 x9 HO3 HAP
        have hcat := str_spare r
        have hsz : ¬ 9223372036854775807 < (str r).size + 16 := by rw [str_size]; omega
        go_upto_region 19 with (fail)
        clear k1 k2 hcat hsz
        go_wp2
        go_loopw [64] (fun i wx => ∃ j : Nat, j ≤ r.length + 16 ∧ i = I j ∧ Hid (Loose wx wr.heap.size (.slice (some ⟨g3, 0, none⟩) (r.length + 16) cap3) (r.length + 16)) ∧ Hid (Mod (fun k => k = g3) w5 wx)) (fun i _ => r.length + 16 - (intOf i).toNat)
        case atStart => exact ⟨0, by omega, rfl, hid ⟨r ++ spare, by rw [List.length_append]; rfl, HM5.out⟩, hid (Mod.refl _ _)⟩
        case round =>
          obtain ⟨j, hj, rfl, HL, HM⟩ := hrel
          by_cases hjl : j < r.length + 16
          · have f1 : decide ((j : Int) < (r.length : Int) + 16) = true := decide_eq_true (by omega)
            obtain ⟨bs, hbl, hbr⟩ := HL.out
            have hcell := own_cell hbr (i := j) (u := B (bs[j]'(by omega))) (by rw [List.getElem?_map, List.getElem?_eq_getElem (by omega)]; rfl)
            have hfr := own_frozen hbr j
            generalize (bs[j]'(by omega)) = c0 at hcell
            have HL2 := hid (HL.out.set g3 j 0)
            have HM2 := hid (HM.out.trans (Mod.set (own := fun k => k = g3) (w := wr) (a := ⟨g3, j, none⟩) (u := B 0) rfl))
            clear hbr hbl
            go_wp2
            go_roundw
            case rel => exact ⟨j + 1, by omega, by go_num, HL2, HM2⟩
            case measure => simp [intOf]; omega
          · have hje : j = r.length + 16 := by omega
            have f1 : decide ((j : Int) < (r.length : Int) + 16) = false := decide_eq_false (by omega)
            clear hje hj hjl
            obtain ⟨x1, x2, x3, x4, x5, x6, x7, x8, x9⟩ := X.out
            have y1 := x2.mod HM.out (x9 g3 HG.out.2 HNG.out.1) HNG.out.2 (by have := HBW.out.size; have := HG.out.1; omega)
            have y2 := x8.keep (fun q hq => HM.out.block q (own_lt x8.row q hq).2 (fun e => by have := (own_lt HT.out.wants.row q hq).2; have := HG.out.1; omega))
            have y3 : ∀ q, (Value.slice av k cv).ownBlock = some q → ¬ own' q := fun q hq => x9 q (by have := (own_lt HT.out.wants.row q hq).2; have := HG.out; omega) (HT.out.nv q hq)
            have htl := y1.tape.lt
            have HY := hid (And.intro y1 (And.intro y2 y3))
            have HX := hid (And.intro x3 (And.intro x4 (And.intro x5 (And.intro x6 x7))))
            clear x1 x2 x3 x4 x5 x6 x7 x8 x9 X y1 y2 y3 HL HM HM5 HG HNG HT HBW
            go_wp2_with (at_builtin; go_must (refine wpList_app rfl (.tmp 71) (.tmp 73) 45 rfl (t + 1) 23 (.slice none 0 0) 1 24 Try.underlying45 info23t rfl (by decide) k us 1 [.slice au r.length cu] ((own_len HY.out.2.1.row HLK.out rfl).alloc _) (Src.new wr 1 23 [_] rfl (fun x hx => by obtain rfl := List.mem_singleton.1 hx; rfl)) ?h63 ?hb ?hbase ?_))
            case h63 => unfold maxLen; omega
            case hb => omega
            case hbase => simp; omega
            intro v' w8 hown hgrow hat
            obtain ⟨y1, y2, y3⟩ := tst_push HY.out.1 HY.out.2.1 HY.out.2.2 HSU.out (own_len hown (by rw [HLK.out]) rfl) hgrow hat
            have HNX : Hid (KpB w w8 p t own' T' D' v' (us ++ [.slice au r.length cu]) (L.take (k + 1)) (k + 1)) := hid ⟨y1, by rw [take_snoc HR.out]; exact HX.out.1, HX.out.2.1, HX.out.2.2.1, HX.out.2.2.2.1, HX.out.2.2.2.2, by rw [take_snoc HR.out]; exact y2, y3⟩
            obtain ⟨av', cv', rfl⟩ := own_form hown
            clear hown hgrow hat y1 y2 y3 HY HX HSU htl HR HLK
            go_wp2
            go_roundw
            case rel => exact ⟨k + 1, own', T', D', _, by omega, by go_num, HNX⟩
            case measure => simp [intOf]; omega
    · have hke : k = L.length := by omega
      subst hke
      obtain ⟨av, cv, rfl⟩ := own_form HT.out.wants.row
      have hon := HT.out.holds.on
      rw [HT.out.lo, HT.out.hi, List.take_length] at hon
      have hop := tst_open_on (lo := 0) (hi := 60) HT.out.tst.drum hon
      have hop' : Calls Try.prog 65 #[.pointer (some ⟨p, 0, none⟩), I 0, I 60] wr _ := hop
      have HOP := hid hop'
      have HON := hid hon
      clear hon hop hop' hk hlt
      go_wp2_with (go_at_call 65; refine HOP.out.mono ?_; rintro e w5 ⟨t2, v2, rfl, ht2, hlt2, hrc2, hb2⟩; obtain ⟨vs, pb, hrc2⟩ := hrc2; obtain ⟨ao2, co2, rfl⟩ := own_form hrc2.row; have HR2 := hid hrc2; have HT2 := hid ht2; have HB2 := hid hb2; have HLT := hid hlt2; clear ht2 hlt2 hrc2 hb2)
      clear HOP
      generalize hwz : wr = wz at *
      clear hwz
      go_loopw [84] (fun i wx => ∃ j : Nat, j ≤ L.length ∧ i = I j ∧ Hid (LooseRecs wx (t2 + 1) (.slice ao2 L.length co2) vs L) ∧ Hid (Below (t2 + 1) w5 wx)) (fun i _ => L.length - (intOf i).toNat)
      case atStart => exact ⟨0, by omega, rfl, hid (LooseRecs.of HR2.out), hid (Below.refl _ _)⟩
      case round =>
        clear HR2
        obtain ⟨j, hj, rfl, HL, HB⟩ := hrel
        by_cases hjl : j < L.length
        · have f1 : decide ((j : Int) < (L.length : Int)) = true := decide_eq_true (by omega)
          obtain ⟨r, hr⟩ : ∃ r, L[j]? = some r := ⟨_, List.getElem?_eq_getElem hjl⟩
          have hrs : r.length ≤ 65536 := HON.out.small r (List.mem_of_getElem? hr)
          have HR := hid hr
          obtain ⟨G, u, rfl, hu, hcu, hlo, hou⟩ := HL.out.at hr
          obtain ⟨au, cu, rfl⟩ := hlo.form
          have HU := hid hu
          clear hr hlo hou hu
          go_wp2
          go_loopw [92] (fun i wy => ∃ m : Nat, m ≤ r.length ∧ i = I m ∧ Hid (LooseRecs wy (t2 + 1) (.slice (some ⟨G, 0, none⟩) L.length co2) vs L) ∧ Hid (Below (t2 + 1) w5 wy)) (fun i _ => r.length - (intOf i).toNat)
          case atStart => exact ⟨0, by omega, rfl, HL, HB⟩
          case round =>
            clear HL HB
            obtain ⟨m, hm, rfl, HL, HB⟩ := hrel
            by_cases hmr : m < r.length
            · have f2 : decide ((m : Int) < (r.length : Int)) = true := decide_eq_true (by omega)
              clear hcu
              obtain ⟨G', u', e1, hu', hcu, hlo, hou⟩ := HL.out.at HR.out
              simp only [Option.some.injEq, Addr.mk.injEq, and_true] at e1
              subst e1
              rw [HU.out] at hu'
              obtain rfl := Option.some.inj hu'
              obtain ⟨g, c0, rfl, hgc, hcell, hfr⟩ := hlo.at hmr
              have hgo := hou g rfl
              have HL2 := hid (HL.out.set hgo.1 m 1)
              have HB2' := hid (HB.out.setCell (p := ⟨g, m, none⟩) hgo.2 (B 1))
              clear hlo hou hgo hu'
              go_wp2
              go_roundw
              case rel => exact ⟨m + 1, by omega, by go_num, HL2, HB2'⟩
              case measure => simp [intOf]; omega
            · have f2 : decide ((m : Int) < (r.length : Int)) = false := decide_eq_false (by omega)
              clear hcu
              go_wp2
              go_roundw
              case rel => exact ⟨j + 1, by omega, by go_num, HL, HB⟩
              case measure => simp [intOf]; omega
        · have f1 : decide ((j : Int) < (L.length : Int)) = false := decide_eq_false (by omega)
          have hst := HT2.out.drum.keepBelow (n := t2 + 1) (fun q hq => by have := HT.out.tst.drum.at'.lt q hq; have := HLT.out; omega) (by have := HT.out.tst.drum.below.size; have := HLT.out; omega) HB.out
          have hwn := (HT.out.wants.below HB2.out).keep (w' := wr) (fun q hq => HB.out.block q (by have := (own_lt HT.out.wants.row q hq).2; have := HLT.out; omega))
          rw [List.take_length] at hwn
          have hop := tst_open_on (lo := 0) (hi := 60) hst HON.out
          have hop' : Calls Try.prog 65 #[.pointer (some ⟨p, 0, none⟩), I 0, I 60] wr _ := hop
          have HOP := hid hop'
          have HWN := hid hwn
          clear hop hop' hst hwn HL HB
          go_wp2_with (go_at_call 65; refine HOP.out.mono ?_; rintro e w6 ⟨t3, v3, rfl, ht3, hlt3, hrc3, hb3⟩; obtain ⟨ao3, co3, rfl⟩ := hrc3.form; have HSH := hid hrc3.shows; have HT3 := hid ht3; have HB3 := hid hb3; clear ht3 hlt3 hrc3 hb3)
          have hal := alike_any w6 _ _ L L HSH.out ((HWN.out.below HB3.out).shows HT3.out.drum.below)
          rw [decide_eq_true rfl] at hal
          have HAL := hid hal
          have HBW := hid HT3.out.drum.below
          clear hal
          go_wp2_with (go_at_call 67; refine HAL.out.mono ?_; rintro e w7 ⟨rfl, m7, rfl⟩)
          go_ret
          exact ⟨rfl, HBW.out.trans ((below_drewN _ _).mono HBW.out.size)⟩
namespace tapeKeeps
theorem walkAll (a0 : Option Addr) (cap0 : Nat) (L : List (List UInt8)) {w : World} (h0 : Shows w (.slice a0 L.length cap0) L) (w' : World) (e : w = w') :
    Calls Try.prog 17 #[.slice a0 L.length cap0] w' fun e w'' => e = .returned (.bool true) ∧ Below w'.heap.size w' w'' := by
  subst e
  exact keeps_walk w a0 cap0 L h0
end tapeKeeps
end Go.Proofs.Ytoaeapnkefjpaaa

namespace Go.Proofs.Ytoaeapnkefjpaaa
open Go.RowKit
set_option linter.unusedVariables false
set_option linter.unusedSimpArgs false
/-- The spare room's text. -/
def sp5 : List UInt8 := [115, 112, 97, 114, 101]
theorem str_sp5 (r : List UInt8) : str r ++ { data := #[115, 112, 97, 114, 101] } = str (r ++ sp5) := by
  apply ByteArray.ext
  rw [ByteArray.data_append]
  simp [str, sp5]
theorem PSt.mod {w0 w w' : World} {own : Nat → Prop} {p q t : Nat} {P : PS} {D : DS} {g : Nat} (h : PSt w0 own p q t P D w) (hm : Mod (fun k => k = g) w w') (h1 : ¬ own g) (h2 : g ≠ q) (h3 : g ≠ t) (h4 : w0.heap.size ≤ g) : PSt w0 own p q t P D w' :=
  ⟨⟨h.drum.at'.mod hm (fun k hk e => h1 (e ▸ hk)), h.drum.fresh, h.drum.below.trans (hm.below h.drum.below.size (fun i hi e => by omega))⟩, h.pair.keep (hm.block q h.pair.ql (fun e => h2 e.symm)) (hm.block t h.pair.tape.lt (fun e => h3 e.symm)), h.nq, h.nt, h.qf⟩
/-- A snapshot's bytes that are overwritten. -/
def PartL (w : World) (base : Nat) (v : Value) (n : Nat) : Prop := n = 0 ∨ 0 < n ∧ ∃ g cap, v = .slice (some ⟨g, 12, none⟩) n (cap - 12) ∧ Loose w base (.slice (some ⟨g, 0, none⟩) (12 + n) cap) (12 + n)
theorem PartL.of {w : World} {base : Nat} {v : Value} {l : List UInt8} (h : Part w base v l) : PartL w base v l.length := by
  rcases h with ⟨rfl, -⟩ | ⟨h0, g, cap, A, hA, rfl, ho⟩
  · exact .inl rfl
  · exact .inr ⟨h0, g, cap, rfl, A ++ l, by rw [List.length_append, hA], ho⟩
theorem PartL.at {w : World} {base : Nat} {ao : Option Addr} {n m co : Nat} (h : PartL w base (.slice ao m co) n) {j : Nat} (hj : j < n) : ∃ g c, ao = some ⟨g, 12, none⟩ ∧ m = n ∧ w.cell? ⟨g, 12 + j, none⟩ = some (B c) ∧ w.frozen? ⟨g, 12 + j, none⟩ = false ∧ base ≤ g ∧ (∃ cs fr, w.heap[g]? = some (.cells cs 5 fr)) := by
  rcases h with h | ⟨h0, g, cap, hv, hl⟩
  · omega
  · simp only [Value.slice.injEq] at hv
    obtain ⟨rfl, rfl, rfl⟩ := hv
    obtain ⟨g', c, e, h1, h2, h3⟩ := hl.at (j := 12 + j) (by omega)
    simp only [Option.some.injEq, Addr.mk.injEq, and_true] at e
    obtain rfl := e
    obtain ⟨bs, hbl, hb⟩ := hl
    refine ⟨g, c, rfl, rfl, h2, h3, (own_lt hb g rfl).1, ?_⟩
    rcases hb.2 with ⟨h4, -⟩ | ⟨g', cp, cur, hv, -, hg, -⟩
    · cases h4
    · simp only [Value.slice.injEq, Option.some.injEq, Addr.mk.injEq] at hv
      obtain ⟨⟨rfl, -, -⟩, -, -⟩ := hv
      exact ⟨cur, _, hg⟩
theorem PartL.set {w : World} {base : Nat} {v : Value} {n : Nat} (h : PartL w base v n) (g j : Nat) (c : UInt8) : PartL (w.setCell ⟨g, j, none⟩ (B c)) base v n := by
  rcases h with h | ⟨h0, g', cap, hv, hl⟩
  · exact .inl h
  · exact .inr ⟨h0, g', cap, hv, hl.set g j c⟩
/-- A block of bytes is no list of slices. -/
theorem LooseRecs.not {w : World} {base : Nat} {v : Value} {vs : List Value} {L : List (List UInt8)} (h : LooseRecs w base v vs L) {g : Nat} (hg : ∃ cs fr, w.heap[g]? = some (.cells cs 5 fr)) : v.ownBlock ≠ some g := by
  intro e
  obtain ⟨cs, fr, hg⟩ := hg
  rcases h.row.2 with ⟨rfl, -⟩ | ⟨g', cap, cur, rfl, -, hg', -⟩
  · cases e
  · obtain rfl : g' = g := Option.some.inj e
    rw [hg] at hg'
    simp at hg'
set_option maxRecDepth 100000 in
set_option maxHeartbeats 6400000 in
theorem pkeeps_walk (w : World) (a0 : Option Addr) (cap0 : Nat) (b : List UInt8) (h0 : Sees w (.slice a0 b.length cap0) b) (a1 : Option Addr) (cap1 : Nat) (r : List UInt8) (h1 : Sees w (.slice a1 r.length cap1) r) :
    Calls Try.prog 20 #[.slice a0 b.length cap0, .slice a1 r.length cap1] w fun e w' => e = .returned (.bool true) ∧ Below w.heap.size w w' := by
  have H0 := hid h0
  have H1 := hid h1
  obtain ⟨_, _, hv0, m0, m0', -⟩ := h0
  obtain ⟨_, _, hv1, m1, m1', -⟩ := h1
  unfold maxLen at m0' m1'
  clear hv0 hv1
  have hcases : (2000 < b.length ∨ 2000 < r.length) ∨ (b.length ≤ 2000 ∧ r.length ≤ 2000) := by omega
  rcases hcases with c | ⟨c1, c2⟩
  · have e1 : (decide ((2000 : Int) < (b.length : Int)) = true) ∨ (decide ((2000 : Int) < (b.length : Int)) = false ∧ decide ((2000 : Int) < (r.length : Int)) = true) := by
      simp only [decide_eq_true_eq, decide_eq_false_iff_not]; omega
    clear c
    rcases e1 with e1 | ⟨e1, e2⟩
    all_goals
      go_enter Try.func20, Try.ntmps20
      go_wp2_with (go_at_call 34; refine (wakes5_any _).mono ?_; rintro e w1 ⟨rfl, hb⟩; have HB := hid hb; clear hb)
      go_ret
      exact ⟨rfl, HB.out⟩
  have e1 : decide ((2000 : Int) < (b.length : Int)) = false := decide_eq_false (by omega)
  have e2 : decide ((2000 : Int) < (r.length : Int)) = false := decide_eq_false (by omega)
  have HAS := hid (PS.Has.new (n := 61) (by omega) (by omega))
  go_enter Try.func20, Try.ntmps20
  go_wp2_with (first | (go_at_call 34; refine (wakes5_any _).mono ?_; rintro e w1 ⟨rfl, hb⟩; have HB := hid hb; clear hb) | (go_at_call 36; refine (st_new _ 61 (by omega)).mono ?_; rintro e w2 ⟨p, own, rfl, h⟩; have HS := hid (show St w own p (DS.new 61) w2 from h.back HB.out); clear h HB))
  refine (pst_open_has HS.out HAS.out).mono ?_
  rintro e w3 ⟨q, t, vb, vl, rfl, hp, hqf, hvb, hvl, hb⟩
  obtain ⟨ab, cb, rfl, -⟩ := hvb.sees.form0
  obtain ⟨al, cl, rfl⟩ := hvl.form
  have HP := hid hp
  have HQT := hid (And.intro hp.pair.ql hp.pair.tape.lt)
  clear hp hqf hvb hvl hb HS e1 e2
  go_upto_region 9 with (fail)
  -- the first row
  have HO0 := hid (own_empty w3 5 1)
  have hb0 : Below w3.heap.size w3 (w3.alloc (.cells #[] 5)) := (Below.refl _ _).alloc (Nat.le_refl _) _
  have HSa := hid ((H0.out.below HP.out.drum.below).below hb0)
  have HB0 := hid hb0
  clear hb0
  go_wp2_with (at_builtin; go_must (refine wpList_app rfl (.tmp 40) (.tmp 41) 23 rfl w3.heap.size 5 (.int .u8 0) 1 1 Try.underlying23 info5 rfl (by decide) 0 [] b.length (b.map B) HO0.out HSa.out.src ?h63 ?hb ?hbase ?_))
  case h63 => unfold maxLen; omega
  case hb => omega
  case hbase => simp
  intro v2 wb hown hgrow hat
  replace hown : wb.ownsRow w3.heap.size 5 1 v2 b.length (b.map B) := own_len hown (by simp) (by simp)
  have HO2 := hid hown
  have HB2 := hid (HB0.out.grown hgrow (by simp) (fun j hj => by cases hj; exact Nat.le_refl _))
  obtain ⟨av2, cv2, rfl⟩ := own_form hown
  have hs2 : w3.heap.size ≤ wb.heap.size := HB2.out.size
  clear hown hgrow hat HO0 HSa HB0
  obtain ⟨i5, hi5, hz5, hs5, hb5⟩ := info_parts info5'
  go_wp2_with (at_builtin; go_must (refine Lib.wpList_append_own_string wb rfl (.tmp 42) _ 23 9 rfl w3.heap.size 5 i5 Try.underlying23 Try.underlying9 hi5 hz5 hs5 hb5 (.slice av2 b.length cv2) b.length (b.map B) rfl HO2.out _ rfl ?h63 ?hb hs2 ?_))
  case h63 => show b.length + 5 ≤ maxLen; unfold maxLen; omega
  case hb => show b.length + 5 ≤ 140737488355328; omega
  intro v3 wc hown hgrow hnn
  have hsp : Lib.strCells { data := #[115, 112, 97, 114, 101] } = sp5.map B := by kernel_rfl
  rw [hsp, ← List.map_append] at hown
  replace hown : wc.ownsRow w3.heap.size 5 1 v3 (b.length + 5) ((b ++ sp5).map B) := hown
  have HB3 := hid (HB2.out.grown hgrow hs2 (fun j hj => (own_lt HO2.out j hj).1))
  obtain ⟨gs, caps, rfl, q1, q2, q3, q4⟩ := own_slice hown (by omega)
  have HOS := hid hown
  have HGS := hid (And.intro q3 q4)
  have hcaps : (b.length : Int) ≤ (caps : Int) := by omega
  have hs3 : w3.heap.size ≤ wc.heap.size := HB3.out.size
  clear hown hgrow hnn HO2 HB2 hs2 q1 q2 q3 q4 hsp
  -- the second row
  have HO0 := hid (own_empty wc 5 1)
  have hb0 : Below wc.heap.size wc (wc.alloc (.cells #[] 5)) := (Below.refl _ _).alloc (Nat.le_refl _) _
  have HSa := hid (((H1.out.below HP.out.drum.below).below HB3.out).below hb0)
  have HB0 := hid hb0
  clear hb0
  go_wp2_with (at_builtin; go_must (refine wpList_app rfl (.tmp 44) (.tmp 45) 23 rfl wc.heap.size 5 (.int .u8 0) 1 1 Try.underlying23 info5 rfl (by decide) 0 [] r.length (r.map B) HO0.out HSa.out.src ?h63 ?hb ?hbase ?_))
  case h63 => unfold maxLen; omega
  case hb => omega
  case hbase => simp
  intro v4 wd hown hgrow hat
  replace hown : wd.ownsRow wc.heap.size 5 1 v4 r.length (r.map B) := own_len hown (by simp) (by simp)
  have HO4 := hid hown
  have HB4 := hid (HB0.out.grown hgrow (by simp) (fun j hj => by cases hj; exact Nat.le_refl _))
  obtain ⟨av4, cv4, rfl⟩ := own_form hown
  have hs4 : wc.heap.size ≤ wd.heap.size := HB4.out.size
  clear hown hgrow hat HO0 HSa HB0
  go_wp2_with (at_builtin; go_must (refine Lib.wpList_append_own_string wd rfl (.tmp 46) _ 23 9 rfl wc.heap.size 5 i5 Try.underlying23 Try.underlying9 hi5 hz5 hs5 hb5 (.slice av4 r.length cv4) r.length (r.map B) rfl HO4.out _ rfl ?h63 ?hb hs4 ?_))
  case h63 => show r.length + 5 ≤ maxLen; unfold maxLen; omega
  case hb => show r.length + 5 ≤ 140737488355328; omega
  intro v5 we hown hgrow hnn
  have hsp : Lib.strCells { data := #[115, 112, 97, 114, 101] } = sp5.map B := by kernel_rfl
  rw [hsp, ← List.map_append] at hown
  replace hown : we.ownsRow wc.heap.size 5 1 v5 (r.length + 5) ((r ++ sp5).map B) := hown
  have HB5 := hid (HB4.out.grown hgrow hs4 (fun j hj => (own_lt HO4.out j hj).1))
  obtain ⟨gr, capr, rfl, q1, q2, q3, q4⟩ := own_slice hown (by omega)
  have HOR := hid hown
  have HGR := hid (And.intro q3 q4)
  have hcapr : (r.length : Int) ≤ (capr : Int) := by omega
  clear hown hgrow hnn HO4 HB4 hs4 q1 q2 q3 q4 hsp hi5 hz5 hs5 hb5
  have HOS' := hid (own_below HOS.out HB5.out)
  have HBE : Hid (Below w3.heap.size w3 we) := hid (HB3.out.trans (HB5.out.mono hs3))
  have hlb : (b ++ sp5).length = b.length + 5 := by rw [List.length_append]; rfl
  have hlr : (r ++ sp5).length = r.length + 5 := by rw [List.length_append]; rfl
  have hst := (own_sees' HOS'.out hlb).take b.length (by omega)
  rw [List.take_left' rfl] at hst
  have hl61 : (DS.new 61).safe.length = 61 := rfl
  have htk : PS.takes b.length < PS.hp (DS.new 61).safe.length := by rw [hl61]; show (b.length + 267) / 256 < 30; omega
  have hsv := pst_save_has (HP.out.on HBE.out) HAS.out hst (by omega) htk (by show (0 : Nat) ≤ _; omega)
  have HSV := hid hsv
  have hs0 := PS.save_none (HAS.out.save (b := b) (by omega) htk).1 HAS.out.sick
  have HS0 := hid hs0
  have HLB := hid hlb
  have HLR := hid hlr
  clear hst hsv hs0 hlb hlr htk hl61
  have hgn1 : ¬ own gs := fun h => by have := HP.out.drum.at'.lt gs h; have := HGS.out.1; omega
  have hgn2 : ¬ own gr := fun h => by have := HP.out.drum.at'.lt gr h; have := HGR.out.1; omega
  have HGN := hid (And.intro hgn1 hgn2)
  clear hgn1 hgn2
  go_wp2_with fail
  refine HSV.out.mono ?_
  rintro e w5 ⟨rfl, t5, own5, P5, D5, y1, y2, y3, y4, -, y6, y7, y8, y9, y10, -⟩
  have hz1 := HB5.out.size
  have hz2 := HBE.out.size
  have hqs : gs ≠ q ∧ gr ≠ q := by have := HQT.out; have := HGS.out; have := HGR.out; omega
  have hts : gs ≠ t5 ∧ gr ≠ t5 := by
    have h1 := HQT.out; have h2 := HGS.out; have h3 := HGR.out
    rcases y8 with e | e <;> omega
  have hn5 : ¬ own5 gs ∧ ¬ own5 gr := ⟨fun h => (y9 gs h).elim HGN.out.1 (fun h => by have := HGS.out; omega), fun h => (y9 gr h).elim HGN.out.2 (fun h => by have := HGR.out; omega)⟩
  have rs5 : w5.ownsRow w3.heap.size 5 1 (.slice (some ⟨gs, 0, none⟩) (b.length + 5) caps) (b.length + 5) ((b ++ sp5).map B) := own_mod HOS'.out (fun j hj => y10.block j (own_lt HOS'.out j hj).2 (fun ho => by
    have e : gs = j := Option.some.inj hj
    subst e
    exact ho.elim HGN.out.1 hqs.1))
  have rr5 : w5.ownsRow wc.heap.size 5 1 (.slice (some ⟨gr, 0, none⟩) (r.length + 5) capr) (r.length + 5) ((r ++ sp5).map B) := own_mod HOR.out (fun j hj => y10.block j (own_lt HOR.out j hj).2 (fun ho => by
    have e : gr = j := Option.some.inj hj
    subst e
    exact ho.elim HGN.out.2 hqs.2))
  have hsr := (own_sees' rr5 HLR.out).take r.length (by rw [HLR.out]; omega)
  rw [List.take_left' rfl] at hsr
  have htb : PS.hp (DS.new 61).safe.length = 30 := rfl
  have htk : PS.takes b.length ≤ 8 := by unfold PS.takes; omega
  have hap := pst_append_has y1 y2 hsr (by omega) (by rw [y3, y4, htb]; omega) (by rw [y7, HS0.out]; omega)
  have HAP := hid hap
  have HR5 := hid (And.intro rs5 (And.intro rr5 (And.intro hts hn5)))
  clear y1 y2 y3 y4 y6 y7 y8 y9 y10 hz1 hz2 hqs hts hn5 rs5 rr5 hsr htb htk hap HSV HS0 HAS HOS HOS' HOR HB3 HB5
  go_wp2_with fail
  refine HAP.out.mono ?_
  rintro e w6 ⟨rfl, own6, P6, D6, y1, y2, -, -, -, -, -, y8, y9, -⟩
  obtain ⟨rs5, rr5, hts, hn5⟩ := HR5.out
  have rs6 : w6.ownsRow w3.heap.size 5 1 (.slice (some ⟨gs, 0, none⟩) (b.length + 5) caps) (b.length + 5) ((b ++ sp5).map B) := own_mod rs5 (fun j hj => y9.block j (own_lt rs5 j hj).2 (fun ho => by
    have e : gs = j := Option.some.inj hj
    subst e
    exact ho.elim hn5.1 hts.1))
  have rr6 : w6.ownsRow wc.heap.size 5 1 (.slice (some ⟨gr, 0, none⟩) (r.length + 5) capr) (r.length + 5) ((r ++ sp5).map B) := own_mod rr5 (fun j hj => y9.block j (own_lt rr5 j hj).2 (fun ho => by
    have e : gr = j := Option.some.inj hj
    subst e
    exact ho.elim hn5.2 hts.2))
  have hl5s := (own_lt rs5 gs rfl).2
  have hl5r := (own_lt rr5 gr rfl).2
  have hn6 : ¬ own6 gs ∧ ¬ own6 gr := ⟨fun h => (y8 gs h).elim hn5.1 (fun h => by omega), fun h => (y8 gr h).elim hn5.2 (fun h => by omega)⟩
  have k1 := run_str (P := Try.prog) Try.underlying23 Try.underlying5 Try.underlying9 (own_sees' rs6 HLB.out)
  have k2 := run_str (P := Try.prog) Try.underlying23 Try.underlying5 Try.underlying9 (H0.out.below y1.drum.below)
  have k3 := run_str (P := Try.prog) Try.underlying23 Try.underlying5 Try.underlying9 (own_sees' rr6 HLR.out)
  have k4 := run_str (P := Try.prog) Try.underlying23 Try.underlying5 Try.underlying9 (H1.out.below y1.drum.below)
  have HP6 := hid y1
  have HH6 := hid (show PS.Has D6 P6 b [r] from y2)
  have HR6 := hid (And.intro rs6 (And.intro rr6 (And.intro hts hn6)))
  clear y1 y2 y8 y9 rs5 rr5 hts hn5 rs6 rr6 hl5s hl5r hn6 HR5 HAP
  have hcat := str_sp5 b
  have hsz : ¬ 9223372036854775807 < (str b).size + 5 := by rw [str_size]; omega
  have hcat2 := str_sp5 r
  have hsz2 : ¬ 9223372036854775807 < (str r).size + 5 := by rw [str_size]; omega
  go_upto_region 12 with (fail)
  clear k1 k2 k3 k4 hcat hsz hcat2 hsz2
  go_wp2
  go_loopw [82] (fun i wx => ∃ j : Nat, j ≤ b.length + 5 ∧ i = I j ∧ Hid (Loose wx w3.heap.size (.slice (some ⟨gs, 0, none⟩) (b.length + 5) caps) (b.length + 5)) ∧ Hid (Mod (fun k => k = gs) w6 wx)) (fun i _ => b.length + 5 - (intOf i).toNat)
  case atStart => exact ⟨0, by omega, rfl, hid ⟨b ++ sp5, HLB.out, HR6.out.1⟩, hid (Mod.refl _ _)⟩
  case round =>
    obtain ⟨j, hj, rfl, HL, HM⟩ := hrel
    by_cases hjl : j < b.length + 5
    · have f1 : decide ((j : Int) < (b.length : Int) + 5) = true := decide_eq_true (by omega)
      obtain ⟨bs, hbl, hbr⟩ := HL.out
      have hcell := own_cell hbr (i := j) (u := B (bs[j]'(by omega))) (by rw [List.getElem?_map, List.getElem?_eq_getElem (by omega)]; rfl)
      have hfr := own_frozen hbr j
      generalize (bs[j]'(by omega)) = c0 at hcell
      have HL2 := hid (HL.out.set gs j 0)
      have HM2 := hid (HM.out.trans (Mod.set (own := fun k => k = gs) (w := wr) (a := ⟨gs, j, none⟩) (u := B 0) rfl))
      clear hbr hbl
      go_wp2
      go_roundw
      case rel => exact ⟨j + 1, by omega, by go_num, HL2, HM2⟩
      case measure => simp [intOf]; omega
    have hje : j = b.length + 5 := by omega
    have f1 : decide ((j : Int) < (b.length : Int) + 5) = false := decide_eq_false (by omega)
    clear hje hj hjl
    obtain ⟨rs6, rr6, hts, hn6⟩ := HR6.out
    have h1 := HGS.out
    have h2 := HGR.out
    have h3 := HP.out.drum.below.size
    have h4 := HQT.out
    have hgg : gr ≠ gs := by omega
    have y1 := HP6.out.mod HM.out hn6.1 (by omega) hts.1 (by omega)
    have y2 := own_mod rr6 (fun j hj => HM.out.block j (own_lt rr6 j hj).2 (fun e => by
      have e2 : gr = j := Option.some.inj hj
      omega))
    have HP7 := hid y1
    have HL7 : Hid (Loose wr wc.heap.size (.slice (some ⟨gr, 0, none⟩) (r.length + 5) capr) (r.length + 5)) := hid ⟨r ++ sp5, HLR.out, y2⟩
    have HN7 := hid (And.intro hts.2 hn6.2)
    clear rs6 rr6 hts hn6 h1 h2 h3 h4 y1 y2 HL HM HR6 HP6
    go_wp2
    clear f1
    generalize hwz : wr = wz at *
    clear hwz
    go_loopw [91] (fun i wx => ∃ j : Nat, j ≤ r.length + 5 ∧ i = I j ∧ Hid (Loose wx wc.heap.size (.slice (some ⟨gr, 0, none⟩) (r.length + 5) capr) (r.length + 5)) ∧ Hid (Mod (fun k => k = gr) wz wx)) (fun i _ => r.length + 5 - (intOf i).toNat)
    case atStart => exact ⟨0, by omega, rfl, HL7, hid (Mod.refl _ _)⟩
    case round =>
      clear HL7
      obtain ⟨j, hj, rfl, HL, HM⟩ := hrel
      by_cases hjl : j < r.length + 5
      · have f1 : decide ((j : Int) < (r.length : Int) + 5) = true := decide_eq_true (by omega)
        obtain ⟨bs, hbl, hbr⟩ := HL.out
        have hcell := own_cell hbr (i := j) (u := B (bs[j]'(by omega))) (by rw [List.getElem?_map, List.getElem?_eq_getElem (by omega)]; rfl)
        have hfr := own_frozen hbr j
        generalize (bs[j]'(by omega)) = c0 at hcell
        have HL2 := hid (HL.out.set gr j 0)
        have HM2 := hid (HM.out.trans (Mod.set (own := fun k => k = gr) (w := wr) (a := ⟨gr, j, none⟩) (u := B 0) rfl))
        clear hbr hbl
        go_wp2
        go_roundw
        case rel => exact ⟨j + 1, by omega, by go_num, HL2, HM2⟩
        case measure => simp [intOf]; omega
      have hje : j = r.length + 5 := by omega
      have f1 : decide ((j : Int) < (r.length : Int) + 5) = false := decide_eq_false (by omega)
      clear hje hj hjl
      have h2 := HGR.out
      have h3 := HP.out.drum.below.size
      have h4 := HQT.out
      have y1 := HP7.out.mod HM.out HN7.out.2 (by omega) HN7.out.1 (by omega)
      have HP8 := hid y1
      have HOP := hid (ops_any wr p own6 D6 y1.drum.at')
      clear h2 h3 h4 y1 HL HM HP7 HN7 HGS HGR HGN hgg
      go_wp2_with (go_at_call 59; refine HOP.out.mono ?_; rintro e w8 ⟨rfl, rfl⟩; clear HOP)
      clear f1
      refine (pst_open_has HP8.out.drum HH6.out).mono ?_
      rintro e w9 ⟨q9, t9, vb9, vl9, rfl, y1, y2, y3, y4, y5⟩
      obtain ⟨ab9, cb9, rfl, -⟩ := y3.sees.form0
      obtain ⟨vs, pb, y4⟩ := y4
      obtain ⟨al9, cl9, rfl⟩ := own_form y4.row
      have hlr := LooseRecs.of y4
      obtain ⟨G, u, rfl, hu, hcu, hlu, -⟩ := hlr.at (i := 0) (r := r) rfl
      have hou := (y4.each 0 u r hu rfl).1
      obtain ⟨au, cu, rfl⟩ := own_form hou
      have HLR9 := hid hlr
      have HPL := hid (PartL.of y3)
      have HU := hid hu
      have HP9 := hid y1
      have HQ9 := hid (And.intro y2 (And.intro y1.pair.lt y1.pair.ql))
      have kB : ∀ w', Ext w9.drew w' → (convert 23 9 (.slice ab9 b.length cb9)).run Try.prog w' = .ok (.string (str b)) w' := fun w' hh => run_str Try.underlying23 Try.underlying5 Try.underlying9 (y3.sees.drew.below hh)
      have kS : ∀ w', Ext w9.drew w' → (convert 23 9 (.slice a0 b.length cap0)).run Try.prog w' = .ok (.string (str b)) w' := fun w' hh => run_str Try.underlying23 Try.underlying5 Try.underlying9 ((H0.out.below y1.drum.below).drew.below hh)
      have kL : ∀ w', Ext w9.drew w' → w'.cell? ⟨G, 0, none⟩ = some (.slice au r.length cu) := fun w' hh => hh.cell (p := ⟨G, 0, none⟩) hcu
      have kU : ∀ w', Ext w9.drew w' → (convert 23 9 (.slice au r.length cu)).run Try.prog w' = .ok (.string (str r)) w' := fun w' hh => run_str Try.underlying23 Try.underlying5 Try.underlying9 ((own_sees hou).drew.below hh)
      have kR : ∀ w', Ext w9.drew w' → (convert 23 9 (.slice a1 r.length cap1)).run Try.prog w' = .ok (.string (str r)) w' := fun w' hh => run_str Try.underlying23 Try.underlying5 Try.underlying9 ((H1.out.below y1.drum.below).drew.below hh)
      clear y1 y2 y3 y4 y5 hlr hu hcu hlu hou
      rw [show [r].length = 1 from rfl] at HLR9 ⊢
      go_wp2_with fail
      refine wp_region_order Ext [] [(0,0),(1,0),(2,0),(3,0),(4,0),(5,0),(6,0),(7,0),(8,0),(9,0),(10,0),(11,0),(12,0),(13,0),(14,0),(15,0),(16,0),(17,0),(18,0),(19,0),(20,0),(21,0),(22,0)] _ (by kernel_rfl) rfl Ext.refl Ext.trans (by kernel_rfl) (by simp only [pick, List.getElem?_toArray, List.getElem?_cons_zero, List.getElem?_cons_succ]; rfl) (fun c a d v w h => by cases d <;> exact h) ?_
      refine wpK_q (v := ?_) (a' := ?_) (by rfl) (fun w' hR => ?_) ?_ ?_
      rotate_left 2
      · go_simp; with_reducible rfl
      · simp only [Act.put, List.setIfInBounds_toArray, List.set_cons_zero, List.set_cons_succ]; rfl
      refine wpK_q (v := ?_) (a' := ?_) (by rfl) (fun w' hR => ?_) ?_ ?_
      rotate_left 2
      · go_simp; with_reducible rfl
      · simp only [Act.put, List.setIfInBounds_toArray, List.set_cons_zero, List.set_cons_succ]; rfl
      refine wpK_q (v := ?_) (a' := ?_) (by rfl) (fun w' hR => ?_) ?_ ?_
      rotate_left 2
      · go_simp; with_reducible rfl
      · simp only [Act.put, List.setIfInBounds_toArray, List.set_cons_zero, List.set_cons_succ]; rfl
      refine wpK_q (v := ?_) (a' := ?_) (by rfl) (fun w' hR => ?_) ?_ ?_
      rotate_left 2
      · go_simp; with_reducible rfl
      · simp only [Act.put, List.setIfInBounds_toArray, List.set_cons_zero, List.set_cons_succ]; rfl
      refine wpK_q (v := ?_) (a' := ?_) (by rfl) (fun w' hR => ?_) ?_ ?_
      rotate_left 2
      · go_simp; with_reducible rfl
      · simp only [Act.put, List.setIfInBounds_toArray, List.set_cons_zero, List.set_cons_succ]; rfl
      refine wpK_q (v := ?_) (a' := ?_) (by rfl) (fun w' hR => ?_) ?_ ?_
      rotate_left 2
      · go_simp; with_reducible rfl
      · simp only [Act.put, List.setIfInBounds_toArray, List.set_cons_zero, List.set_cons_succ]; rfl
      refine wpK_q (v := ?_) (a' := ?_) (by rfl) (fun w' hR => ?_) ?_ ?_
      rotate_left 2
      · go_simp; with_reducible rfl
      · simp only [Act.put, List.setIfInBounds_toArray, List.set_cons_zero, List.set_cons_succ]; rfl
      refine wpK_q (v := ?_) (a' := ?_) (by rfl) (fun w' hR => ?_) ?_ ?_
      rotate_left 2
      · go_simp; with_reducible rfl
      · simp only [Act.put, List.setIfInBounds_toArray, List.set_cons_zero, List.set_cons_succ]; rfl
      refine wpK_q (v := ?_) (a' := ?_) (by rfl) (fun w' hR => ?_) ?_ ?_
      rotate_left 2
      · go_simp; with_reducible rfl
      · simp only [Act.put, List.setIfInBounds_toArray, List.set_cons_zero, List.set_cons_succ]; rfl
      refine wpK_q (v := ?_) (a' := ?_) (by rfl) (fun w' hR => ?_) ?_ ?_
      rotate_left 2
      · go_simp; with_reducible rfl
      · simp only [Act.put, List.setIfInBounds_toArray, List.set_cons_zero, List.set_cons_succ]; rfl
      refine wpK_q (v := ?_) (a' := ?_) (by rfl) (fun w' hR => ?_) ?_ ?_
      rotate_left 2
      · go_simp; with_reducible rfl
      · simp only [Act.put, List.setIfInBounds_toArray, List.set_cons_zero, List.set_cons_succ]; rfl
      refine wpK_q (v := ?_) (a' := ?_) (by rfl) (fun w' hR => ?_) ?_ ?_
      rotate_left 2
      · go_simp; with_reducible rfl
      · simp only [Act.put, List.setIfInBounds_toArray, List.set_cons_zero, List.set_cons_succ]; rfl
      refine wpK_q (v := ?_) (a' := ?_) (by rfl) (fun w' hR => ?_) ?_ ?_
      rotate_left 2
      · go_simp; with_reducible rfl
      · simp only [Act.put, List.setIfInBounds_toArray, List.set_cons_zero, List.set_cons_succ]; rfl
      refine wpK_q (v := ?_) (a' := ?_) (by rfl) (fun w' hR => ?_) ?_ ?_
      rotate_left 2
      · go_simp; with_reducible rfl
      · simp only [Act.put, List.setIfInBounds_toArray, List.set_cons_zero, List.set_cons_succ]; rfl
      refine wpK_q (v := ?_) (a' := ?_) (by rfl) (fun w' hR => ?_) ?_ ?_
      rotate_left 2
      · go_simp; with_reducible rfl
      · simp only [Act.put, List.setIfInBounds_toArray, List.set_cons_zero, List.set_cons_succ]; rfl
      refine wpK_q (v := ?_) (a' := ?_) (by rfl) (fun w' hR => ?_) ?_ ?_
      rotate_left 2
      · go_simp; with_reducible rfl
      · simp only [Act.put, List.setIfInBounds_toArray, List.set_cons_zero, List.set_cons_succ]; rfl
      refine wpK_q (v := ?_) (a' := ?_) (by rfl) (fun w' hR => ?_) ?_ ?_
      rotate_left 2
      · go_simp; with_reducible rfl
      · simp only [Act.put, List.setIfInBounds_toArray, List.set_cons_zero, List.set_cons_succ]; rfl
      refine wpK_q (v := ?_) (a' := ?_) (by rfl) (fun w' hR => ?_) ?_ ?_
      rotate_left 2
      · go_simp; with_reducible rfl
      · simp only [Act.put, List.setIfInBounds_toArray, List.set_cons_zero, List.set_cons_succ]; rfl
      refine wpK_q (v := ?_) (a' := ?_) (by rfl) (fun w' hR => ?_) ?_ ?_
      rotate_left 2
      · go_simp; with_reducible rfl
      · simp only [Act.put, List.setIfInBounds_toArray, List.set_cons_zero, List.set_cons_succ]; rfl
      refine wpK_q (v := ?_) (a' := ?_) (by rfl) (fun w' hR => ?_) ?_ ?_
      rotate_left 2
      · go_simp; with_reducible rfl
      · simp only [Act.put, List.setIfInBounds_toArray, List.set_cons_zero, List.set_cons_succ]; rfl
      refine wpK_q (v := ?_) (a' := ?_) (by rfl) (fun w' hR => ?_) ?_ ?_
      rotate_left 2
      · go_simp; with_reducible rfl
      · simp only [Act.put, List.setIfInBounds_toArray, List.set_cons_zero, List.set_cons_succ]; rfl
      refine wpK_q (v := ?_) (a' := ?_) (by rfl) (fun w' hR => ?_) ?_ ?_
      rotate_left 2
      · go_simp; with_reducible rfl
      · simp only [Act.put, List.setIfInBounds_toArray, List.set_cons_zero, List.set_cons_succ]; rfl
      refine wpK_q (v := ?_) (a' := ?_) (by rfl) (fun w' hR => ?_) ?_ ?_
      rotate_left 2
      · go_simp; with_reducible rfl
      · simp only [Act.put, List.setIfInBounds_toArray, List.set_cons_zero, List.set_cons_succ]; rfl
      refine wpK_done ?_
      clear kB kS kL kU kR
      go_wp2
      have hq9 := HQ9.out
      go_loopw [132] (fun i wx => ∃ j : Nat, j ≤ b.length ∧ i = I j ∧ Hid (PartL wx (q9 + 1) (.slice ab9 b.length cb9) b.length) ∧ Hid (LooseRecs wx (t9 + 1) (.slice (some ⟨G, 0, none⟩) 1 cl9) vs [r]) ∧ Hid (Below (q9 + 1) w9 wx)) (fun i _ => b.length - (intOf i).toNat)
      case atStart => exact ⟨0, by omega, rfl, HPL, hid ⟨HLR9.out.row, HLR9.out.len, HLR9.out.each⟩, hid ((Ext.drew w9).mono (by omega))⟩
      case round =>
        clear HPL HLR9
        obtain ⟨j, hj, rfl, HPL, HLR9, HB9⟩ := hrel
        by_cases hjl : j < b.length
        · have f1 : decide ((j : Int) < (b.length : Int)) = true := decide_eq_true (by omega)
          obtain ⟨g, c0, rfl, -, hcell, hfr, hg1, hg2⟩ := HPL.out.at hjl
          have HL2 := hid (HPL.out.set g (12 + j) 9)
          have HL3 := hid (HLR9.out.set (HLR9.out.not hg2) (12 + j) 9)
          have HB2 := hid (HB9.out.setCell (p := ⟨g, 12 + j, none⟩) hg1 (B 9))
          clear hg1 hg2 HPL HLR9 HB9
          go_wp2
          go_roundw
          case rel => exact ⟨j + 1, by omega, by go_num, HL2, HL3, HB2⟩
          case measure => simp [intOf]; omega
        have f1 : decide ((j : Int) < (b.length : Int)) = false := decide_eq_false (by omega)
        obtain ⟨G', u', e1, hu', hcu, -, -⟩ := HLR9.out.at (i := 0) (r := r) rfl
        simp only [Option.some.injEq, Addr.mk.injEq, and_true] at e1
        subst e1
        rw [HU.out] at hu'
        obtain rfl := Option.some.inj hu'
        clear HPL
        go_wp2
        clear hcu f1 hjl hj
        generalize hwz : wr = wy at *
        clear hwz
        go_loopw [143] (fun i wx => ∃ m : Nat, m ≤ r.length ∧ i = I m ∧ Hid (LooseRecs wx (t9 + 1) (.slice (some ⟨G, 0, none⟩) 1 cl9) vs [r]) ∧ Hid (Below (q9 + 1) w9 wx)) (fun i _ => r.length - (intOf i).toNat)
        case atStart => exact ⟨0, by omega, rfl, HLR9, HB9⟩
        case round =>
          clear HLR9 HB9
          obtain ⟨m, hm, rfl, HLR9, HB9⟩ := hrel
          by_cases hmr : m < r.length
          · have f2 : decide ((m : Int) < (r.length : Int)) = true := decide_eq_true (by omega)
            obtain ⟨G', u', e1, hu', hcu, hlo, hou⟩ := HLR9.out.at (i := 0) (r := r) rfl
            simp only [Option.some.injEq, Addr.mk.injEq, and_true] at e1
            subst e1
            rw [HU.out] at hu'
            obtain rfl := Option.some.inj hu'
            obtain ⟨g, c0, rfl, hgc, hcell, hfr⟩ := hlo.at hmr
            have hgo := hou g rfl
            have HL2 := hid (HLR9.out.set hgo.1 m 9)
            have HB2 := hid (HB9.out.setCell (p := ⟨g, m, none⟩) (by have := hgo.2; show q9 + 1 ≤ g; omega) (B 9))
            clear hlo hou hgo hu'
            go_wp2
            go_roundw
            case rel => exact ⟨m + 1, by omega, by go_num, HL2, HB2⟩
            case measure => simp [intOf]; omega
          have f2 : decide ((m : Int) < (r.length : Int)) = false := decide_eq_false (by omega)
          have hst := HP9.out.drum.keepBelow (n := q9 + 1) (fun k hk => by have := HP8.out.drum.at'.lt k hk; omega) (by have := HP8.out.drum.below.size; omega) HB9.out
          have HOP := hid (pst_open_has hst HH6.out)
          clear hst HLR9 HB9 HU
          go_wp2_with fail
          refine HOP.out.mono ?_
          rintro e w10 ⟨q10, t10, vb10, vl10, rfl, y1, y2, y3, y4, y5⟩
          obtain ⟨ab10, cb10, rfl, -⟩ := y3.sees.form0
          obtain ⟨vs', pb', y4⟩ := y4
          obtain ⟨al10, cl10, rfl⟩ := own_form y4.row
          obtain ⟨G10, u', rfl, hu, hcu, hlu, -⟩ := (LooseRecs.of y4).at (i := 0) (r := r) rfl
          have hou := (y4.each 0 u' r hu rfl).1
          obtain ⟨au', cu', rfl⟩ := own_form hou
          have HP10 := hid y1
          have kB : ∀ w', Ext w10.drew w' → (convert 23 9 (.slice ab10 b.length cb10)).run Try.prog w' = .ok (.string (str b)) w' := fun w' hh => run_str Try.underlying23 Try.underlying5 Try.underlying9 (y3.sees.drew.below hh)
          have kS : ∀ w', Ext w10.drew w' → (convert 23 9 (.slice a0 b.length cap0)).run Try.prog w' = .ok (.string (str b)) w' := fun w' hh => run_str Try.underlying23 Try.underlying5 Try.underlying9 ((H0.out.below y1.drum.below).drew.below hh)
          have kL : ∀ w', Ext w10.drew w' → w'.cell? ⟨G10, 0, none⟩ = some (.slice au' r.length cu') := fun w' hh => hh.cell (p := ⟨G10, 0, none⟩) hcu
          have kU : ∀ w', Ext w10.drew w' → (convert 23 9 (.slice au' r.length cu')).run Try.prog w' = .ok (.string (str r)) w' := fun w' hh => run_str Try.underlying23 Try.underlying5 Try.underlying9 ((own_sees hou).drew.below hh)
          have kR : ∀ w', Ext w10.drew w' → (convert 23 9 (.slice a1 r.length cap1)).run Try.prog w' = .ok (.string (str r)) w' := fun w' hh => run_str Try.underlying23 Try.underlying5 Try.underlying9 ((H1.out.below y1.drum.below).drew.below hh)
          clear y1 y2 y3 y4 y5 hu hcu hlu hou HOP
          rw [show [r].length = 1 from rfl]
          go_wp2_with fail
          refine wp_region_order Ext [] [(0,0),(1,0),(2,0),(3,0),(4,0),(5,0),(6,0),(7,0),(8,0),(9,0),(10,0),(11,0),(12,0),(13,0),(14,0),(15,0),(16,0),(17,0),(18,0),(19,0),(20,0),(21,0),(22,0),(23,0),(24,0),(26,0),(25,1),(27,0),(28,0),(29,0)] _ (by kernel_rfl) rfl Ext.refl Ext.trans (by kernel_rfl) (by simp only [pick, List.getElem?_toArray, List.getElem?_cons_zero, List.getElem?_cons_succ]; rfl) (fun c a d v w h => by cases d <;> exact h) ?_
          refine wpK_q (v := ?_) (a' := ?_) (by rfl) (fun w' hR => ?_) ?_ ?_
          rotate_left 2
          · go_simp; with_reducible rfl
          · simp only [Act.put, List.setIfInBounds_toArray, List.set_cons_zero, List.set_cons_succ]; rfl
          refine wpK_q (v := ?_) (a' := ?_) (by rfl) (fun w' hR => ?_) ?_ ?_
          rotate_left 2
          · go_simp; with_reducible rfl
          · simp only [Act.put, List.setIfInBounds_toArray, List.set_cons_zero, List.set_cons_succ]; rfl
          refine wpK_q (v := ?_) (a' := ?_) (by rfl) (fun w' hR => ?_) ?_ ?_
          rotate_left 2
          · go_simp; with_reducible rfl
          · simp only [Act.put, List.setIfInBounds_toArray, List.set_cons_zero, List.set_cons_succ]; rfl
          refine wpK_q (v := ?_) (a' := ?_) (by rfl) (fun w' hR => ?_) ?_ ?_
          rotate_left 2
          · go_simp; with_reducible rfl
          · simp only [Act.put, List.setIfInBounds_toArray, List.set_cons_zero, List.set_cons_succ]; rfl
          refine wpK_q (v := ?_) (a' := ?_) (by rfl) (fun w' hR => ?_) ?_ ?_
          rotate_left 2
          · go_simp; with_reducible rfl
          · simp only [Act.put, List.setIfInBounds_toArray, List.set_cons_zero, List.set_cons_succ]; rfl
          refine wpK_q (v := ?_) (a' := ?_) (by rfl) (fun w' hR => ?_) ?_ ?_
          rotate_left 2
          · go_simp; with_reducible rfl
          · simp only [Act.put, List.setIfInBounds_toArray, List.set_cons_zero, List.set_cons_succ]; rfl
          refine wpK_q (v := ?_) (a' := ?_) (by rfl) (fun w' hR => ?_) ?_ ?_
          rotate_left 2
          · go_simp; with_reducible rfl
          · simp only [Act.put, List.setIfInBounds_toArray, List.set_cons_zero, List.set_cons_succ]; rfl
          refine wpK_q (v := ?_) (a' := ?_) (by rfl) (fun w' hR => ?_) ?_ ?_
          rotate_left 2
          · go_simp; with_reducible rfl
          · simp only [Act.put, List.setIfInBounds_toArray, List.set_cons_zero, List.set_cons_succ]; rfl
          refine wpK_q (v := ?_) (a' := ?_) (by rfl) (fun w' hR => ?_) ?_ ?_
          rotate_left 2
          · go_simp; with_reducible rfl
          · simp only [Act.put, List.setIfInBounds_toArray, List.set_cons_zero, List.set_cons_succ]; rfl
          refine wpK_q (v := ?_) (a' := ?_) (by rfl) (fun w' hR => ?_) ?_ ?_
          rotate_left 2
          · go_simp; with_reducible rfl
          · simp only [Act.put, List.setIfInBounds_toArray, List.set_cons_zero, List.set_cons_succ]; rfl
          refine wpK_q (v := ?_) (a' := ?_) (by rfl) (fun w' hR => ?_) ?_ ?_
          rotate_left 2
          · go_simp; with_reducible rfl
          · simp only [Act.put, List.setIfInBounds_toArray, List.set_cons_zero, List.set_cons_succ]; rfl
          refine wpK_q (v := ?_) (a' := ?_) (by rfl) (fun w' hR => ?_) ?_ ?_
          rotate_left 2
          · go_simp; with_reducible rfl
          · simp only [Act.put, List.setIfInBounds_toArray, List.set_cons_zero, List.set_cons_succ]; rfl
          refine wpK_q (v := ?_) (a' := ?_) (by rfl) (fun w' hR => ?_) ?_ ?_
          rotate_left 2
          · go_simp; with_reducible rfl
          · simp only [Act.put, List.setIfInBounds_toArray, List.set_cons_zero, List.set_cons_succ]; rfl
          refine wpK_q (v := ?_) (a' := ?_) (by rfl) (fun w' hR => ?_) ?_ ?_
          rotate_left 2
          · go_simp; with_reducible rfl
          · simp only [Act.put, List.setIfInBounds_toArray, List.set_cons_zero, List.set_cons_succ]; rfl
          refine wpK_q (v := ?_) (a' := ?_) (by rfl) (fun w' hR => ?_) ?_ ?_
          rotate_left 2
          · go_simp; with_reducible rfl
          · simp only [Act.put, List.setIfInBounds_toArray, List.set_cons_zero, List.set_cons_succ]; rfl
          refine wpK_q (v := ?_) (a' := ?_) (by rfl) (fun w' hR => ?_) ?_ ?_
          rotate_left 2
          · go_simp; with_reducible rfl
          · simp only [Act.put, List.setIfInBounds_toArray, List.set_cons_zero, List.set_cons_succ]; rfl
          refine wpK_q (v := ?_) (a' := ?_) (by rfl) (fun w' hR => ?_) ?_ ?_
          rotate_left 2
          · go_simp; with_reducible rfl
          · simp only [Act.put, List.setIfInBounds_toArray, List.set_cons_zero, List.set_cons_succ]; rfl
          refine wpK_q (v := ?_) (a' := ?_) (by rfl) (fun w' hR => ?_) ?_ ?_
          rotate_left 2
          · go_simp; with_reducible rfl
          · simp only [Act.put, List.setIfInBounds_toArray, List.set_cons_zero, List.set_cons_succ]; rfl
          refine wpK_q (v := ?_) (a' := ?_) (by rfl) (fun w' hR => ?_) ?_ ?_
          rotate_left 2
          · go_simp; with_reducible rfl
          · simp only [Act.put, List.setIfInBounds_toArray, List.set_cons_zero, List.set_cons_succ]; rfl
          refine wpK_q (v := ?_) (a' := ?_) (by rfl) (fun w' hR => ?_) ?_ ?_
          rotate_left 2
          · go_simp; with_reducible rfl
          · simp only [Act.put, List.setIfInBounds_toArray, List.set_cons_zero, List.set_cons_succ]; rfl
          refine wpK_q (v := ?_) (a' := ?_) (by rfl) (fun w' hR => ?_) ?_ ?_
          rotate_left 2
          · go_simp; with_reducible rfl
          · simp only [Act.put, List.setIfInBounds_toArray, List.set_cons_zero, List.set_cons_succ]; rfl
          refine wpK_q (v := ?_) (a' := ?_) (by rfl) (fun w' hR => ?_) ?_ ?_
          rotate_left 2
          · go_simp; with_reducible rfl
          · simp only [Act.put, List.setIfInBounds_toArray, List.set_cons_zero, List.set_cons_succ]; rfl
          refine wpK_q (v := ?_) (a' := ?_) (by rfl) (fun w' hR => ?_) ?_ ?_
          rotate_left 2
          · go_simp; with_reducible rfl
          · simp only [Act.put, List.setIfInBounds_toArray, List.set_cons_zero, List.set_cons_succ]; rfl
          refine wpK_q (v := ?_) (a' := ?_) (by rfl) (fun w' hR => ?_) ?_ ?_
          rotate_left 2
          · go_simp; with_reducible rfl
          · simp only [Act.put, List.setIfInBounds_toArray, List.set_cons_zero, List.set_cons_succ]; rfl
          refine wpK_q (v := ?_) (a' := ?_) (by rfl) (fun w' hR => ?_) ?_ ?_
          rotate_left 2
          · go_simp; with_reducible rfl
          · simp only [Act.put, List.setIfInBounds_toArray, List.set_cons_zero, List.set_cons_succ]; rfl
          refine wpK_q (v := ?_) (a' := ?_) (by rfl) (fun w' hR => ?_) ?_ ?_
          rotate_left 2
          · go_simp; with_reducible rfl
          · simp only [Act.put, List.setIfInBounds_toArray, List.set_cons_zero, List.set_cons_succ]; rfl
          refine wpK_call Try.func59 (by kernel_rfl) rfl rfl (by rfl) #[.pointer (some ⟨p, 0, none⟩)] (by simp only [List.map_toArray, List.map_cons, List.map_nil]; rfl) ?_
          refine (ops_any _ p own6 D6 (HP10.out.drum.on (Ext.drew w10)).at').mono ?_
          rintro e w11 ⟨rfl, rfl⟩
          refine ⟨_, rfl, fun _ => Ext.refl _, ?_⟩
          refine wpK_q (v := ?_) (a' := ?_) (by rfl) (fun w' hR => ?_) ?_ ?_
          rotate_left 2
          · go_simp; with_reducible rfl
          · simp only [Act.put, List.setIfInBounds_toArray, List.set_cons_zero, List.set_cons_succ]; rfl
          refine wpK_q (v := ?_) (a' := ?_) (by rfl) (fun w' hR => ?_) ?_ ?_
          rotate_left 2
          · go_simp; with_reducible rfl
          · simp only [Act.put, List.setIfInBounds_toArray, List.set_cons_zero, List.set_cons_succ]; rfl
          refine wpK_q (v := ?_) (a' := ?_) (by rfl) (fun w' hR => ?_) ?_ ?_
          rotate_left 2
          · go_simp; with_reducible rfl
          · simp only [Act.put, List.setIfInBounds_toArray, List.set_cons_zero, List.set_cons_succ]; rfl
          refine wpK_done ?_
          clear kB kS kL kU kR
          go_wp2
          go_ret
          exact ⟨rfl, (HP10.out.drum.on (Ext.drew w10)).below⟩
namespace pairKeeps
theorem walkAll (a0 : Option Addr) (cap0 : Nat) (b : List UInt8) {w : World} (h0 : Sees w (.slice a0 b.length cap0) b) (a1 : Option Addr) (cap1 : Nat) (r : List UInt8) (h1 : Sees w (.slice a1 r.length cap1) r) (w' : World) (e : w = w') :
    Calls Try.prog 20 #[.slice a0 b.length cap0, .slice a1 r.length cap1] w' fun e w'' => e = .returned (.bool true) ∧ Below w'.heap.size w' w'' := by
  subst e
  exact pkeeps_walk w a0 cap0 b h0 a1 cap1 r h1
end pairKeeps
end Go.Proofs.Ytoaeapnkefjpaaa
