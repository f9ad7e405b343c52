/-
  Part 5 of what PairDoes lean on: contracts of the functions that they reach, and plain lemmas. Conditions: those that each lemma names.
-/
import Derived.Laws.BitsAllLaws
import Derived.Deep.DeepMust
import Derived.Lib.AppendStr
import Derived.Deep.CutBlock
import Derived.Test.YtoaeapnkefjpaaaPX3
import Derived.Test.YtoaeapnkefjpaaaPX4
import Derived.Test.YtoaeapnkefjpaaaPX2
namespace Go.Proofs.Ytoaeapnkefjpaaa
open Go.RowKit
set_option linter.unusedVariables false
set_option linter.unusedSimpArgs false

theorem tst_open_on {w0 w : World} {own : Nat → Prop} {p : Nat} {D : DS} {lo hi : Nat} {recs : List (List UInt8)} (h : St w0 own p D w) (ho : TS.On D lo hi recs) :
    Calls Try.prog 65 #[.pointer (some ⟨p, 0, none⟩), I lo, I hi] w fun e w' => ∃ t v, e = .returned (.tuple #[.pointer (some ⟨t, 0, none⟩), v, I 0]) ∧
      TSt w0 own p t ⟨lo, hi, (TS.encs 0 recs).length, recs.length, 0⟩ D w' ∧ w.heap.size ≤ t ∧ Recs w' (t + 1) v recs ∧ Below w.heap.size w w' := by
  have hn := h.at'.ok.n2
  have := tst_open h lo hi (by have := ho.lt; have := ho.le; omega) (by have := ho.lt; have := ho.le; omega)
  rw [ho.opn] at this
  refine this.mono fun e w' hx => ?_
  rcases hx with ⟨h1, -⟩ | ⟨-, t, v, h1, h2, h3, h4, h5⟩
  · exact absurd rfl h1
  · exact ⟨t, v, h1, h2, h3, h4, h5⟩
theorem tst_append_on {w0 w : World} {own : Nat → Prop} {p t : Nat} {T : TS} {D : DS} {recs : List (List UInt8)} (h : TSt w0 own p t T D w) (hh : TS.Holds D T recs) {v : Value} {r : List UInt8} (hv : Sees w v r) (hr : r.length ≤ 65536) (hs : T.pos + 12 + r.length ≤ T.size) (hN : D.waits.length ≤ 800000000) :
    Calls Try.prog 66 #[.pointer (some ⟨t, 0, none⟩), v] w fun e w' => e = .returned (I 0) ∧ ∃ own' T' D', TSt w0 own' p t T' D' w' ∧ TS.Holds D' T' (recs ++ [r]) ∧ T'.lo = T.lo ∧ T'.hi = T.hi ∧ T'.pos = T.pos + 12 + r.length ∧ D'.waits.length ≤ D.waits.length + 400 ∧ D'.safe.length = D.safe.length := by
  obtain ⟨h1, h2, h3, h4, h5⟩ := hh.append hr hs
  refine (tst_append h hv hN).mono fun e w' hx => ?_
  obtain ⟨k1, own', k2, -⟩ := hx
  rw [h1] at k1
  exact ⟨k1, own', _, _, k2, h2, h3, h4, h5, TS.append_waits D T r, TS.append_len D T r⟩
/-- Between two rounds of TapeClears. -/
def ClOut (w : World) (p k : Nat) (wr : World) : Prop := ∃ own D recs, St w own p D wr ∧ TS.On D 0 80 recs ∧ (k = 0 → recs = []) ∧ D.waits.length ≤ 20000 * k
/-- Between two records. -/
def ClIn (w : World) (p t k : Nat) (L : List (List UInt8)) (i : Nat) (wr : World) : Prop := ∃ own T D, TSt w own p t T D wr ∧ TS.Holds D T (L.take i) ∧ T.lo = 0 ∧ T.hi = 80 ∧ T.pos ≤ 612 * i ∧ D.waits.length ≤ 20000 * k + 1 + 400 * i
set_option maxRecDepth 100000 in
set_option maxHeartbeats 3200000 in
theorem clears_walk (w : World) (a0 : Option Addr) (cap0 : Nat) (L0 : List (List UInt8)) (h0 : Shows w (.slice a0 L0.length cap0) L0) (a1 : Option Addr) (cap1 : Nat) (L1 : List (List UInt8)) (h1 : Shows w (.slice a1 L1.length cap1) L1) :
    Calls Try.prog 18 #[.slice a0 L0.length cap0, .slice a1 L1.length cap1] w fun e w' => e = .returned (.bool true) ∧ Below w.heap.size w w' := by
  have H0 := hid h0
  have H1 := hid h1
  obtain ⟨_, _, _, m0⟩ := h0.len
  obtain ⟨_, _, _, m1⟩ := h1.len
  unfold maxLen at m0 m1
  clear h0 h1
  have hcases : 30 < L0.length ∨ (L0.length ≤ 30 ∧ 30 < L1.length) ∨ (L0.length ≤ 30 ∧ L1.length ≤ 30) := by omega
  rcases hcases with c | ⟨c, d⟩ | ⟨c, d⟩
  · have e0 : decide ((30 : Int) < (L0.length : Int)) = true := decide_eq_true (by omega)
    go_enter Try.func18, Try.ntmps18
    go_wp2_with (go_at_call 64; refine (wakes4_any _).mono ?_; rintro e w1 ⟨rfl, hb⟩; have HB := hid hb; clear hb)
    go_ret
    exact ⟨rfl, HB.out⟩
  · have e0 : decide ((30 : Int) < (L0.length : Int)) = false := decide_eq_false (by omega)
    have e1 : decide ((30 : Int) < (L1.length : Int)) = true := decide_eq_true (by omega)
    go_enter Try.func18, Try.ntmps18
    go_wp2_with (go_at_call 64; refine (wakes4_any _).mono ?_; rintro e w1 ⟨rfl, hb⟩; have HB := hid hb; clear hb)
    go_ret
    exact ⟨rfl, HB.out⟩
  · have e0 : decide ((30 : Int) < (L0.length : Int)) = false := decide_eq_false (by omega)
    have e1 : decide ((30 : Int) < (L1.length : Int)) = false := decide_eq_false (by omega)
    go_enter Try.func18, Try.ntmps18
    go_wp2_with (first | (go_at_call 64; refine (wakes4_any _).mono ?_; rintro e w1 ⟨rfl, hb⟩; have HB := hid hb; clear hb) | (go_at_call 36; refine (st_new _ 80 (by omega)).mono ?_; rintro e w2 ⟨p, own, rfl, h⟩; have HS := hid (show St w own p (DS.new 80) w2 from h.back HB.out); clear h HB))
    clear e0 e1
    go_loopw [6] (fun i wr => ∃ k : Nat, k ≤ 2 ∧ i = I k ∧ Hid (ClOut w p k wr)) (fun i _ => 2 - (intOf i).toNat)
    case atStart => exact ⟨0, by omega, rfl, hid ⟨own, _, _, HS.out, TS.On.new (by omega) (by omega) (by omega) (by omega), fun _ => rfl, by decide⟩⟩
    case round =>
      clear HS
      obtain ⟨k, hk, rfl, HK⟩ := hrel
      have hk3 : k = 0 ∨ k = 1 ∨ k = 2 := by omega
      rcases hk3 with rfl | rfl | rfl
      rotate_left 2
      · go_wp2
        go_ret
        obtain ⟨ow, D, rc, h1, -⟩ := HK.out
        exact ⟨rfl, h1.below⟩
      -- ROUNDS
      · skip
        obtain ⟨ow, D, rc, hst, hon, hrc, hwt⟩ := HK.out
        obtain rfl := hrc rfl
        have hop := tst_open_on (lo := 0) (hi := 80) hst hon
        have hop' : Calls Try.prog 65 #[.pointer (some ⟨p, 0, none⟩), I 0, I 80] wr _ := hop
        have HOP := hid hop'
        have HON := hid hon
        have HWT : Hid (D.waits.length ≤ 20000 * 0 + 1) := hid (by omega)
        clear hop hop' hst hon hrc hwt
        go_wp2_with fail
        refine HOP.out.mono ?_
        rintro e w3 ⟨t, v, rfl, ht, hlt, hrc, hb⟩
        obtain ⟨ao, co, rfl⟩ := hrc.form
        have HIN : Hid (ClIn w p t 0 L0 0 w3) := hid ⟨ow, _, D, ht, by simpa using HON.out.holds, rfl, rfl, by simp [TS.encs], by have := HWT.out; omega⟩
        clear HOP HON HWT ht hlt hrc hb HK
        rw [List.length_nil]
        go_wp2
        go_loopw [54] (fun i wr => ∃ n : Nat, n ≤ L0.length ∧ i = I n ∧ Hid (ClIn w p t 0 L0 n wr)) (fun i _ => L0.length - (intOf i).toNat)
        case atStart => exact ⟨0, by omega, rfl, HIN⟩
        case round =>
          clear HIN
          obtain ⟨n, hn, rfl, HIN⟩ := hrel
          by_cases hlt : n < L0.length
          · obtain ⟨r, hr⟩ : ∃ r, L0[n]? = some r := ⟨_, List.getElem?_eq_getElem hlt⟩
            obtain ⟨g, off, u, hga, hc, hs⟩ := H0.out.at hr
            obtain ⟨oi, T, Di, hti, hho, hlo, hhi, hps, hwt⟩ := HIN.out
            have hbw := hti.drum.below
            have hc' := (World.cell?_of_block (w := w) (a := ⟨g, off + n, none⟩) (hbw.block g (cell_lt hc))).trans hc
            have hs' := hs.below hbw
            obtain ⟨au, cu, rfl, hul⟩ := hs'.form0
            have HBW := hid hbw
            by_cases h6 : 600 < r.length
            · have h6' : decide ((600 : Int) < (r.length : Int)) = true := decide_eq_true (by omega)
              subst hga
              clear hti hho hlo hhi hps hwt hs' hbw
              go_wp2
              go_ret
              exact ⟨rfl, HBW.out⟩
            · have h6' : decide ((600 : Int) < (r.length : Int)) = false := decide_eq_false (by omega)
              have hsz : T.size = 80 * 256 := by unfold TS.size; rw [hlo, hhi]
              have hap := tst_append_on hti hho hs' (by omega) (by omega) (by omega)
              have HAP := hid hap
              have HNX := hid (fun (own' : Nat → Prop) (T' : TS) (D' : DS) (w' : World) (x1 : TSt w own' p t T' D' w') (x2 : TS.Holds D' T' (L0.take n ++ [r])) (x3 : T'.lo = T.lo) (x4 : T'.hi = T.hi) (x5 : T'.pos = T.pos + 12 + r.length) (x6 : D'.waits.length ≤ Di.waits.length + 400) =>
                (⟨own', T', D', x1, by rw [take_snoc hr]; exact x2, x3.trans hlo, x4.trans hhi, by omega, by omega⟩ : ClIn w p t 0 L0 (n + 1) w'))
              subst hga
              clear hti hho hlo hhi hps hwt hs' hbw hap hsz
              go_wp2_with (go_at_call 66; refine HAP.out.mono ?_; rintro e w4 ⟨rfl, own', T', D', x1, x2, x3, x4, x5, x6, x7⟩; have HI2 := hid (HNX.out own' T' D' w4 x1 x2 x3 x4 x5 x6); clear x1 x2 x3 x4 x5 x6 x7)
              go_roundw
              case rel => exact ⟨n + 1, by omega, by go_num, HI2⟩
              case measure => simp [intOf]; omega
          · have hnl : n = L0.length := by omega
            subst hnl
            obtain ⟨oi, T, Di, hti, hho, hlo, hhi, hps, hwt⟩ := HIN.out
            rw [List.take_length] at hho
            have hon := hho.on
            rw [hlo, hhi] at hon
            have hop := tst_open_on (lo := 0) (hi := 80) hti.drum hon
            have hop' : Calls Try.prog 65 #[.pointer (some ⟨p, 0, none⟩), I 0, I 80] wr _ := hop
            have HOP := hid hop'
            have HON := hid hon
            have HWT := hid hwt
            clear hop hop' hti hho hlo hhi hps hwt hon HIN
            go_wp2_with (go_at_call 65; refine HOP.out.mono ?_; rintro e w5 ⟨t2, v2, rfl, ht2, hlt2, hrc2, hb2⟩; obtain ⟨ao2, co2, rfl⟩ := hrc2.form; have HSH := hid hrc2.shows; have HT2 := hid ht2; clear ht2 hlt2 hrc2 hb2)
            have hal := alike_any w5 _ _ L0 L0 HSH.out (H0.out.below HT2.out.drum.below)
            rw [decide_eq_true rfl] at hal
            have HAL := hid hal
            clear hal
            go_wp2_with (go_at_call 67; refine HAL.out.mono ?_; rintro e w6 ⟨rfl, m6, rfl⟩)
            go_roundw
            case rel => exact ⟨0 + 1, by omega, by go_num, hid ⟨oi, Di, L0, HT2.out.drum.on (below_drewN _ _), HON.out, fun h => by omega, by have := HWT.out; omega⟩⟩
            case measure => simp [intOf]
      · skip
        obtain ⟨ow0, D0, rc, hst0, hon0, -, hwt⟩ := HK.out
        have hcl := tclear_any wr p ow0 D0 0 hst0.at' (by omega) (by omega)
        obtain ⟨hc1, hc2⟩ := TS.On.clear hon0.live hon0.lt hon0.le
        have hcw := DS.write_waits' D0 ((0 : Nat) : Int) page0
        have hz0 : ((0 : Nat) : Int) = 0 := rfl
        rw [hz0] at hc1 hc2 hcw
        rw [hc1] at hcl
        have HCL := hid hcl
        have HST0 := hid hst0
        have HC2 := hid hc2
        have HCW := hid (Nat.le_trans hcw (Nat.add_le_add_right hwt 1))
        clear hcl hst0 hon0 hwt hc1 hc2 hcw hz0
        go_wp2_with (go_at_call 68; refine HCL.out.mono ?_; rintro e wc ⟨rfl, hd⟩; have HD := hid hd; clear hd)
        obtain ⟨ow, hst, -⟩ := HST0.out.step' HD.out
        generalize (D0.write 0 page0).2 = D at *
        have hop := tst_open_on (lo := 0) (hi := 80) hst HC2.out
        have hop' : Calls Try.prog 65 #[.pointer (some ⟨p, 0, none⟩), I 0, I 80] wc _ := hop
        have HOP := hid hop'
        have HON := HC2
        have HWT : Hid (D.waits.length ≤ 20000 * 1 + 1) := hid (by have := HCW.out; omega)
        clear hop hop' hst HD HST0 HCL HC2 HCW
        refine HOP.out.mono ?_
        rintro e w3 ⟨t, v, rfl, ht, hlt, hrc, hb⟩
        obtain ⟨ao, co, rfl⟩ := hrc.form
        have HIN : Hid (ClIn w p t 1 L1 0 w3) := hid ⟨ow, _, D, ht, by simpa using HON.out.holds, rfl, rfl, by simp [TS.encs], by have := HWT.out; omega⟩
        clear HOP HON HWT ht hlt hrc hb HK
        rw [List.length_nil]
        go_wp2
        go_loopw [54] (fun i wr => ∃ n : Nat, n ≤ L1.length ∧ i = I n ∧ Hid (ClIn w p t 1 L1 n wr)) (fun i _ => L1.length - (intOf i).toNat)
        case atStart => exact ⟨0, by omega, rfl, HIN⟩
        case round =>
          clear HIN
          obtain ⟨n, hn, rfl, HIN⟩ := hrel
          by_cases hlt : n < L1.length
          · obtain ⟨r, hr⟩ : ∃ r, L1[n]? = some r := ⟨_, List.getElem?_eq_getElem hlt⟩
            obtain ⟨g, off, u, hga, hc, hs⟩ := H1.out.at hr
            obtain ⟨oi, T, Di, hti, hho, hlo, hhi, hps, hwt⟩ := HIN.out
            have hbw := hti.drum.below
            have hc' := (World.cell?_of_block (w := w) (a := ⟨g, off + n, none⟩) (hbw.block g (cell_lt hc))).trans hc
            have hs' := hs.below hbw
            obtain ⟨au, cu, rfl, hul⟩ := hs'.form0
            have HBW := hid hbw
            by_cases h6 : 600 < r.length
            · have h6' : decide ((600 : Int) < (r.length : Int)) = true := decide_eq_true (by omega)
              subst hga
              clear hti hho hlo hhi hps hwt hs' hbw
              go_wp2
              go_ret
              exact ⟨rfl, HBW.out⟩
            · have h6' : decide ((600 : Int) < (r.length : Int)) = false := decide_eq_false (by omega)
              have hsz : T.size = 80 * 256 := by unfold TS.size; rw [hlo, hhi]
              have hap := tst_append_on hti hho hs' (by omega) (by omega) (by omega)
              have HAP := hid hap
              have HNX := hid (fun (own' : Nat → Prop) (T' : TS) (D' : DS) (w' : World) (x1 : TSt w own' p t T' D' w') (x2 : TS.Holds D' T' (L1.take n ++ [r])) (x3 : T'.lo = T.lo) (x4 : T'.hi = T.hi) (x5 : T'.pos = T.pos + 12 + r.length) (x6 : D'.waits.length ≤ Di.waits.length + 400) =>
                (⟨own', T', D', x1, by rw [take_snoc hr]; exact x2, x3.trans hlo, x4.trans hhi, by omega, by omega⟩ : ClIn w p t 1 L1 (n + 1) w'))
              subst hga
              clear hti hho hlo hhi hps hwt hs' hbw hap hsz
              go_wp2_with (go_at_call 66; refine HAP.out.mono ?_; rintro e w4 ⟨rfl, own', T', D', x1, x2, x3, x4, x5, x6, x7⟩; have HI2 := hid (HNX.out own' T' D' w4 x1 x2 x3 x4 x5 x6); clear x1 x2 x3 x4 x5 x6 x7)
              go_roundw
              case rel => exact ⟨n + 1, by omega, by go_num, HI2⟩
              case measure => simp [intOf]; omega
          · have hnl : n = L1.length := by omega
            subst hnl
            obtain ⟨oi, T, Di, hti, hho, hlo, hhi, hps, hwt⟩ := HIN.out
            rw [List.take_length] at hho
            have hon := hho.on
            rw [hlo, hhi] at hon
            have hop := tst_open_on (lo := 0) (hi := 80) hti.drum hon
            have hop' : Calls Try.prog 65 #[.pointer (some ⟨p, 0, none⟩), I 0, I 80] wr _ := hop
            have HOP := hid hop'
            have HON := hid hon
            have HWT := hid hwt
            clear hop hop' hti hho hlo hhi hps hwt hon HIN
            go_wp2_with (go_at_call 65; refine HOP.out.mono ?_; rintro e w5 ⟨t2, v2, rfl, ht2, hlt2, hrc2, hb2⟩; obtain ⟨ao2, co2, rfl⟩ := hrc2.form; have HSH := hid hrc2.shows; have HT2 := hid ht2; clear ht2 hlt2 hrc2 hb2)
            have hal := alike_any w5 _ _ L1 L1 HSH.out (H1.out.below HT2.out.drum.below)
            rw [decide_eq_true rfl] at hal
            have HAL := hid hal
            clear hal
            go_wp2_with (go_at_call 67; refine HAL.out.mono ?_; rintro e w6 ⟨rfl, m6, rfl⟩)
            go_roundw
            case rel => exact ⟨1 + 1, by omega, by go_num, hid ⟨oi, Di, L1, HT2.out.drum.on (below_drewN _ _), HON.out, fun h => by omega, by have := HWT.out; omega⟩⟩
            case measure => simp [intOf]
namespace tapeClears
theorem walkAll (a0 : Option Addr) (cap0 : Nat) (L0 : List (List UInt8)) {w : World} (h0 : Shows w (.slice a0 L0.length cap0) L0) (a1 : Option Addr) (cap1 : Nat) (L1 : List (List UInt8)) (h1 : Shows w (.slice a1 L1.length cap1) L1) (w' : World) (e : w = w') :
    Calls Try.prog 18 #[.slice a0 L0.length cap0, .slice a1 L1.length cap1] w' fun e w'' => e = .returned (.bool true) ∧ Below w'.heap.size w' w'' := by
  subst e
  exact clears_walk w a0 cap0 L0 h0 a1 cap1 L1 h1
end tapeClears
end Go.Proofs.Ytoaeapnkefjpaaa

namespace Go.Proofs.Ytoaeapnkefjpaaa
open Go.RowKit
set_option linter.unusedVariables false
set_option linter.unusedSimpArgs false

/-- Values that came in, gathered in a row of one's own. -/
structure WantsIn (w0 w : World) (base : Nat) (v : Value) (us : List Value) (recs : List (List UInt8)) : Prop where
  row : w.ownsRow base 23 1 v recs.length us
  len : us.length = recs.length
  each : ∀ (j : Nat) (u : Value) (r : List UInt8), us[j]? = some u → recs[j]? = some r → Sees w0 u r
theorem WantsIn.nil (w0 w : World) (base : Nat) : WantsIn w0 w base (.slice none 0 0) [] [] := ⟨World.ownsRow_nil _ _ _ _, rfl, fun j u r hu => by simp at hu⟩
theorem WantsIn.keep {w0 w w' : World} {base : Nat} {v : Value} {us : List Value} {recs : List (List UInt8)} (h : WantsIn w0 w base v us recs) (hb : ∀ k, v.ownBlock = some k → w'.heap[k]? = w.heap[k]?) : WantsIn w0 w' base v us recs := ⟨own_mod h.row hb, h.len, h.each⟩
theorem WantsIn.below {w0 w w' : World} {base : Nat} {v : Value} {us : List Value} {recs : List (List UInt8)} (h : WantsIn w0 w base v us recs) (hb : Below w.heap.size w w') : WantsIn w0 w' base v us recs := h.keep (fun k hk => hb.block k (own_lt h.row k hk).2)
theorem WantsIn.push {w0 w w' : World} {base : Nat} {v v' u : Value} {us : List Value} {recs : List (List UInt8)} {r : List UInt8} (h : WantsIn w0 w base v us recs) (hr : Sees w0 u r) (ho : w'.ownsRow base 23 1 v' (recs.length + 1) (us ++ [u])) : WantsIn w0 w' base v' (us ++ [u]) (recs ++ [r]) := by
  refine ⟨own_len ho (by simp) rfl, by simp [h.len], fun j x y hx hy => ?_⟩
  by_cases hj : j < recs.length
  · rw [List.getElem?_append_left (by rw [h.len]; exact hj)] at hx
    rw [List.getElem?_append_left hj] at hy
    exact h.each j x y hx hy
  · have hlt := (List.getElem?_eq_some_iff.1 hy).1
    simp only [List.length_append, List.length_cons, List.length_nil] at hlt
    have e : j = recs.length := by omega
    subst e
    rw [List.getElem?_append_right (by rw [h.len]; exact Nat.le_refl _), h.len, Nat.sub_self] at hx
    rw [List.getElem?_append_right (Nat.le_refl _), Nat.sub_self] at hy
    simp only [List.getElem?_cons_zero, Option.some.injEq] at hx hy
    rw [← hx, ← hy]
    exact hr
theorem WantsIn.shows {w0 w : World} {base : Nat} {v : Value} {us : List Value} {recs : List (List UInt8)} (h : WantsIn w0 w base v us recs) (hb : Below w0.heap.size w0 w) : Shows w v recs := by
  by_cases h0 : 0 < recs.length
  · obtain ⟨g, cap, rfl, h1, h2, h3, h4⟩ := own_slice h.row h0
    refine ⟨_, cap, rfl, h1, h2, fun _ => ⟨g, 0, rfl, fun i r hr => ?_⟩⟩
    have hi := (List.getElem?_eq_some_iff.1 hr).1
    obtain ⟨u, hu⟩ : ∃ u, us[i]? = some u := ⟨_, List.getElem?_eq_getElem (by rw [h.len]; exact hi)⟩
    refine ⟨u, ?_, (h.each i u r hu hr).below hb⟩
    rw [Nat.zero_add]
    exact own_cell h.row hu
  · have : recs = [] := List.length_eq_zero_iff.1 (by omega)
    subst this
    rcases h.row.2 with ⟨rfl, -⟩ | ⟨g, cap, cur, rfl, hb, hg, hnc, hcm, r⟩
    · exact ⟨none, 0, rfl, Nat.le_refl _, by decide, fun h => by simp at h⟩
    · exact ⟨_, cap, rfl, hnc, hcm, fun h => by simp at h⟩
end Go.Proofs.Ytoaeapnkefjpaaa

namespace Go.Proofs.Ytoaeapnkefjpaaa
open Go.RowKit
set_option linter.unusedVariables false
set_option linter.unusedSimpArgs false

/-- A row of bytes of one's own, of so many bytes, whatever they are. -/
def Loose (w : World) (base : Nat) (u : Value) (n : Nat) : Prop := ∃ bs : List UInt8, bs.length = n ∧ w.ownsRow base 5 1 u n (bs.map B)
theorem Loose.set {w : World} {base : Nat} {u : Value} {n : Nat} (h : Loose w base u n) (g j : Nat) (c : UInt8) : Loose (w.setCell ⟨g, j, none⟩ (B c)) base u n := by
  obtain ⟨bs, hl, h1, h2⟩ := h
  rcases h2 with ⟨rfl, h0⟩ | ⟨g', cap, cur, rfl, hb, hg, hnc, hcm, hcs, ht⟩
  · exact ⟨bs, hl, h1, .inl ⟨rfl, h0⟩⟩
  · by_cases e : g' = g
    · subst e
      refine ⟨bs.set j c, by rw [List.length_set]; exact hl, by simpa using h1, .inr ⟨g', cap, cur.setIfInBounds j (B c), rfl, hb, heap_setCell_same w g' j cur 5 (B c) hg, hnc, hcm, by simpa using hcs, ?_⟩⟩
      rw [Array.toList_setIfInBounds, List.take_set, ht, ← List.map_set]
    · exact ⟨bs, hl, h1, .inr ⟨g', cap, cur, rfl, hb, (heap_setCell_other w ⟨g, j, none⟩ g' _ e).trans hg, hnc, hcm, hcs, ht⟩⟩
/-- Records whose bytes are overwritten. -/
structure LooseRecs (w : World) (base : Nat) (v : Value) (vs : List Value) (L : List (List UInt8)) : Prop where
  row : w.ownsRow base 23 1 v L.length vs
  len : vs.length = L.length
  each : ∀ (i : Nat) (u : Value) (r : List UInt8), vs[i]? = some u → L[i]? = some r → Loose w base u r.length ∧ ∀ k, u.ownBlock = some k → v.ownBlock ≠ some k
theorem LooseRecs.of {w : World} {base : Nat} {v : Value} {vs : List Value} {pb : Nat → Prop} {L : List (List UInt8)} (h : RecsIn w base v vs pb L) : LooseRecs w base v vs L :=
  ⟨h.row, h.len, fun i u r hu hr => ⟨⟨r, rfl, (h.each i u r hu hr).1⟩, fun k hk e => h.out k e ((h.each i u r hu hr).2 k hk)⟩⟩
theorem LooseRecs.set {w : World} {base : Nat} {v : Value} {vs : List Value} {L : List (List UInt8)} (h : LooseRecs w base v vs L) {g : Nat} (hg : v.ownBlock ≠ some g) (j : Nat) (c : UInt8) : LooseRecs (w.setCell ⟨g, j, none⟩ (B c)) base v vs L :=
  ⟨own_setCell_other h.row (a := ⟨g, j, none⟩) hg _, h.len, fun i u r hu hr => ⟨(h.each i u r hu hr).1.set g j c, (h.each i u r hu hr).2⟩⟩
theorem LooseRecs.at {w : World} {base : Nat} {ao : Option Addr} {n co : Nat} {vs : List Value} {L : List (List UInt8)} (h : LooseRecs w base (.slice ao n co) vs L) {i : Nat} {r : List UInt8} (hr : L[i]? = some r) :
    ∃ G u, ao = some ⟨G, 0, none⟩ ∧ vs[i]? = some u ∧ w.cell? ⟨G, i, none⟩ = some u ∧ Loose w base u r.length ∧ (∀ k, u.ownBlock = some k → (Value.slice ao n co).ownBlock ≠ some k ∧ base ≤ k) := by
  have hi := (List.getElem?_eq_some_iff.1 hr).1
  obtain ⟨u, hu⟩ : ∃ u, vs[i]? = some u := ⟨_, List.getElem?_eq_getElem (by rw [h.len]; exact hi)⟩
  have hrow := h.row
  obtain ⟨G, cp, hv, h1, h2, h3, h4⟩ := own_slice h.row (by omega)
  simp only [Value.slice.injEq] at hv
  obtain ⟨rfl, rfl, rfl⟩ := hv
  obtain ⟨hl, ho⟩ := h.each i u r hu hr
  refine ⟨G, u, rfl, hu, own_cell hrow hu, hl, fun k hk => ⟨ho k hk, ?_⟩⟩
  obtain ⟨bs, _, hb⟩ := hl
  exact (own_lt hb k hk).1
theorem Loose.at {w : World} {base : Nat} {ao : Option Addr} {n m co : Nat} (h : Loose w base (.slice ao m co) n) {j : Nat} (hj : j < n) : ∃ g c, ao = some ⟨g, 0, none⟩ ∧ n ≤ co ∧ w.cell? ⟨g, j, none⟩ = some (B c) ∧ w.frozen? ⟨g, j, none⟩ = false := by
  obtain ⟨bs, hl, hb⟩ := h
  obtain ⟨g, cp, hv, h1, -⟩ := own_slice hb (by omega)
  simp only [Value.slice.injEq] at hv
  obtain ⟨rfl, rfl, rfl⟩ := hv
  exact ⟨g, bs[j]'(by omega), rfl, h1, own_cell hb (by rw [List.getElem?_map, List.getElem?_eq_getElem (by omega)]; rfl), own_frozen hb j⟩
theorem Loose.form {w : World} {base : Nat} {u : Value} {n : Nat} (h : Loose w base u n) : ∃ ao co, u = .slice ao n co := by
  obtain ⟨bs, hl, hb⟩ := h
  exact own_form hb
theorem St.keepBelow {w0 w w' : World} {own : Nat → Prop} {p : Nat} {D : DS} {n : Nat} (h : St w0 own p D w) (ho : ∀ k, own k → k < n) (hw : w0.heap.size ≤ n) (hb : Below n w w') : St w0 own p D w' :=
  ⟨h.at'.keep (fun k hk => hb.block k (ho k hk)) hb.size, h.fresh, h.below.trans (hb.mono hw)⟩
end Go.Proofs.Ytoaeapnkefjpaaa

namespace Go.Proofs.Ytoaeapnkefjpaaa
open Go.RowKit
set_option linter.unusedVariables false
set_option linter.unusedSimpArgs false
/-- How many bytes the first k records take. -/
def tot (L : List (List UInt8)) (k : Nat) : Nat := (TS.encs 0 (L.take k)).length
theorem tot_zero (L : List (List UInt8)) : tot L 0 = 0 := by simp [tot, TS.encs]
theorem tot_succ {L : List (List UInt8)} {k : Nat} {r : List UInt8} (h : L[k]? = some r) : tot L (k + 1) = tot L k + 12 + r.length := by
  unfold tot
  rw [take_snoc h, TS.encs_snoc, List.length_append, List.length_cons, List.length_append, TS.framed_len]
  omega
theorem tot_fit {L : List (List UInt8)} {k : Nat} {r : List UInt8} (h : L[k]? = some r) : tot L k + 12 + r.length ≤ tot L L.length := by
  have := TS.encs_split L k r h
  unfold tot
  rw [List.take_length, this, List.length_append, List.length_append, List.length_cons, List.length_append, TS.framed_len]
  omega
theorem xor_byte (c : UInt8) (x : Int) (h1 : 1 ≤ x) (h2 : x ≤ 255) : ∃ y : UInt8, bits BinOp.xor IntKind.u8 (c.toNat : Int) x = (y.toNat : Int) ∧ y ≠ c := by
  have hc := c.toNat_lt
  obtain ⟨n, rfl⟩ : ∃ n : Nat, x = (n : Int) := ⟨x.toNat, by omega⟩
  rw [u8_xor_nat _ _ (by omega) (by omega)]
  have hlt : c.toNat ^^^ n < 2 ^ 8 := Nat.xor_lt_two_pow (by omega) (by omega)
  have e : (UInt8.ofNat (c.toNat ^^^ n)).toNat = c.toNat ^^^ n := by rw [UInt8.toNat_ofNat_of_lt' (by simp [UInt8.size]; omega)]
  refine ⟨UInt8.ofNat (c.toNat ^^^ n), by rw [e], fun h => ?_⟩
  rw [h] at e
  have e2 : c.toNat ^^^ c.toNat = c.toNat ^^^ (c.toNat ^^^ n) := by rw [← e]
  rw [← Nat.xor_assoc, Nat.xor_self, Nat.zero_xor] at e2
  omega
theorem Shows.take {w : World} {a : Option Addr} {n cap : Nat} {L : List (List UInt8)} (h : Shows w (.slice a n cap) L) {j : Nat} (hj : j ≤ L.length) : Shows w (.slice a j cap) (L.take j) := by
  obtain ⟨ao, c, hv, h1, h2, h3⟩ := h
  simp only [Value.slice.injEq] at hv
  obtain ⟨rfl, rfl, rfl⟩ := hv
  have hl : (L.take j).length = j := by rw [List.length_take]; omega
  refine ⟨a, cap, by rw [hl], by omega, h2, fun hp => ?_⟩
  obtain ⟨g, off, rfl, h4⟩ := h3 (by omega)
  refine ⟨g, off, rfl, fun i r hr => ?_⟩
  rw [List.getElem?_take] at hr
  split at hr
  · exact h4 i r hr
  · cases hr
theorem Shows.cap {w : World} {a : Option Addr} {n cap : Nat} {L : List (List UInt8)} (h : Shows w (.slice a n cap) L) : n = L.length ∧ L.length ≤ cap := by
  obtain ⟨ao, c, hv, h1, h2, h3⟩ := h
  simp only [Value.slice.injEq] at hv
  obtain ⟨rfl, rfl, rfl⟩ := hv
  exact ⟨rfl, h1⟩
/-- Between two records. -/
structure TlB (w wx : World) (p t : Nat) (own : Nat → Prop) (T : TS) (D : DS) (L : List (List UInt8)) (k : Nat) : Prop where
  tst : TSt w own p t T D wx
  holds : TS.Holds D T (L.take k)
  lo : T.lo = 0
  hi : T.hi = 9
  waits : D.waits.length ≤ 400 * k
  len : D.safe.length = 9
/-- Which record the place lies in, so far. -/
structure Which (L : List (List UInt8)) (n k j : Nat) : Prop where
  le : tot L j ≤ n
  zero : k = 0 → j = 0
  lt : 0 < k → j < k
  last : ∀ m, m < k → tot L m ≤ n → m ≤ j
theorem Which.start (L : List (List UInt8)) (n : Nat) : Which L n 0 0 := ⟨by rw [tot_zero]; omega, fun _ => rfl, fun h => by omega, fun m h => by omega⟩
theorem Which.here {L : List (List UInt8)} {n k j : Nat} (h : Which L n k j) (hk : tot L k ≤ n) : Which L n (k + 1) k := ⟨hk, fun h => by omega, fun _ => by omega, fun m hm _ => by omega⟩
theorem Which.past {L : List (List UInt8)} {n k j : Nat} (h : Which L n k j) (hk : ¬ tot L k ≤ n) : Which L n (k + 1) j := by
  refine ⟨h.le, fun h => by omega, fun _ => ?_, fun m hm hl => ?_⟩
  · by_cases e : k = 0
    · subst e; rw [tot_zero] at hk; omega
    · have := h.lt (by omega); omega
  · by_cases e : m = k
    · subst e; exact absurd hl hk
    · exact h.last m (by omega) hl
theorem Which.end {L : List (List UInt8)} {n j : Nat} (h : Which L n L.length j) (hn : n < tot L L.length) : ∃ r, L[j]? = some r ∧ tot L j ≤ n ∧ n < tot L j + 12 + r.length := by
  have h0 : 0 < L.length := by
    by_cases e : L.length = 0
    · rw [e, tot_zero] at hn; omega
    · omega
  have hj := h.lt h0
  obtain ⟨r, hr⟩ : ∃ r, L[j]? = some r := ⟨_, List.getElem?_eq_getElem hj⟩
  refine ⟨r, hr, h.le, ?_⟩
  have hs := tot_succ hr
  by_cases e : j + 1 = L.length
  · rw [← e, hs] at hn; exact hn
  · by_cases e2 : tot L (j + 1) ≤ n
    · have := h.last (j + 1) (by omega) e2; omega
    · omega
/-- The byte changed. -/
theorem TlB.spoil {w wx : World} {p t : Nat} {own : Nat → Prop} {T : TS} {D : DS} {L : List (List UInt8)} (h : TlB w wx p t own T D L L.length) {n j : Nat} {r : List UInt8} (hr : L[j]? = some r) (h1 : tot L j ≤ n) (h2 : n < tot L j + 12 + r.length) (h3 : n - tot L j = 0 ∨ 4 ≤ n - tot L j) (hn : n < 2000)
    {y c : UInt8} (hc : (DS.look D.safe D.waits (n / 256))[n % 256]? = some c) (hy : y ≠ c) :
    (D.write ((n / 256 : Nat) : Int) ((DS.look D.safe D.waits (n / 256)).set (n % 256) y)).1 = 0 ∧
    (((TS.opn (D.write ((n / 256 : Nat) : Int) ((DS.look D.safe D.waits (n / 256)).set (n % 256) y)).2 0 9).1 = 0 ∧ (TS.opn (D.write ((n / 256 : Nat) : Int) ((DS.look D.safe D.waits (n / 256)).set (n % 256) y)).2 0 9).2.1 = L.take j) ∨
      ((TS.opn (D.write ((n / 256 : Nat) : Int) ((DS.look D.safe D.waits (n / 256)).set (n % 256) y)).2 0 9).1 = 11 ∨ (TS.opn (D.write ((n / 256 : Nat) : Int) ((DS.look D.safe D.waits (n / 256)).set (n % 256) y)).2 0 9).1 = 12)) := by
  have hon := h.holds.on
  rw [h.lo, h.hi, List.take_length] at hon
  have hlen := h.len
  have hll := DS.look_len hon.live.ok.page hon.live.ok.wait (k := n / 256) (by omega)
  obtain ⟨k1, k2, k3, k4⟩ := TS.write_live hon.live (a := n / 256) (by omega) (l := (DS.look D.safe D.waits (n / 256)).set (n % 256) y) (by rw [List.length_set]; exact hll)
  refine ⟨k1, ?_⟩
  have := hon.tells (D' := (D.write ((n / 256 : Nat) : Int) ((DS.look D.safe D.waits (n / 256)).set (n % 256) y)).2) (y := y) hr h1 h2 h3 (by rw [Nat.zero_add, List.getD_eq_getElem?_getD, hc]; exact hy) k2 k3 (fun k => by rw [Nat.zero_add]; exact k4 k)
  exact this
theorem spoiled_open {w0 w : World} {own : Nat → Prop} {p : Nat} {D : DS} {M : List (List UInt8)} (h : St w0 own p D w) (ho : ((TS.opn D 0 9).1 = 0 ∧ (TS.opn D 0 9).2.1 = M) ∨ ((TS.opn D 0 9).1 = 11 ∨ (TS.opn D 0 9).1 = 12)) :
    Calls Try.prog 65 #[.pointer (some ⟨p, 0, none⟩), I 0, I 9] w fun e w' => ((e = .returned (.tuple #[.pointer none, .slice none 0 0, I 11]) ∨ e = .returned (.tuple #[.pointer none, .slice none 0 0, I 12])) ∨ ∃ t v, e = .returned (.tuple #[.pointer (some ⟨t, 0, none⟩), v, I 0]) ∧ Shows w' v M) ∧ Below w.heap.size w w' := by
  refine (tst_open h 0 9 (by omega) (by omega)).mono fun e w' hx => ?_
  rcases hx with ⟨h1, h2, h3⟩ | ⟨h1, t, v, h2, h3, h4, h5, h6⟩
  · rcases ho with ⟨e1, -⟩ | e1 | e1
    · exact absurd e1 h1
    · rw [e1] at h2; exact ⟨.inl (.inl h2), h3⟩
    · rw [e1] at h2; exact ⟨.inl (.inr h2), h3⟩
  · rcases ho with ⟨e1, e2⟩ | e1 | e1
    · rw [e2] at h5; exact ⟨.inr ⟨t, v, h2, h5.shows⟩, h6⟩
    · rw [h1] at e1; exact absurd e1 (by decide)
    · rw [h1] at e1; exact absurd e1 (by decide)
set_option maxRecDepth 100000 in
set_option maxHeartbeats 3200000 in
theorem tells_walk (w : World) (a0 : Option Addr) (cap0 : Nat) (L : List (List UInt8)) (h0 : Shows w (.slice a0 L.length cap0) L) (hz : ∀ r ∈ L, r.length ≤ 140737488355328) (a : Int) (ha : -9223372036854775808 ≤ a ∧ a ≤ 9223372036854775807) (x : Int) (hx : 0 ≤ x ∧ x ≤ 255) :
    Calls Try.prog 16 #[.slice a0 L.length cap0, I a, .int .u8 x] w fun e w' => e = .returned (.bool true) ∧ Below w.heap.size w w' := by
  have H0 := hid h0
  obtain ⟨_, _, _, m0⟩ := h0.len
  have HZ := hid hz
  unfold maxLen at m0
  clear h0 hz
  go_enter Try.func16, Try.ntmps16
  go_wp2_with (go_at_call 64; refine (wakes4_any _).mono ?_; rintro e w1 ⟨rfl, hb⟩; have HB := hid hb; clear hb)
  go_loopw [7, 26] (fun n i wr => ∃ (k m : Nat), k ≤ L.length ∧ n = I m ∧ i = I k ∧ m ≤ 2000 ∧ Hid (m = tot L k) ∧ Hid (Below w.heap.size w wr)) (fun _ i _ => L.length - (intOf i).toNat)
  case atStart => exact ⟨0, 0, by omega, rfl, rfl, by omega, hid (by rw [tot_zero]), HB⟩
  case round =>
    clear HB
    obtain ⟨k, m, hk, rfl, rfl, hm, HM, HB⟩ := hrel
    by_cases hlt : k < L.length
    · have f1 : decide ((k : Int) < (L.length : Int)) = true := decide_eq_true (by omega)
      obtain ⟨r, hr⟩ : ∃ r, L[k]? = some r := ⟨_, List.getElem?_eq_getElem hlt⟩
      obtain ⟨g, off, u, rfl, hc, hs⟩ := H0.out.at hr
      have hrz := HZ.out r (List.mem_of_getElem? hr)
      have hc' := (World.cell?_of_block (w := w) (a := ⟨g, off + k, none⟩) (HB.out.block g (cell_lt hc))).trans hc
      obtain ⟨au, cu, rfl, hul⟩ := hs.form0
      have HR := hid hr
      clear hc hs hr
      by_cases h6 : 2000 < m + (r.length + 12)
      · have f2 : decide ((2000 : Int) < (m : Int) + ((r.length : Int) + 12)) = true := decide_eq_true (by omega)
        go_wp2
        go_ret
        exact ⟨rfl, HB.out⟩
      · have f2 : decide ((2000 : Int) < (m : Int) + ((r.length : Int) + 12)) = false := decide_eq_false (by omega)
        go_wp2
        go_roundw
        case rel => exact ⟨k + 1, m + (r.length + 12), by omega, by go_num, by go_num, by omega, hid (by rw [tot_succ HR.out, HM.out]; omega), HB⟩
        case measure => simp [intOf]; omega
    · have hke : k = L.length := by omega
      subst hke
      have hcases : (a < 0 ∨ (m : Int) ≤ a ∨ x = 0 ∨ 40 < L.length) ∨ (0 ≤ a ∧ a < m ∧ 1 ≤ x ∧ L.length ≤ 40) := by omega
      rcases hcases with c | ⟨c1, c2, c3, c4⟩
      · have e1 : (decide (a < 0) = true) ∨ (decide (a < 0) = false ∧ decide ((m : Int) ≤ a) = true) ∨ (decide (a < 0) = false ∧ decide ((m : Int) ≤ a) = false ∧ (x == 0) = true) ∨ (decide (a < 0) = false ∧ decide ((m : Int) ≤ a) = false ∧ (x == 0) = false ∧ decide ((40 : Int) < (L.length : Int)) = true) := by
          simp only [decide_eq_true_eq, decide_eq_false_iff_not, beq_iff_eq, beq_eq_false_iff_ne]; omega
        clear c
        rcases e1 with e1 | ⟨e1, e2⟩ | ⟨e1, e2, e3⟩ | ⟨e1, e2, e3, e4⟩
        all_goals
          go_wp2
          go_ret
          exact ⟨rfl, HB.out⟩
      obtain ⟨n, rfl⟩ : ∃ n : Nat, a = (n : Int) := ⟨a.toNat, by omega⟩
      have e1 : decide ((n : Int) < 0) = false := decide_eq_false (by omega)
      have e2 : decide ((m : Int) ≤ (n : Int)) = false := decide_eq_false (by omega)
      have e3 : (x == 0) = false := by rw [beq_eq_false_iff_ne]; omega
      have e4 : decide ((40 : Int) < (L.length : Int)) = false := decide_eq_false (by omega)
      have hnm : n < m := by omega
      clear c1 c2 hlt
      go_wp2_with (go_at_call 36; refine (st_new _ 9 (by omega)).mono ?_; rintro e w2 ⟨p, own, rfl, h⟩; have HS := hid (show St w own p (DS.new 9) w2 from h.back HB.out); clear h HB)
      clear e1 e2 e3 e4
      have hon : TS.On (DS.new 9) 0 9 [] := TS.On.new (by omega) (by omega) (by omega) (by omega)
      have hop := tst_open_on (lo := 0) (hi := 9) HS.out hon
      have hop' : Calls Try.prog 65 #[.pointer (some ⟨p, 0, none⟩), I 0, I 9] w2 _ := hop
      refine hop'.mono ?_
      rintro e w3 ⟨t, v, rfl, ht, hlt, hrc, hb⟩
      obtain ⟨ao, co, rfl⟩ := hrc.form
      have HIN : Hid (TlB w w3 p t own ⟨0, 9, (TS.encs 0 []).length, ([] : List (List UInt8)).length, 0⟩ (DS.new 9) L 0) := hid ⟨ht, by rw [List.take_zero]; exact hon.holds, rfl, rfl, by decide, rfl⟩
      clear hon hop hop' ht hlt hrc hb HS
      rw [List.length_nil]
      go_wp2
      go_loopw [14, 15, 16, 65] (fun wh bg en i wr => ∃ (k j tj tk : Nat) (own : Nat → Prop) (T : TS) (D : DS), k ≤ L.length ∧ j ≤ L.length ∧ tj ≤ n ∧ tk ≤ 2000 ∧ wh = I j ∧ bg = I tj ∧ en = I tk ∧ i = I k ∧ Hid (tj = tot L j ∧ tk = tot L k) ∧ Hid (Which L n k j) ∧ Hid (TlB w wr p t own T D L k)) (fun _ _ _ i _ => L.length - (intOf i).toNat)
      case atStart => exact ⟨0, 0, 0, 0, _, _, _, by omega, by omega, by omega, by omega, rfl, rfl, rfl, rfl, hid ⟨by rw [tot_zero], by rw [tot_zero]⟩, hid (Which.start L n), HIN⟩
      case round =>
        clear HIN
        obtain ⟨k, j, tj, tk, own, T, D, hk, hj, htj, htk, rfl, rfl, rfl, rfl, HTJ, HW, HT⟩ := hrel
        by_cases hlt : k < L.length
        · have f1 : decide ((k : Int) < (L.length : Int)) = true := decide_eq_true (by omega)
          obtain ⟨r, hr⟩ : ∃ r, L[k]? = some r := ⟨_, List.getElem?_eq_getElem hlt⟩
          obtain ⟨g, off, u, rfl, hc, hs⟩ := H0.out.at hr
          have hbw := HT.out.tst.drum.below
          have hc' := (World.cell?_of_block (w := w) (a := ⟨g, off + k, none⟩) (hbw.block g (cell_lt hc))).trans hc
          have hs' := hs.below hbw
          obtain ⟨au, cu, rfl, hul⟩ := hs'.form0
          have hfit := tot_fit hr
          rw [← HM.out, ← HTJ.out.2] at hfit
          have hsz : T.size = 9 * 256 := by unfold TS.size; rw [HT.out.lo, HT.out.hi]
          have hps : T.pos = tk := by rw [HT.out.holds.pos, HTJ.out.2]; rfl
          have hap := tst_append_on HT.out.tst HT.out.holds hs' (by omega) (by omega) (by have := HT.out.waits; omega)
          have HAP := hid hap
          have HNX := hid (fun (own' : Nat → Prop) (T' : TS) (D' : DS) (w' : World) (x1 : TSt w own' p t T' D' w') (x2 : TS.Holds D' T' (L.take k ++ [r])) (x3 : T'.lo = T.lo) (x4 : T'.hi = T.hi) (x5 : D'.waits.length ≤ D.waits.length + 400) (x6 : D'.safe.length = D.safe.length) =>
            (⟨x1, by rw [take_snoc hr]; exact x2, x3.trans HT.out.lo, x4.trans HT.out.hi, by have := HT.out.waits; omega, x6.trans HT.out.len⟩ : TlB w w' p t own' T' D' L (k + 1)))
          have HTS := hid (tot_succ hr)
          clear hs' hbw hc hs hap hr hsz hps
          by_cases h6 : tk ≤ n
          · have f2 : decide ((tk : Int) ≤ (n : Int)) = true := decide_eq_true (by omega)
            go_wp2_with (go_at_call 66; refine HAP.out.mono ?_; rintro e w4 ⟨rfl, own', T', D', x1, x2, x3, x4, x5, x6, x7⟩; have HI2 := hid (HNX.out own' T' D' w4 x1 x2 x3 x4 x6 x7); clear x1 x2 x3 x4 x5 x6 x7)
            go_roundw
            case rel => exact ⟨k + 1, k, tk, tk + (r.length + 12), own', T', D', by omega, by omega, by omega, by omega, rfl, rfl, by go_num, by go_num, hid ⟨HTJ.out.2, by rw [HTS.out, HTJ.out.2]; omega⟩, hid (HW.out.here (by rw [← HTJ.out.2]; exact h6)), HI2⟩
            case measure => simp [intOf]; omega
          · have f2 : decide ((tk : Int) ≤ (n : Int)) = false := decide_eq_false (by omega)
            go_wp2_with (go_at_call 66; refine HAP.out.mono ?_; rintro e w4 ⟨rfl, own', T', D', x1, x2, x3, x4, x5, x6, x7⟩; have HI2 := hid (HNX.out own' T' D' w4 x1 x2 x3 x4 x6 x7); clear x1 x2 x3 x4 x5 x6 x7)
            go_roundw
            case rel => exact ⟨k + 1, j, tj, tk + (r.length + 12), own', T', D', by omega, by omega, by omega, by omega, rfl, rfl, by go_num, by go_num, hid ⟨HTJ.out.1, by rw [HTS.out, HTJ.out.2]; omega⟩, hid (HW.out.past (by rw [← HTJ.out.2]; exact h6)), HI2⟩
            case measure => simp [intOf]; omega
        · have hke : k = L.length := by omega
          subst hke
          have hq3 : (1 ≤ n - tj ∧ n - tj ≤ 3) ∨ (n - tj = 0 ∨ 4 ≤ n - tj) := by omega
          rcases hq3 with ⟨d1, d2⟩ | d
          · have f2 : decide ((1 : Int) ≤ (n : Int) - (tj : Int)) = true := decide_eq_true (by omega)
            have f3 : decide ((n : Int) - (tj : Int) ≤ 3) = true := decide_eq_true (by omega)
            have HBE := hid HT.out.tst.drum.below
            go_wp2
            go_ret
            exact ⟨rfl, HBE.out⟩
          have hff : (decide ((1 : Int) ≤ (n : Int) - (tj : Int)) = false) ∨ (decide ((1 : Int) ≤ (n : Int) - (tj : Int)) = true ∧ decide ((n : Int) - (tj : Int) ≤ 3) = false) := by
            simp only [decide_eq_true_eq, decide_eq_false_iff_not]; omega
          obtain ⟨r, hr, hle, hlt2⟩ := HW.out.end (by rw [← HM.out]; exact hnm)
          have hlv := HT.out.holds.on.live
          have hln := HT.out.len
          obtain ⟨q, hqd⟩ : ∃ q, q = n / 256 := ⟨_, rfl⟩
          have hqi : (n : Int) / 256 = (q : Int) := by omega
          have hrd := st_read HT.out.tst.drum (q : Int) (by omega)
          rw [DS.read_ok hlv.on (by omega)] at hrd
          have hPl := DS.look_len hlv.ok.page hlv.ok.wait (k := q) (by omega)
          obtain ⟨c, hc⟩ : ∃ c, (DS.look D.safe D.waits q)[n % 256]? = some c := ⟨_, List.getElem?_eq_getElem (by omega)⟩
          obtain ⟨y, hy, hyc⟩ := xor_byte c x c3 hx.2
          have hsp := HT.out.spoil hr hle hlt2 (by rw [← HTJ.out.1]; exact d) (by omega) (by rw [← hqd]; exact hc) hyc
          rw [← hqd] at hsp
          simp only [hPl] at hrd
          generalize hPd : DS.look D.safe D.waits q = P at *
          rw [← hqi] at hrd
          have hst := fun (w' : World) (g5 : Nat) (v : Value) (u : Value) (hg : wr.heap.size ≤ g5) (h1 : St w own p D w') => h1.keepBelow (n := wr.heap.size) (fun k hk => HT.out.tst.drum.at'.lt k hk) HT.out.tst.drum.below.size ((Below.refl _ w').setCell (p := ⟨g5, n % 256, none⟩) hg u)
          have HST := hid hst
          have HRD := hid hrd
          have HSP := hid hsp
          have HCY := hid hc
          have HPL := hid hPl
          have HQ := hid hqi
          have HOL := hid HT.out.tst.drum.at'.lt
          have HWT := hid HT.out.waits
          have HR2 := hid hr
          clear hrd hr hPd hPl hqd hqi hle hlt2 hlv hln d hlt hst hsp hc hyc
          rcases hff with f2 | ⟨f2, f3⟩
          all_goals
            go_wp2_with (first | (go_at_call 58; refine HRD.out.mono ?_; rintro e w5 ⟨v5, rfl, x1, x2, x3⟩; obtain ⟨g5, cp5, rfl, y1, y2, y3, y4⟩ := own_slice x2 (by omega); have hcell := own_cell x2 (i := n % 256) (u := B c) (by rw [List.getElem?_map, HCY.out]; rfl); have hfr := own_frozen x2 (n % 256); have X := hid (And.intro x1 (And.intro x2 (And.intro x3 y3))); clear x1 x2 x3 y3 y4))
            obtain ⟨x1, x2, x3, x4⟩ := X.out
            have st6 := HST.out w5 g5 (.bool true) (B y) x4 x1
            have hrow := own_set x2 (show n % 256 < 256 by omega) (B y)
            rw [← List.map_set] at hrow
            have hwr := st_write st6 (q : Int) (by have := HQ.out; omega) (v := .slice (some ⟨g5, 0, none⟩) 256 cp5) (l := P.set (n % 256) y) ⟨own_sees' hrow (by rw [List.length_set]; exact HPL.out), fun k hk ho => by have := HOL.out k ho; have e : g5 = k := Option.some.inj hk; omega⟩ (by have := HWT.out; omega)
            rw [HSP.out.1, ← HQ.out] at hwr
            clear x1 x2 x3 x4 X st6 hrow hcell hfr hy
            refine hwr.mono ?_
            rintro e w6 ⟨rfl, own6, z1, -, -⟩
            have hsp2 := HSP.out.2
            rw [← HQ.out] at hsp2
            have HOPN := hid (spoiled_open z1 hsp2)
            have HZ1 := hid z1.below
            clear hwr z1 hsp2
            go_wp2_with fail
            refine HOPN.out.mono ?_
            rintro e w7 ⟨(rfl | rfl) | ⟨t7, v7, rfl, hsh⟩, hb7⟩
            · have HB7 := hid (HZ1.out.trans (hb7.mono HZ1.out.size))
              clear hb7
              go_wp2
              go_ret
              exact ⟨rfl, HB7.out⟩
            · have HB7 := hid (HZ1.out.trans (hb7.mono HZ1.out.size))
              clear hb7
              go_wp2
              go_ret
              exact ⟨rfl, HB7.out⟩
            · have HB7 := hid (HZ1.out.trans (hb7.mono HZ1.out.size))
              obtain ⟨ao7, co7, rfl, hl7⟩ := hsh.len
              have hlj : (L.take j).length = j := by rw [List.length_take]; omega
              rw [hlj] at hsh ⊢
              have hal := alike_any w7 _ _ _ _ hsh ((H0.out.below HB7.out).take (j := j) (by omega))
              rw [decide_eq_true rfl] at hal
              have HAL := hid hal
              obtain ⟨go, oo, uu, rfl, -⟩ := H0.out.at HR2.out
              have hcp := H0.out.cap.2
              have hjc : (j : Int) ≤ (cap0 : Int) := by omega
              clear hb7 hal hsh hl7 hlj
              go_wp2_with (go_at_call 67; go_must (refine HAL.out.mono ?_); rintro e w8 ⟨rfl, m8, rfl⟩)
              go_ret
              exact ⟨rfl, HB7.out.trans ((below_drewN _ _).mono HB7.out.size)⟩
namespace tapeTells
theorem walkAll (a0 : Option Addr) (cap0 : Nat) (L : List (List UInt8)) {w : World} (h0 : Shows w (.slice a0 L.length cap0) L) (hz : ∀ r ∈ L, r.length ≤ 140737488355328) (a : Int) (ha : -9223372036854775808 ≤ a ∧ a ≤ 9223372036854775807) (x : Int) (hx : 0 ≤ x ∧ x ≤ 255) (w' : World) (e : w = w') :
    Calls Try.prog 16 #[.slice a0 L.length cap0, I a, .int .u8 x] w' fun e w'' => e = .returned (.bool true) ∧ Below w'.heap.size w' w'' := by
  subst e
  exact tells_walk w a0 cap0 L h0 hz a ha x hx
end tapeTells
end Go.Proofs.Ytoaeapnkefjpaaa

namespace Go.Proofs.Ytoaeapnkefjpaaa
open Go.RowKit
set_option linter.unusedVariables false
set_option linter.unusedSimpArgs false
theorem own_empty (w : World) (e : TypeId) (size : Nat) : (w.alloc (.cells #[] e)).ownsRow w.heap.size e size (.slice (some ⟨w.heap.size, 0, none⟩) 0 0) 0 [] :=
  ⟨by simp, .inr ⟨w.heap.size, 0, #[], rfl, Nat.le_refl _, heap_alloc_new _ _, Nat.le_refl _, by decide, by simp, by simp⟩⟩
/-- The spare room's text. -/
def spare : List UInt8 := [115, 112, 97, 114, 101, 32, 114, 111, 111, 109, 32, 111, 102, 32, 105, 116]
theorem str_spare (r : List UInt8) : str r ++ { data := #[115, 112, 97, 114, 101, 32, 114, 111, 111, 109, 32, 111, 102, 32, 105, 116] } = str (r ++ spare) := by
  apply ByteArray.ext
  rw [ByteArray.data_append]
  simp [str, spare]
theorem TSt.mod {w0 w w' : World} {own : Nat → Prop} {p t : Nat} {T : TS} {D : DS} {g : Nat} (h : TSt w0 own p t T D w) (hm : Mod (fun k => k = g) w w') (h1 : ¬ own g) (h2 : g ≠ t) (h3 : w0.heap.size ≤ g) : TSt w0 own p t T D w' :=
  ⟨⟨h.drum.at'.mod hm (fun k hk e => h1 (e ▸ hk)), h.drum.fresh, h.drum.below.trans (hm.below h.drum.below.size (fun i hi e => by omega))⟩, h.tape.mod hm (fun e => h2 e.symm), h.nt, h.tf⟩
/-- Between two records: the tape, and the list gathered. -/
structure KpB (w wx : World) (p t : Nat) (own : Nat → Prop) (T : TS) (D : DS) (v : Value) (us : List Value) (recs : List (List UInt8)) (i : Nat) : Prop where
  tst : TSt w own p t T D wx
  holds : TS.Holds D T recs
  lo : T.lo = 0
  hi : T.hi = 60
  pos : T.pos ≤ 412 * i
  waits : D.waits.length ≤ 400 * i
  wants : WantsIn w wx (t + 1) v us recs
  nv : ∀ k, v.ownBlock = some k → ¬ own k
theorem KpB.below {w wx wy : World} {p t : Nat} {own : Nat → Prop} {T : TS} {D : DS} {v : Value} {us : List Value} {recs : List (List UInt8)} {i : Nat} (h : KpB w wx p t own T D v us recs i) (hb : Below wx.heap.size wx wy) : KpB w wy p t own T D v us recs i := ⟨h.tst.on hb, h.holds, h.lo, h.hi, h.pos, h.waits, h.wants.below hb, h.nv⟩
/-- An append of what lies in a row apart. -/
theorem KpB.append {w wx : World} {p t : Nat} {own : Nat → Prop} {T : TS} {D : DS} {v : Value} {us : List Value} {recs : List (List UInt8)} {i : Nat} (h : KpB w wx p t own T D v us recs i) {u : Value} {r : List UInt8} (hu : Sees wx u r) (hr : r.length ≤ 400) (hi : i ≤ 31) :
    Calls Try.prog 66 #[.pointer (some ⟨t, 0, none⟩), u] wx fun e w' => e = .returned (I 0) ∧ Mod (fun k => own k ∨ k = t) wx w' ∧ ∃ own' T' D', TSt w own' p t T' D' w' ∧ TS.Holds D' T' (recs ++ [r]) ∧ T'.lo = 0 ∧ T'.hi = 60 ∧ T'.pos ≤ 412 * (i + 1) ∧ D'.waits.length ≤ 400 * (i + 1) ∧ WantsIn w w' (t + 1) v us recs ∧ (∀ k, k < wx.heap.size → ¬ own k → ¬ own' k) := by
  have hsz : T.size = (T.hi - T.lo) * 256 := rfl
  have hlo := h.lo
  have hhi := h.hi
  have hps := h.pos
  have hwt := h.waits
  have hfit : T.pos + 12 + r.length ≤ T.size := by rw [hsz, hlo, hhi]; omega
  obtain ⟨h1, h2, h3, h4, h5⟩ := h.holds.append (r := r) (by omega) hfit
  have hw2 := TS.append_waits D T r
  refine (tst_append h.tst hu (by omega)).mono fun e w' hx => ?_
  obtain ⟨k1, own', k2, k3, k4⟩ := hx
  rw [h1] at k1
  refine ⟨k1, k4, own', _, _, k2, h2, h3.trans hlo, h4.trans hhi, by rw [h5]; omega, by omega, h.wants.keep (fun k hk => k4.block k (own_lt h.wants.row k hk).2 (fun ho => ho.elim (h.nv k hk) (fun e => by have := (own_lt h.wants.row k hk).1; omega))), fun k hk hn ho => (k3 k ho).elim hn (fun h => by omega)⟩
/-- A record taken into the list. -/
theorem tst_push {w wx w1 : World} {p t : Nat} {own : Nat → Prop} {T : TS} {D : DS} {v v' : Value} {us : List Value} {recs : List (List UInt8)} {r : List UInt8} {u : Value} {o : Obj}
    (ht : TSt w own p t T D wx) (hw : WantsIn w wx (t + 1) v us recs) (hnv : ∀ k, v.ownBlock = some k → ¬ own k) (hu : Sees w u r)
    (hown : w1.ownsRow (t + 1) 23 1 v' (recs.length + 1) (us ++ [u])) (hgrow : (wx.alloc o).grownBy w1 v.ownBlock) (hat : v'.ownBlock = v.ownBlock ∨ v'.ownBlock = some (wx.heap.size + 1)) :
    TSt w own p t T D w1 ∧ WantsIn w w1 (t + 1) v' (us ++ [u]) (recs ++ [r]) ∧ (∀ k, v'.ownBlock = some k → ¬ own k) := by
  have hz : (wx.alloc o).heap.size = wx.heap.size + 1 := by simp
  have hkeep : ∀ k, k < wx.heap.size → v.ownBlock ≠ some k → w1.heap[k]? = wx.heap[k]? := fun k hk h1 => (hgrow.block k (by omega) (fun e => h1 e.symm)).trans (Below.heap_alloc wx o k hk)
  have hlt := ht.drum.at'.lt
  have htz := ht.tape.lt
  have hv1 : ∀ k, v.ownBlock = some k → t + 1 ≤ k := fun k hk => (own_lt hw.row k hk).1
  have hww := ht.drum.below.size
  have htf := ht.tf
  refine ⟨⟨⟨ht.drum.at'.keep (fun k hk => hkeep k (hlt k hk) (fun e => (hnv k e) hk)) (by have := hgrow.size; omega), ht.drum.fresh, ht.drum.below.trans ⟨hgrow.os, hgrow.tape, hgrow.output, by have := hgrow.size; omega, fun k hk => hkeep k (by omega) (fun e => by have := hv1 k e; omega)⟩⟩, ht.tape.keep (hkeep t htz (fun e => by have := hv1 t e; omega)), ht.nt, ht.tf⟩, hw.push hu hown, fun k hk => ?_⟩
  rcases hat with h | h
  · exact hnv k (by rw [← h]; exact hk)
  · rw [h] at hk
    have e := Option.some.inj hk
    exact fun ho => by have := hlt k ho; omega
set_option maxRecDepth 100000 in
set_option maxHeartbeats 3200000 in
theorem keeps_walk (w : World) (a0 : Option Addr) (cap0 : Nat) (L : List (List UInt8)) (h0 : Shows w (.slice a0 L.length cap0) L) :
    Calls Try.prog 17 #[.slice a0 L.length cap0] w fun e w' => e = .returned (.bool true) ∧ Below w.heap.size w w' := by
  have H0 := hid h0
  obtain ⟨_, _, _, m0⟩ := h0.len
  unfold maxLen at m0
  clear h0
  by_cases c : 30 < L.length
  · have e0 : decide ((30 : Int) < (L.length : Int)) = true := decide_eq_true (by omega)
    go_enter Try.func17, Try.ntmps17
    go_wp2_with (go_at_call 64; refine (wakes4_any _).mono ?_; rintro e w1 ⟨rfl, hb⟩; have HB := hid hb; clear hb)
    go_ret
    exact ⟨rfl, HB.out⟩
  have e0 : decide ((30 : Int) < (L.length : Int)) = false := decide_eq_false (by omega)
  go_enter Try.func17, Try.ntmps17
  go_wp2_with (first | (go_at_call 64; refine (wakes4_any _).mono ?_; rintro e w1 ⟨rfl, hb⟩; have HB := hid hb; clear hb) | (go_at_call 36; refine (st_new _ 60 (by omega)).mono ?_; rintro e w2 ⟨p, own, rfl, h⟩; have HS := hid (show St w own p (DS.new 60) w2 from h.back HB.out); clear h HB))
  clear e0
  have hon : TS.On (DS.new 60) 0 60 [] := TS.On.new (by omega) (by omega) (by omega) (by omega)
  have hop := tst_open_on (lo := 0) (hi := 60) HS.out hon
  have hop' : Calls Try.prog 65 #[.pointer (some ⟨p, 0, none⟩), I 0, I 60] w2 _ := hop
  refine hop'.mono ?_
  rintro e w3 ⟨t, v, rfl, ht, hlt, hrc, hb⟩
  obtain ⟨ao, co, rfl⟩ := hrc.form
  have HT := hid ht
  have HO := hid hon.holds
  clear hon hop hop' ht hlt hrc hb HS
  rw [List.length_nil]
  go_wp2
  have HTB : Hid (KpB w w3 p t own ⟨0, 60, (TS.encs 0 []).length, ([] : List (List UInt8)).length, 0⟩ (DS.new 60) (.slice none 0 0) [] [] 0) := hid ⟨HT.out, HO.out, rfl, rfl, by simp [TS.encs], by decide, WantsIn.nil _ _ _, fun k hk => by cases hk⟩
  clear HT HO
  go_loopw [7, 35] (fun v i wr => ∃ (k : Nat) (own : Nat → Prop) (T : TS) (D : DS) (us : List Value), k ≤ L.length ∧ i = I k ∧ Hid (KpB w wr p t own T D v us (L.take k) k)) (fun _ i _ => L.length - (intOf i).toNat)
  case atStart => exact ⟨0, _, _, _, _, by omega, rfl, by rw [List.take_zero]; exact HTB⟩
  case round =>
    clear HTB
    obtain ⟨k, own, T, D, us, hk, rfl, HT⟩ := hrel
    by_cases hlt : k < L.length
    · obtain ⟨r, hr⟩ : ∃ r, L[k]? = some r := ⟨_, List.getElem?_eq_getElem hlt⟩
      obtain ⟨g, off, u, hga, hc, hs⟩ := H0.out.at hr
      have hbw := HT.out.tst.drum.below
      have hc' := (World.cell?_of_block (w := w) (a := ⟨g, off + k, none⟩) (hbw.block g (cell_lt hc))).trans hc
      have hs' := hs
      obtain ⟨au, cu, rfl, hul⟩ := hs'.form0
      have HBW := hid hbw
      have HSU := hid hs
      have HR := hid hr
      by_cases h6 : 400 < r.length
      · have h6' : decide ((400 : Int) < (r.length : Int)) = true := decide_eq_true (by omega)
        subst hga
        clear hs' hbw hc hs hr
        go_wp2
        go_ret
        exact ⟨rfl, HBW.out⟩
      · have h6' : decide ((400 : Int) < (r.length : Int)) = false := decide_eq_false (by omega)
        obtain ⟨av, cv, rfl⟩ := own_form HT.out.wants.row
        have hlk : (L.take k).length = k := by rw [List.length_take]; omega
        rw [hlk] at HT
        have HLK := hid hlk
        clear hlk
        subst hga
        clear hs' hbw hc hs hr
        go_upto_region 15 with (fail)
        have HO0 := hid (own_empty wr 5 1)
        have hb0 : Below wr.heap.size wr (wr.alloc (.cells #[] 5)) := (Below.refl _ _).alloc (Nat.le_refl _) _
        have HSa := hid ((HSU.out.below HBW.out).below hb0)
        have HB0 := hid hb0
        clear hb0
        go_wp2_with (at_builtin; refine wpList_app rfl (.tmp 42) (.tmp 43) 23 rfl wr.heap.size 5 (.int .u8 0) 1 1 Try.underlying23 info5 rfl (by decide) 0 [] r.length (r.map B) HO0.out HSa.out.src ?h63 ?hb ?hbase ?_)
        case h63 => unfold maxLen; omega
        case hb => omega
        case hbase => simp
        intro v2 wb hown hgrow hat
        replace hown : wb.ownsRow wr.heap.size 5 1 v2 r.length (r.map B) := own_len hown (by simp) (by simp)
        have HO2 := hid hown
        have HB2 := hid (HB0.out.grown hgrow (by simp) (fun j hj => by cases hj; exact Nat.le_refl _))
        obtain ⟨av2, cv2, rfl⟩ := own_form hown
        have hs2 : wr.heap.size ≤ wb.heap.size := HB2.out.size
        clear hown hgrow hat HO0 HSa HB0
        obtain ⟨i5, hi5, hz5, hs5, hb5⟩ := info_parts info5'
        go_wp2_with (at_builtin; go_must (refine Lib.wpList_append_own_string wb rfl (.tmp 44) _ 23 9 rfl wr.heap.size 5 i5 Try.underlying23 Try.underlying9 hi5 hz5 hs5 hb5 (.slice av2 r.length cv2) r.length (r.map B) rfl HO2.out _ rfl ?h63 ?hb hs2 ?_))
        case h63 => show r.length + 16 ≤ maxLen; unfold maxLen; omega
        case hb => show r.length + 16 ≤ 140737488355328; omega
        intro v3 wc hown hgrow hnn
        have hsp : Lib.strCells { data := #[115, 112, 97, 114, 101, 32, 114, 111, 111, 109, 32, 111, 102, 32, 105, 116] } = spare.map B := by kernel_rfl
        rw [hsp, ← List.map_append] at hown
        replace hown : wc.ownsRow wr.heap.size 5 1 v3 (r.length + 16) ((r ++ spare).map B) := hown
        have HB3 := hid (HB2.out.grown hgrow hs2 (fun j hj => (own_lt HO2.out j hj).1))
        obtain ⟨g3, cap3, rfl, q1, q2, q3, q4⟩ := own_slice hown (by omega)
        have hlen3 : (r ++ spare).length = r.length + 16 := by rw [List.length_append]; rfl
        have hsm := own_sees' hown hlen3
        have hst := hsm.take r.length (by omega)
        rw [List.take_left' rfl] at hst
        have hkb := HT.out.below HB3.out
        have hap := hkb.append hst (by omega) (by omega)
        have HAP := hid hap
        have HO3 := hid hown
        have HG := hid (And.intro q3 q4)
        have hng : ¬ own g3 := fun ho => by have := HT.out.tst.drum.at'.lt g3 ho; omega
        have hgt : g3 ≠ t := fun e => by have := HT.out.tst.tape.lt; omega
        have HNG := hid (And.intro hng hgt)
        have hcapn : (r.length : Int) ≤ (cap3 : Int) := by omega
        clear hown hgrow hnn hsp hsm hst hkb hap HO2 HB2 hs2 q1 q3 q4 hng hgt hi5 hz5 hs5 hb5
        go_upto_region 17 with (go_at_call 66; refine HAP.out.mono ?_; rintro e w5 ⟨rfl, x1, own', T', D', x2, x3, x4, x5, x6, x7, x8, x9⟩; have X := hid (And.intro x1 (And.intro x2 (And.intro x3 (And.intro x4 (And.intro x5 (And.intro x6 (And.intro x7 (And.intro x8 x9)))))))); clear x1 x2 x3 x4 x5 x6 x7 x8 x9)
        obtain ⟨x1, x2, x3, x4, x5, x6, x7, x8, x9⟩ := X.out
        have hm5 : w5.ownsRow wr.heap.size 5 1 (.slice (some ⟨g3, 0, none⟩) (r.length + 16) cap3) (r.length + 16) ((r ++ spare).map B) := own_mod HO3.out (fun j hj => x1.block j (own_lt HO3.out j hj).2 (fun ho => by
          have e : g3 = j := Option.some.inj hj
          subst e
          exact ho.elim HNG.out.1 HNG.out.2))
        have hlen3 : (r ++ spare).length = r.length + 16 := by rw [List.length_append]; rfl
        have k1 := run_str (P := Try.prog) Try.underlying23 Try.underlying5 Try.underlying9 (own_sees' hm5 hlen3)
        have k2 := run_str (P := Try.prog) Try.underlying23 Try.underlying5 Try.underlying9 (HSU.out.below x2.drum.below)
        have HM5 := hid hm5
        clear hlen3 hm5 x1 x2 x3 x4 x5 x6 x7 x8 x9 HO3 HAP
        have hcat := str_spare r
        have hsz : ¬ 9223372036854775807 < (str r).size + 16 := by rw [str_size]; omega
        go_upto_region 19 with (fail)
        clear k1 k2 hcat hsz
        go_wp2
        go_loopw [64] (fun i wx => ∃ j : Nat, j ≤ r.length + 16 ∧ i = I j ∧ Hid (Loose wx wr.heap.size (.slice (some ⟨g3, 0, none⟩) (r.length + 16) cap3) (r.length + 16)) ∧ Hid (Mod (fun k => k = g3) w5 wx)) (fun i _ => r.length + 16 - (intOf i).toNat)
        case atStart => exact ⟨0, by omega, rfl, hid ⟨r ++ spare, by rw [List.length_append]; rfl, HM5.out⟩, hid (Mod.refl _ _)⟩
        case round =>
          obtain ⟨j, hj, rfl, HL, HM⟩ := hrel
          by_cases hjl : j < r.length + 16
          · have f1 : decide ((j : Int) < (r.length : Int) + 16) = true := decide_eq_true (by omega)
            obtain ⟨bs, hbl, hbr⟩ := HL.out
            have hcell := own_cell hbr (i := j) (u := B (bs[j]'(by omega))) (by rw [List.getElem?_map, List.getElem?_eq_getElem (by omega)]; rfl)
            have hfr := own_frozen hbr j
            generalize (bs[j]'(by omega)) = c0 at hcell
            have HL2 := hid (HL.out.set g3 j 0)
            have HM2 := hid (HM.out.trans (Mod.set (own := fun k => k = g3) (w := wr) (a := ⟨g3, j, none⟩) (u := B 0) rfl))
            clear hbr hbl
            go_wp2
            go_roundw
            case rel => exact ⟨j + 1, by omega, by go_num, HL2, HM2⟩
            case measure => simp [intOf]; omega
          · have hje : j = r.length + 16 := by omega
            have f1 : decide ((j : Int) < (r.length : Int) + 16) = false := decide_eq_false (by omega)
            clear hje hj hjl
            obtain ⟨x1, x2, x3, x4, x5, x6, x7, x8, x9⟩ := X.out
            have y1 := x2.mod HM.out (x9 g3 HG.out.2 HNG.out.1) HNG.out.2 (by have := HBW.out.size; have := HG.out.1; omega)
            have y2 := x8.keep (fun q hq => HM.out.block q (own_lt x8.row q hq).2 (fun e => by have := (own_lt HT.out.wants.row q hq).2; have := HG.out.1; omega))
            have y3 : ∀ q, (Value.slice av k cv).ownBlock = some q → ¬ own' q := fun q hq => x9 q (by have := (own_lt HT.out.wants.row q hq).2; have := HG.out; omega) (HT.out.nv q hq)
            have htl := y1.tape.lt
            have HY := hid (And.intro y1 (And.intro y2 y3))
            have HX := hid (And.intro x3 (And.intro x4 (And.intro x5 (And.intro x6 x7))))
            clear x1 x2 x3 x4 x5 x6 x7 x8 x9 X y1 y2 y3 HL HM HM5 HG HNG HT HBW
            go_wp2_with (at_builtin; go_must (refine wpList_app rfl (.tmp 71) (.tmp 73) 45 rfl (t + 1) 23 (.slice none 0 0) 1 24 Try.underlying45 info23t rfl (by decide) k us 1 [.slice au r.length cu] ((own_len HY.out.2.1.row HLK.out rfl).alloc _) (Src.new wr 1 23 [_] rfl (fun x hx => by obtain rfl := List.mem_singleton.1 hx; rfl)) ?h63 ?hb ?hbase ?_))
            case h63 => unfold maxLen; omega
            case hb => omega
            case hbase => simp; omega
            intro v' w8 hown hgrow hat
            obtain ⟨y1, y2, y3⟩ := tst_push HY.out.1 HY.out.2.1 HY.out.2.2 HSU.out (own_len hown (by rw [HLK.out]) rfl) hgrow hat
            have HNX : Hid (KpB w w8 p t own' T' D' v' (us ++ [.slice au r.length cu]) (L.take (k + 1)) (k + 1)) := hid ⟨y1, by rw [take_snoc HR.out]; exact HX.out.1, HX.out.2.1, HX.out.2.2.1, HX.out.2.2.2.1, HX.out.2.2.2.2, by rw [take_snoc HR.out]; exact y2, y3⟩
            obtain ⟨av', cv', rfl⟩ := own_form hown
            clear hown hgrow hat y1 y2 y3 HY HX HSU htl HR HLK
            go_wp2
            go_roundw
            case rel => exact ⟨k + 1, own', T', D', _, by omega, by go_num, HNX⟩
            case measure => simp [intOf]; omega
    · have hke : k = L.length := by omega
      subst hke
      obtain ⟨av, cv, rfl⟩ := own_form HT.out.wants.row
      have hon := HT.out.holds.on
      rw [HT.out.lo, HT.out.hi, List.take_length] at hon
      have hop := tst_open_on (lo := 0) (hi := 60) HT.out.tst.drum hon
      have hop' : Calls Try.prog 65 #[.pointer (some ⟨p, 0, none⟩), I 0, I 60] wr _ := hop
      have HOP := hid hop'
      have HON := hid hon
      clear hon hop hop' hk hlt
      go_wp2_with (go_at_call 65; refine HOP.out.mono ?_; rintro e w5 ⟨t2, v2, rfl, ht2, hlt2, hrc2, hb2⟩; obtain ⟨vs, pb, hrc2⟩ := hrc2; obtain ⟨ao2, co2, rfl⟩ := own_form hrc2.row; have HR2 := hid hrc2; have HT2 := hid ht2; have HB2 := hid hb2; have HLT := hid hlt2; clear ht2 hlt2 hrc2 hb2)
      clear HOP
      generalize hwz : wr = wz at *
      clear hwz
      go_loopw [84] (fun i wx => ∃ j : Nat, j ≤ L.length ∧ i = I j ∧ Hid (LooseRecs wx (t2 + 1) (.slice ao2 L.length co2) vs L) ∧ Hid (Below (t2 + 1) w5 wx)) (fun i _ => L.length - (intOf i).toNat)
      case atStart => exact ⟨0, by omega, rfl, hid (LooseRecs.of HR2.out), hid (Below.refl _ _)⟩
      case round =>
        clear HR2
        obtain ⟨j, hj, rfl, HL, HB⟩ := hrel
        by_cases hjl : j < L.length
        · have f1 : decide ((j : Int) < (L.length : Int)) = true := decide_eq_true (by omega)
          obtain ⟨r, hr⟩ : ∃ r, L[j]? = some r := ⟨_, List.getElem?_eq_getElem hjl⟩
          have hrs : r.length ≤ 65536 := HON.out.small r (List.mem_of_getElem? hr)
          have HR := hid hr
          obtain ⟨G, u, rfl, hu, hcu, hlo, hou⟩ := HL.out.at hr
          obtain ⟨au, cu, rfl⟩ := hlo.form
          have HU := hid hu
          clear hr hlo hou hu
          go_wp2
          go_loopw [92] (fun i wy => ∃ m : Nat, m ≤ r.length ∧ i = I m ∧ Hid (LooseRecs wy (t2 + 1) (.slice (some ⟨G, 0, none⟩) L.length co2) vs L) ∧ Hid (Below (t2 + 1) w5 wy)) (fun i _ => r.length - (intOf i).toNat)
          case atStart => exact ⟨0, by omega, rfl, HL, HB⟩
          case round =>
            clear HL HB
            obtain ⟨m, hm, rfl, HL, HB⟩ := hrel
            by_cases hmr : m < r.length
            · have f2 : decide ((m : Int) < (r.length : Int)) = true := decide_eq_true (by omega)
              clear hcu
              obtain ⟨G', u', e1, hu', hcu, hlo, hou⟩ := HL.out.at HR.out
              simp only [Option.some.injEq, Addr.mk.injEq, and_true] at e1
              subst e1
              rw [HU.out] at hu'
              obtain rfl := Option.some.inj hu'
              obtain ⟨g, c0, rfl, hgc, hcell, hfr⟩ := hlo.at hmr
              have hgo := hou g rfl
              have HL2 := hid (HL.out.set hgo.1 m 1)
              have HB2' := hid (HB.out.setCell (p := ⟨g, m, none⟩) hgo.2 (B 1))
              clear hlo hou hgo hu'
              go_wp2
              go_roundw
              case rel => exact ⟨m + 1, by omega, by go_num, HL2, HB2'⟩
              case measure => simp [intOf]; omega
            · have f2 : decide ((m : Int) < (r.length : Int)) = false := decide_eq_false (by omega)
              clear hcu
              go_wp2
              go_roundw
              case rel => exact ⟨j + 1, by omega, by go_num, HL, HB⟩
              case measure => simp [intOf]; omega
        · have f1 : decide ((j : Int) < (L.length : Int)) = false := decide_eq_false (by omega)
          have hst := HT2.out.drum.keepBelow (n := t2 + 1) (fun q hq => by have := HT.out.tst.drum.at'.lt q hq; have := HLT.out; omega) (by have := HT.out.tst.drum.below.size; have := HLT.out; omega) HB.out
          have hwn := (HT.out.wants.below HB2.out).keep (w' := wr) (fun q hq => HB.out.block q (by have := (own_lt HT.out.wants.row q hq).2; have := HLT.out; omega))
          rw [List.take_length] at hwn
          have hop := tst_open_on (lo := 0) (hi := 60) hst HON.out
          have hop' : Calls Try.prog 65 #[.pointer (some ⟨p, 0, none⟩), I 0, I 60] wr _ := hop
          have HOP := hid hop'
          have HWN := hid hwn
          clear hop hop' hst hwn HL HB
          go_wp2_with (go_at_call 65; refine HOP.out.mono ?_; rintro e w6 ⟨t3, v3, rfl, ht3, hlt3, hrc3, hb3⟩; obtain ⟨ao3, co3, rfl⟩ := hrc3.form; have HSH := hid hrc3.shows; have HT3 := hid ht3; have HB3 := hid hb3; clear ht3 hlt3 hrc3 hb3)
          have hal := alike_any w6 _ _ L L HSH.out ((HWN.out.below HB3.out).shows HT3.out.drum.below)
          rw [decide_eq_true rfl] at hal
          have HAL := hid hal
          have HBW := hid HT3.out.drum.below
          clear hal
          go_wp2_with (go_at_call 67; refine HAL.out.mono ?_; rintro e w7 ⟨rfl, m7, rfl⟩)
          go_ret
          exact ⟨rfl, HBW.out.trans ((below_drewN _ _).mono HBW.out.size)⟩
namespace tapeKeeps
theorem walkAll (a0 : Option Addr) (cap0 : Nat) (L : List (List UInt8)) {w : World} (h0 : Shows w (.slice a0 L.length cap0) L) (w' : World) (e : w = w') :
    Calls Try.prog 17 #[.slice a0 L.length cap0] w' fun e w'' => e = .returned (.bool true) ∧ Below w'.heap.size w' w'' := by
  subst e
  exact keeps_walk w a0 cap0 L h0
end tapeKeeps
end Go.Proofs.Ytoaeapnkefjpaaa

namespace Go.Proofs.Ytoaeapnkefjpaaa
open Go.RowKit
set_option linter.unusedVariables false
set_option linter.unusedSimpArgs false

section
variable {w0 w : World} {od om : Nat → Prop} {p pm : Nat} {D M : DS}
theorem both_write (h : Both w0 od p om pm D M w) (a : Int) (ha : -9223372036854775808 ≤ a ∧ a ≤ 9223372036854775807) {v : Value} {l : List UInt8} (hv : Sees w v l) (hd : ∀ k, v.ownBlock = some k → ¬ od k) (hN : D.waits.length ≤ 1000000000) :
    Calls Try.prog 50 #[.pointer (some ⟨p, 0, none⟩), I a, v] w fun e w' => e = .returned (I (D.write a l).1) ∧ ∃ od', Both w0 od' p om pm (D.write a l).2 M w' ∧ ∀ b o, Held od om w b o → Held od' om w' b o :=
  (write_any w p od D a v l h.d hv ha hd hN).mono fun e w' ⟨h1, h2⟩ => ⟨h1, h.dstep h2⟩
theorem both_rwrite (h : Both w0 od p om pm D M w) (a : Int) (ha : -9223372036854775808 ≤ a ∧ a ≤ 9223372036854775807) {v : Value} {l : List UInt8} (hv : Sees w v l) (hd : ∀ k, v.ownBlock = some k → ¬ om k) (hN : M.waits.length ≤ 1000000000) :
    Calls Try.prog 51 #[.pointer (some ⟨pm, 0, none⟩), I a, v] w fun e w' => e = .returned (I (M.write a l).1) ∧ ∃ om', Both w0 od p om' pm D (M.write a l).2 w' ∧ ∀ b o, Held od om w b o → Held od om' w' b o :=
  (rwrite_any w pm om M a v l h.m hv ha hd hN).mono fun e w' ⟨h1, h2⟩ => ⟨h1, h.mstep h2⟩
theorem both_flush (h : Both w0 od p om pm D M w) :
    Calls Try.prog 52 #[.pointer (some ⟨p, 0, none⟩)] w fun e w' => e = .returned (I D.Flush.1) ∧ ∃ od', Both w0 od' p om pm D.Flush.2 M w' ∧ ∀ b o, Held od om w b o → Held od' om w' b o :=
  (flush_any w p od D h.d).mono fun e w' ⟨h1, h2⟩ => ⟨h1, h.dstep h2.more⟩
theorem both_rflush (h : Both w0 od p om pm D M w) :
    Calls Try.prog 53 #[.pointer (some ⟨pm, 0, none⟩)] w fun e w' => e = .returned (I M.Flush.1) ∧ ∃ om', Both w0 od p om' pm D M.Flush.2 w' ∧ ∀ b o, Held od om w b o → Held od om' w' b o :=
  (rflush_any w pm om M h.m).mono fun e w' ⟨h1, h2⟩ => ⟨h1, h.mstep h2⟩
end
theorem Both.mod {w0 w w' : World} {od om : Nat → Prop} {p pm g : Nat} {D M : DS} (h : Both w0 od p om pm D M w) (hm : Mod (fun k => k = g) w w') (h1 : ¬ od g) (h2 : ¬ om g) (h3 : w0.heap.size ≤ g) : Both w0 od p om pm D M w' :=
  ⟨h.d.mod hm (fun k hk e => h1 (e ▸ hk)), h.m.mod hm (fun k hk e => h2 (e ▸ hk)), h.fd, h.fm, h.dis, h.below.trans (hm.below h.below.size (fun i hi e => by omega))⟩
/-- A row of bytes whose block is held. -/
def HeldRow (od om : Nat → Prop) (w : World) (v : Value) (n : Nat) (l : List UInt8) : Prop := w.ownsRow 0 5 1 v n (l.map B) ∧ ∀ g, v.ownBlock = some g → ¬ od g ∧ ¬ om g
theorem HeldRow.step {od om od' om' : Nat → Prop} {w w' : World} {v : Value} {n : Nat} {l : List UInt8} (h : HeldRow od om w v n l) (hs : ∀ b o, Held od om w b o → Held od' om' w' b o) : HeldRow od' om' w' v n l := by
  have key : ∀ g, v.ownBlock = some g → ∃ o, w.heap[g]? = some o ∧ Held od' om' w' g o := fun g hg => by
    have hlt := (own_lt h.1 g hg).2
    exact ⟨w.heap[g], Array.getElem?_eq_getElem hlt, hs g _ ⟨Array.getElem?_eq_getElem hlt, h.2 g hg⟩⟩
  refine ⟨own_mod h.1 (fun g hg => ?_), fun g hg => ?_⟩
  · obtain ⟨o, h1, h2⟩ := key g hg
    rw [h1, h2.1]
  · obtain ⟨o, h1, h2⟩ := key g hg
    exact h2.2
theorem HeldRow.on {od om : Nat → Prop} {w w' : World} {v : Value} {n : Nat} {l : List UInt8} (h : HeldRow od om w v n l) (hb : Below w.heap.size w w') : HeldRow od om w' v n l := ⟨own_below h.1 hb, h.2⟩
/-- copy into a page. -/
theorem own_copy2 {P : Program} {w : World} {base : Nat} {e : TypeId} {n g cap : Nat} {xs ys : List Value} (h : w.ownsRow base e 1 (.slice (some ⟨g, 0, none⟩) n cap) n xs) {a : Addr} {sl sc : Nat} {dT sT ty : TypeId} (hm : ys.length = min sl n)
    (hu : P.underlying dT = some (.slice e)) (hs : (P.info? e).map (·.size) = some 1) (hsrc : ∀ i v, ys[i]? = some v → w.cell? (a.add i) = some v) (h1 : ∀ v ∈ ys, v.oneCell' = true) :
    ∃ w', (Builtin.copy_ #[dT, sT] ty #[.slice (some ⟨g, 0, none⟩) n cap, .slice (some a) sl sc]).run P w = .ok (goInt ys.length) w' ∧
      w'.ownsRow base e 1 (.slice (some ⟨g, 0, none⟩) n cap) n (ys ++ xs.drop ys.length) ∧ Mod (fun k => k = g) w w' := by
  obtain ⟨hl, h2⟩ := h
  rcases h2 with ⟨h0, _⟩ | ⟨g', cap', cur, hv, hb, hg, hnc, hcm, hcs, ht⟩
  · cases h0
  simp only [Value.slice.injEq, Option.some.injEq, Addr.mk.injEq] at hv
  obtain ⟨⟨rfl, _⟩, _, rfl⟩ := hv
  have hcp := run_copy_row (P := P) w dT sT ty e g 0 n cap a sl sc cur e ys hu hs hg hm hsrc (by omega) h1
  have hst := seg_take cur.toList ys 0 n (by omega) (by rw [Array.length_toList]; omega)
  rw [Nat.zero_add] at hst
  rw [Nat.zero_add] at hcp
  rw [List.take_zero, List.nil_append] at hst hcp
  refine ⟨_, hcp, ⟨by simp only [List.length_append, List.length_drop]; omega, .inr ⟨g, cap, _, rfl, by simpa using hb, setRow_heap w g cur _ e (0, 0) hg, hnc, hcm, ?_, ?_⟩⟩, Mod.setRow rfl⟩
  · simp only [List.size_toArray, List.length_append, List.length_drop, Array.length_toList]
    omega
  · rw [Nat.mul_one] at ht ⊢
    rw [List.toList_toArray, hst, ht, List.take_zero, List.nil_append]
set_option maxRecDepth 100000 in
set_option maxHeartbeats 3200000 in
theorem begun_any (w : World) (pg lo hi sp : Int) (hp : -9223372036854775808 ≤ pg ∧ pg ≤ 9223372036854775807) (hsp : -9223372036854775808 ≤ sp ∧ sp ≤ 9223372036854775807) (fv : Value) (first : List UInt8) (hf : Sees w fv first) (hfl : first.length ≤ 32768) :
    Calls Try.prog 70 #[.agg #[I pg, I lo, I hi, fv, I sp]] w fun e w' => ∃ p pm od om D, e = .returned (.tuple #[.pointer (some ⟨p, 0, none⟩), .pointer (some ⟨pm, 0, none⟩)]) ∧ Both w od p om pm D D w' ∧ D.waits.length ≤ 200 := by
  obtain ⟨af, cf, rfl, hff⟩ := hf.form0
  have hb0 : Below w.heap.size w (w.alloc (.cells #[I pg, I lo, I hi, .slice af first.length cf, I sp] 94)) := (Below.refl _ _).alloc (Nat.le_refl _) _
  have hp0 : (w.alloc (.cells #[I pg, I lo, I hi, .slice af first.length cf, I sp] 94)).heap[w.heap.size]? = some (.cells #[I pg, I lo, I hi, .slice af first.length cf, I sp] 94 (0, 0)) := heap_alloc_new _ _
  have HF := hid (hf.below hb0)
  have HP := hid hp0
  have HB0 := hid hb0
  clear hb0 hp0 hf
  go_enter Try.func70, Try.ntmps70
  go_wp2_with fail
  have HZ := hid (show (w.alloc (.cells #[I pg, I lo, I hi, .slice af first.length cf, I sp] 94)).heap.size = w.heap.size + 1 by simp)
  generalize w.alloc (.cells #[I pg, I lo, I hi, .slice af first.length cf, I sp] 94) = wa at *
  obtain ⟨bp, hbp⟩ : ∃ bp, bp = w.heap.size := ⟨_, rfl⟩
  rw [← hbp] at HP ⊢
  have HBP := hid hbp
  clear hbp
  have k0 : ∀ w', Ext wa.drew w' → w'.cell? ⟨bp, 0, none⟩ = some (I pg) := fun w' hh => (Ext.trans _ _ _ (Ext.drew wa) hh).cell (by rw [cell_of_row _ _ _ _ _ _ HP.out]; rfl)
  refine wp_region_order Ext [] [(0,0),(1,0),(3,0),(4,0),(2,1),(5,1),(6,0),(7,0)] _ (by kernel_rfl) rfl Ext.refl Ext.trans (by kernel_rfl) (by simp only [pick, List.getElem?_toArray, List.getElem?_cons_zero, List.getElem?_cons_succ]; rfl) (fun c a d v w h => by cases d <;> exact h) ?_
  refine wpK_q (v := ?_) (a' := ?_) (by rfl) (fun w' hR => ?_) ?_ ?_
  rotate_left 2
  · go_simp; with_reducible rfl
  · simp only [Act.put, List.setIfInBounds_toArray, List.set_cons_zero, List.set_cons_succ]; rfl
  refine wpK_q (v := ?_) (a' := ?_) (by rfl) (fun w' hR => ?_) ?_ ?_
  rotate_left 2
  · go_simp; with_reducible rfl
  · simp only [Act.put, List.setIfInBounds_toArray, List.set_cons_zero, List.set_cons_succ]; rfl
  refine wpK_q (v := ?_) (a' := ?_) (by rfl) (fun w' hR => ?_) ?_ ?_
  rotate_left 2
  · go_simp; with_reducible rfl
  · simp only [Act.put, List.setIfInBounds_toArray, List.set_cons_zero, List.set_cons_succ]; rfl
  refine wpK_q (v := ?_) (a' := ?_) (by rfl) (fun w' hR => ?_) ?_ ?_
  rotate_left 2
  · go_simp; with_reducible rfl
  · simp only [Act.put, List.setIfInBounds_toArray, List.set_cons_zero, List.set_cons_succ]; rfl
  refine wpK_call Try.func36 (by kernel_rfl) rfl rfl (by rfl) #[.int .i64 pg] (by simp only [List.map_toArray, List.map_cons, List.map_nil]; rfl) ?_
  refine (st_new _ pg hp).mono ?_
  rintro e w2 ⟨p, od, rfl, h2⟩
  refine ⟨_, rfl, fun _ => h2.below, ?_⟩
  refine wpK_call Try.func37 (by kernel_rfl) rfl rfl (by rfl) #[.int .i64 pg] (by simp only [List.map_toArray, List.map_cons, List.map_nil]; rfl) ?_
  refine (rnew_any _ pg hp).mono ?_
  rintro e w3 ⟨pm, om, rfl, h3, h4, h5⟩
  refine ⟨_, rfl, fun _ => h5, ?_⟩
  refine wpK_q (v := ?_) (a' := ?_) (by rfl) (fun w' hR => ?_) ?_ ?_
  rotate_left 2
  · go_simp; with_reducible rfl
  · simp only [Act.put, List.setIfInBounds_toArray, List.set_cons_zero, List.set_cons_succ]; rfl
  refine wpK_q (v := ?_) (a' := ?_) (by rfl) (fun w' hR => ?_) ?_ ?_
  rotate_left 2
  · go_simp; with_reducible rfl
  · simp only [Act.put, List.setIfInBounds_toArray, List.set_cons_zero, List.set_cons_succ]; rfl
  refine wpK_done ?_
  have hbo := both_new h2 h3 h4 h5
  have hbw : Below w.heap.size w wa.drew := HB0.out.trans ((Ext.drew wa).mono HB0.out.size)
  have hbo' : Both w od p om pm (DS.new (DS.clamp pg)) (DS.new (DS.clamp pg)) w3 := ⟨hbo.d, hbo.m, fun k hk => Nat.le_trans hbw.size (hbo.fd k hk), fun k hk => Nat.le_trans hbw.size (hbo.fm k hk), hbo.dis, hbw.trans (hbo.below.mono hbw.size)⟩
  have HBO := hid hbo'
  have HP3 := hid ((hbo.below.block bp (by show bp < wa.heap.size; rw [HBP.out, HZ.out]; omega)).trans (show wa.drew.heap[bp]? = _ from HP.out))
  have HF3 := hid (HF.out.below (show Below wa.heap.size wa w3 from Below.trans (Ext.drew wa) (hbo.below.mono (show wa.heap.size ≤ wa.drew.heap.size from Nat.le_refl _))))
  have hpn : ¬ od bp ∧ ¬ om bp := ⟨fun h => by have h1 := hbo.fd bp h; have h2 : wa.drew.heap.size = w.heap.size + 1 := HZ.out; rw [h2, ← HBP.out] at h1; omega, fun h => by have h1 := hbo.fm bp h; have h2 : wa.drew.heap.size = w.heap.size + 1 := HZ.out; rw [h2, ← HBP.out] at h1; omega⟩
  have HPN := hid hpn
  have HNW : Hid (w.heap.size ≤ w3.heap.size) := hid (Nat.le_trans hbw.size hbo.below.size)
  have HPL : Hid (bp < w3.heap.size) := hid (Array.getElem?_eq_some_iff.1 HP3.out).1
  clear k0 h2 h3 h4 h5 hbo hbw hbo' hpn
  have HO0 := hid (own_empty w3 5 1)
  have hb0 : Below w3.heap.size w3 (w3.alloc (.cells #[] 5)) := (Below.refl _ _).alloc (Nat.le_refl _) _
  have HSa := hid (HF3.out.below hb0)
  have HBa := hid hb0
  have c3 : (w3.alloc (.cells #[] 5)).cell? ⟨bp, 3, none⟩ = some (.slice af first.length cf) := cell_on hb0 (by rw [cell_of_row _ _ _ _ _ _ HP3.out]; rfl)
  clear hb0
  go_wp2_with (at_builtin; go_must (refine wpList_app rfl (.tmp 15) (.tmp 17) 23 rfl w3.heap.size 5 (.int .u8 0) 1 1 Try.underlying23 info5 rfl (by decide) 0 [] first.length (first.map B) HO0.out HSa.out.src ?h63 ?hb ?hbase ?_))
  case h63 => unfold maxLen; omega
  case hb => omega
  case hbase => simp
  intro v4 w4 hown hgrow hat
  replace hown : w4.ownsRow w3.heap.size 5 1 v4 first.length (first.map B) := own_len hown (by simp) (by simp)
  have hb4 := HBa.out.grown hgrow (by simp) (fun j hj => by cases hj; exact Nat.le_refl _)
  obtain ⟨a4, c4, rfl⟩ := own_form hown
  have HB4 := hid (HBO.out.on hb4)
  have HP4 := hid ((hb4.block bp (Array.getElem?_eq_some_iff.1 HP3.out).1).trans HP3.out)
  have HO4 := hid hown
  have HR4 := hid (fun k (hk : (Value.slice a4 first.length c4).ownBlock = some k) => (⟨fun h => by have := HBO.out.d.lt k h; have := (own_lt HO4.out k hk).1; omega, fun h => by have := HBO.out.m.lt k h; have := (own_lt HO4.out k hk).1; omega⟩ : ¬ od k ∧ ¬ om k))
  have d4 : w4.cell? ⟨bp, 4, none⟩ = some (I sp) := by rw [cell_of_row _ _ _ _ _ _ HP4.out]; rfl
  clear hown hgrow hat hb4 HO0 HSa HBa HBO HP3 HF3 c3
  generalize hfn : first.length = n at *
  have HFN := hid hfn
  have hnr : w.heap.size ≤ w3.heap.size := by have := HB4.out.below.size; have := HNW.out; omega
  have HNR := hid hnr
  clear hfn hnr
  have hcases : decide ((0 : Int) < sp) = false ∨ (decide ((0 : Int) < sp) = true ∧ decide (sp ≤ (n : Int)) = false) ∨ (decide ((0 : Int) < sp) = true ∧ decide (sp ≤ (n : Int)) = true ∧ ∃ k : Nat, sp = (k : Int) + 1 ∧ k < n) := by
    by_cases h1 : 0 < sp
    · by_cases h2 : sp ≤ (n : Int)
      · exact .inr (.inr ⟨decide_eq_true h1, decide_eq_true h2, (sp - 1).toNat, by omega, by omega⟩)
      · exact .inr (.inl ⟨decide_eq_true h1, decide_eq_false h2⟩)
    · exact .inl (decide_eq_false h1)
  rcases hcases with e1 | ⟨e1, e2⟩ | ⟨e1, e2, k, hk1, hk2⟩
  focus
    have HQ : Hid (∃ bl : List UInt8, bl.length = n ∧ HeldRow od om w4 (.slice a4 n c4) n bl) := hid ⟨first, HFN.out, own_anew HO4.out (fun k _ => Nat.zero_le k), HR4.out⟩
    go_upto_block 0 with (fail)
    clear HO4 HR4 d4 e1
    generalize w4 = w5 at *
    have HB5 := HB4
    clear HB4 HP4
  rotate_left
  focus
    have HQ : Hid (∃ bl : List UInt8, bl.length = n ∧ HeldRow od om w4 (.slice a4 n c4) n bl) := hid ⟨first, HFN.out, own_anew HO4.out (fun k _ => Nat.zero_le k), HR4.out⟩
    go_upto_block 0 with (fail)
    clear HO4 HR4 d4 e1 e2
    generalize w4 = w5 at *
    have HB5 := HB4
    clear HB4 HP4
  rotate_left
  focus
    have HK1 := hid hk1
    have hw1 : IntKind.i64.wrap (sp - 1) = (k : Int) := by rw [hk1, show (k : Int) + 1 - 1 = (k : Int) by omega]; exact IntWalk.i64_in _ (by omega)
    obtain ⟨g4, cp4, hv4, y1, y2, y3, y4⟩ := own_slice HO4.out (by omega)
    simp only [Value.slice.injEq] at hv4
    obtain ⟨rfl, -, rfl⟩ := hv4
    obtain ⟨c, hc⟩ : ∃ c, first[k]? = some c := ⟨_, List.getElem?_eq_getElem (by rw [HFN.out]; exact hk2)⟩
    have hcell := own_cell HO4.out (i := k) (u := B c) (by rw [List.getElem?_map, hc]; rfl)
    have hfz := own_frozen HO4.out k
    obtain ⟨y, hy, -⟩ := xor_byte c 4 (by omega) (by omega)
    have hst := own_set HO4.out hk2 (B y)
    rw [← List.map_set] at hst
    have hr4 := HR4.out g4 rfl
    have hm4 : Mod (fun k => k = g4) w4 (w4.setCell ⟨g4, k, none⟩ (.int .u8 (y.toNat : Int))) := Mod.set (own := fun k => k = g4) (a := ⟨g4, k, none⟩) rfl
    have HQ : Hid (∃ bl : List UInt8, bl.length = n ∧ HeldRow od om (w4.setCell ⟨g4, k, none⟩ (.int .u8 (y.toNat : Int))) (.slice (some ⟨g4, 0, none⟩) n c4) n bl) := hid ⟨first.set k y, by rw [List.length_set]; exact HFN.out, own_anew hst (fun k _ => Nat.zero_le k), HR4.out⟩
    have HB5 := hid (HB4.out.mod hm4 hr4.1 hr4.2 (Nat.le_trans HNR.out y3))
    have HP5 := hid ((hm4.block bp (Array.getElem?_eq_some_iff.1 HP4.out).1 (fun e => by have := HPL.out; omega)).trans HP4.out)
    clear hk1 hst hm4 hr4 hc y1 y2 y4
    go_upto_block 0 with (fail)
    clear HO4 HR4 HB4 HP4 HP5 d4 e1 e2 hcell hfz hw1 hy y3 HK1 hk2
    generalize w4.setCell ⟨g4, k, none⟩ (.int .u8 (y.toNat : Int)) = w5 at *
    generalize (some ⟨g4, 0, none⟩ : Option Addr) = a4 at *
  rotate_left
  all_goals
    have hmk := fun w => run_page0 w 23 rfl
    go_wp2_with fail
    go_loopw [7] (fun i wr => ∃ (k : Nat) (od om : Nat → Prop) (D : DS), k ≤ 200 ∧ i = I k ∧ 256 * k ≤ n + 255 ∧ Hid (Both w od p om pm D D wr) ∧ Hid (D.waits.length ≤ k) ∧ Hid (∃ bl : List UInt8, bl.length = n ∧ HeldRow od om wr (.slice a4 n c4) n bl)) (fun i _ => 200 - (intOf i).toNat)
    case atStart => exact ⟨0, od, om, _, by omega, rfl, by omega, HB5, hid (Nat.le_refl _), HQ⟩
    case round =>
      clear HQ HB5
      obtain ⟨k, od, om, D, hk, rfl, hkn, HB, HW, HQ⟩ := hrel
      obtain ⟨as0, cs, cc0, -, -, -⟩ := HB.out.m.cells
      have hn2 := HB.out.m.ok.n2
      by_cases hboth : 256 * k < n ∧ k < D.safe.length
      · obtain ⟨h1, h2⟩ := hboth
        have f1 : decide ((256 : Int) * (k : Int) < (n : Int)) = true := decide_eq_true (by omega)
        have f2 : decide ((k : Int) < (D.safe.length : Int)) = true := decide_eq_true (by omega)
        obtain ⟨bl, hbl, hrow⟩ := HQ.out
        obtain ⟨g4, cp4, hv4, y1, y2, y3, y4⟩ := own_slice hrow.1 (by omega)
        simp only [Value.slice.injEq] at hv4
        obtain ⟨rfl, -, rfl⟩ := hv4
        have hb6 : Below wr.heap.size wr (wr.alloc (.cells (page0.map B).toArray 5)) := (Below.refl _ _).alloc (Nat.le_refl _) _
        have hpg := own_page0 wr
        have hrow6 := hrow.on hb6
        obtain ⟨m, hm⟩ : ∃ m, m = min (n - 256 * k) 256 := ⟨_, rfl⟩
        have hyl : (((bl.drop (256 * k)).take m).map B).length = min (n - 256 * k) 256 := by rw [List.length_map, List.length_take, List.length_drop, hbl]; omega
        obtain ⟨w7, hcp, hO7, hM7⟩ := own_copy2 (P := Try.prog) (ys := ((bl.drop (256 * k)).take m).map B) hpg (a := ⟨g4, 256 * k, none⟩) (sl := n - 256 * k) (sc := c4 - 256 * k) (dT := 23) (sT := 23) (ty := 3) hyl Try.underlying23 z5 (fun i u hu => by
          rw [add_off]
          rw [List.getElem?_map, List.getElem?_take] at hu
          split at hu
          · rw [List.getElem?_drop] at hu
            exact own_cell hrow6.1 (by rw [List.getElem?_map]; exact hu)
          · simp at hu) (fun u hu => by obtain ⟨c, _, rfl⟩ := List.mem_map.1 hu; rfl)
        obtain ⟨PG, hPG⟩ : ∃ PG, PG = (bl.drop (256 * k)).take m ++ page0.drop m := ⟨_, rfl⟩
        have hO7' : w7.ownsRow wr.heap.size 5 1 (.slice (some ⟨wr.heap.size, 0, none⟩) 256 256) 256 (PG.map B) := own_len hO7 rfl (by rw [hyl, hPG, List.map_append, List.map_drop, hm])
        have hPGl : PG.length = 256 := by have := hO7'.1; simpa using this
        have hg4 : g4 < wr.heap.size := (own_lt hrow.1 g4 rfl).2
        have hb7 : Below wr.heap.size wr w7 := hb6.trans (hM7.below hb6.size (fun i hi e => by omega))
        have HB7 := hid (HB.out.on hb7)
        have HQ7 := hid (hrow.on hb7)
        have HP7 : Hid (HeldRow od om w7 (.slice (some ⟨wr.heap.size, 0, none⟩) 256 256) 256 PG) := hid ⟨own_anew hO7' (fun k _ => Nat.zero_le k), fun q hq => by have e : wr.heap.size = q := Option.some.inj hq; subst e; exact ⟨fun h => by have := HB.out.d.lt _ h; omega, fun h => by have := HB.out.m.lt _ h; omega⟩⟩
        have HPL7 := hid hPGl
        have HBL := hid hbl
        have tn : (256 * (k : Int)).toNat = 256 * k := by omega
        have tc : ¬ (c4 = 256 * k) := by omega
        have hcw := both_write HB7.out (k : Int) (by omega) (own_sees' HP7.out.1 hPGl) (fun q hq => (HP7.out.2 q hq).1) (by have := HW.out; omega)
        have HCW := hid hcw
        clear hb6 hpg hrow6 hyl hO7 hM7 hPG hO7' hPGl hb7 hrow hbl hcw y1 y2 y3 y4
        go_wp2_with (first | (at_builtin; go_must (refine wpList_by rfl (exec_copy rfl _ (by simp only [List.map_toArray, List.map_cons, List.map_nil]; rfl) hcp) ?_)) | (go_at_call 50; go_must (refine HCW.out.mono ?_); rintro e w8 ⟨rfl, od2, hb8, hs8⟩; have HB8 := hid hb8; have HS8 := hid hs8; clear hb8 hs8) | (go_at_call 51; fail))
        have hp8 := HP7.out.step HS8.out
        have HCW2 := hid (both_rwrite HB8.out (k : Int) (by omega) (own_sees' hp8.1 HPL7.out) (fun q hq => (hp8.2 q hq).2) (by have := HW.out; omega))
        refine HCW2.out.mono ?_
        rintro e w9 ⟨rfl, om2, hb9, hs9⟩
        have HB9 := hid hb9
        have HW9 : Hid ((D.write (k : Int) PG).2.waits.length ≤ k + 1) := hid (Nat.le_trans (DS.write_waits' D _ _) (Nat.add_le_add_right HW.out 1))
        have HQ9 : Hid (∃ bl : List UInt8, bl.length = n ∧ HeldRow od2 om2 w9 (.slice (some ⟨g4, 0, none⟩) n c4) n bl) := hid ⟨bl, HBL.out, (HQ7.out.step HS8.out).step hs9⟩
        clear hp8 HCW2 hb9 hs9 HB7 HQ7 HP7 HB8 HS8 HCW hcp
        go_wp2_with fail
        go_roundw
        case rel => exact ⟨k + 1, od2, om2, _, by omega, by go_num, by omega, HB9, HW9, HQ9⟩
        case measure => simp [intOf]; omega
      · have hf : (decide ((256 : Int) * (k : Int) < (n : Int)) = false ∧ ¬ 256 * k < n) ∨ (decide ((256 : Int) * (k : Int) < (n : Int)) = true ∧ decide ((k : Int) < (D.safe.length : Int)) = false ∧ 256 * k < n ∧ ¬ k < D.safe.length) := by
          by_cases h1 : 256 * k < n
          · have h3 : ¬ k < D.safe.length := fun h => hboth ⟨h1, h⟩
            exact .inr ⟨decide_eq_true (by omega), decide_eq_false (by omega), h1, h3⟩
          · exact .inl ⟨decide_eq_false (by omega), h1⟩
        have HCF := hid (both_flush HB.out)
        have HKW : Hid (D.Flush.2.waits.length ≤ 200) := hid (Nat.le_trans (DS.Flush_waits D) (Nat.le_trans HW.out hk))
        clear hboth
        rcases hf with ⟨f1, n1⟩ | ⟨f1, f2, n1, n2⟩
        all_goals
          go_wp2_with (go_at_call 52; go_must (refine HCF.out.mono ?_); rintro e w8 ⟨rfl, od2, hb8, hs8⟩; have HB8 := hid hb8; clear hb8 hs8)
          refine (both_rflush HB8.out).mono ?_
          rintro e w9 ⟨rfl, om2, hb9, hs9⟩
          have HB9 := hid hb9
          clear hb9 hs9
          go_wp2_with fail
          go_ret2
          exact ⟨p, pm, od2, om2, _, rfl, HB9.out, HKW.out⟩
end Go.Proofs.Ytoaeapnkefjpaaa

namespace Go.Proofs.Ytoaeapnkefjpaaa
open Go.RowKit
set_option linter.unusedVariables false
set_option linter.unusedSimpArgs false
/-- What is held by neither drum stays so. -/
def Stay (od om od' om' : Nat → Prop) (w w' : World) : Prop := ∀ b o, Held od om w b o → Held od' om' w' b o
theorem Stay.refl (od om : Nat → Prop) (w : World) : Stay od om od om w w := fun _ _ h => h
theorem Stay.trans {od om od1 om1 od2 om2 : Nat → Prop} {w w1 w2 : World} (h : Stay od om od1 om1 w w1) (k : Stay od1 om1 od2 om2 w1 w2) : Stay od om od2 om2 w w2 := fun b o hb => k b o (h b o hb)
theorem Stay.below {od om : Nat → Prop} {w w' : World} (hb : Below w.heap.size w w') : Stay od om od om w w' := fun b o h => h.on hb
section
variable {w0 w : World} {od om : Nat → Prop} {p pm : Nat} {D M : DS}
theorem Both.back {w00 : World} (h : Both w0 od p om pm D M w) (hb : Below w00.heap.size w00 w0) : Both w00 od p om pm D M w :=
  ⟨h.d, h.m, fun k hk => Nat.le_trans hb.size (h.fd k hk), fun k hk => Nat.le_trans hb.size (h.fm k hk), h.dis, hb.trans (h.below.mono hb.size)⟩
theorem both_arm (h : Both w0 od p om pm D M w) (n k : Int) (hn : -9223372036854775808 ≤ n ∧ n ≤ 9223372036854775807) (hk : -9223372036854775808 ≤ k ∧ k ≤ 9223372036854775807) :
    Calls Try.prog 44 #[.pointer (some ⟨p, 0, none⟩), I n, I k] w fun e w' => e = .returned (.tuple #[]) ∧ ∃ od', Both w0 od' p om pm (D.Arm n k) M w' ∧ Stay od om od' om w w' :=
  (arm_any w p od D n k h.d hn hk).mono fun e w' ⟨h1, h2⟩ => ⟨h1, h.dstep h2.more⟩
theorem both_rarm (h : Both w0 od p om pm D M w) (n k : Int) (hn : -9223372036854775808 ≤ n ∧ n ≤ 9223372036854775807) (hk : -9223372036854775808 ≤ k ∧ k ≤ 9223372036854775807) :
    Calls Try.prog 45 #[.pointer (some ⟨pm, 0, none⟩), I n, I k] w fun e w' => e = .returned (.tuple #[]) ∧ ∃ om', Both w0 od p om' pm D (M.Arm n k) w' ∧ Stay od om od om' w w' :=
  (rarm_any w pm om M n k h.m hn hk).mono fun e w' ⟨h1, h2⟩ => ⟨h1, h.mstep h2.more⟩
theorem both_off (h : Both w0 od p om pm D M w) (k : Int) (hk : -9223372036854775808 ≤ k ∧ k ≤ 9223372036854775807) :
    Calls Try.prog 46 #[.pointer (some ⟨p, 0, none⟩), I k] w fun e w' => e = .returned (.tuple #[]) ∧ ∃ od', Both w0 od' p om pm (D.Off k) M w' ∧ Stay od om od' om w w' :=
  (off_any w p od D k h.d hk).mono fun e w' ⟨h1, h2⟩ => ⟨h1, h.dstep h2.more⟩
theorem both_roff (h : Both w0 od p om pm D M w) (k : Int) (hk : -9223372036854775808 ≤ k ∧ k ≤ 9223372036854775807) :
    Calls Try.prog 47 #[.pointer (some ⟨pm, 0, none⟩), I k] w fun e w' => e = .returned (.tuple #[]) ∧ ∃ om', Both w0 od p om' pm D (M.Off k) w' ∧ Stay od om od om' w w' :=
  (roff_any w pm om M k h.m hk).mono fun e w' ⟨h1, h2⟩ => ⟨h1, h.mstep h2⟩
theorem both_on (h : Both w0 od p om pm D M w) :
    Calls Try.prog 48 #[.pointer (some ⟨p, 0, none⟩)] w fun e w' => e = .returned (.tuple #[]) ∧ ∃ od', Both w0 od' p om pm D.On M w' ∧ Stay od om od' om w w' :=
  (on_any w p od D h.d).mono fun e w' ⟨h1, h2⟩ => ⟨h1, h.dstep h2.more⟩
theorem both_clear (h : Both w0 od p om pm D M w) (lo : Int) (hlo : -9223372036854775808 ≤ lo ∧ lo ≤ 9223372036854775807) (hN : D.waits.length ≤ 800000000) :
    Calls Try.prog 68 #[.pointer (some ⟨p, 0, none⟩), I lo] w fun e w' => e = .returned (I (D.write lo page0).1) ∧ ∃ od', Both w0 od' p om pm (D.write lo page0).2 M w' ∧ Stay od om od' om w w' :=
  (tclear_any w p od D lo h.d hlo hN).mono fun e w' ⟨h1, h2⟩ => ⟨h1, h.dstep h2⟩
/-- The tape that an opening comes to. -/
def openTape (D : DS) (lo hi : Int) : TS := ⟨lo.toNat, hi.toNat, (TS.opn D lo hi).2.2.1, (TS.opn D lo hi).2.2.2, 0⟩
theorem shows_nil (w : World) : Shows w (.slice none 0 0) [] := ⟨none, 0, rfl, Nat.le_refl _, by decide, fun h => by simp at h⟩
theorem opn_bad_nil {D : DS} {lo hi : Int} (h : (TS.opn D lo hi).1 ≠ 0) : (TS.opn D lo hi).2.1 = [] := by
  have key : ∀ (S : List UInt8) (fuel a c : Nat) (acc : List (List UInt8)), (TS.opened S fuel a c acc).1 ≠ 0 → (TS.opened S fuel a c acc).2.1 = [] := by
    intro S fuel
    induction fuel with
    | zero => intro a c acc h; exact absurd rfl h
    | succ k ih =>
      intro a c acc h
      rw [TS.opened] at h ⊢
      cases hf : TS.found S a c with
      | no => rw [hf] at h; exact absurd rfl h
      | bad e => rfl
      | yes r => rw [hf] at h; exact ih _ _ _ h
  unfold TS.opn at h ⊢
  split
  · rfl
  · rename_i h1
    rw [if_neg h1] at h
    split
    · rfl
    · rename_i h2
      rw [if_neg h2] at h
      exact key _ _ _ _ _ h
theorem both_open (h : Both w0 od p om pm D M w) (lo hi : Int) (hl : -9223372036854775808 ≤ lo ∧ lo ≤ 9223372036854775807) (hh : -9223372036854775808 ≤ hi ∧ hi ≤ 9223372036854775807) :
    Calls Try.prog 65 #[.pointer (some ⟨p, 0, none⟩), I lo, I hi] w fun e w' => ∃ tv v, e = .returned (.tuple #[tv, v, I (TS.opn D lo hi).1]) ∧ Below w.heap.size w w' ∧ Shows w' v (TS.opn D lo hi).2.1 ∧
      (((TS.opn D lo hi).1 ≠ 0 ∧ tv = .pointer none) ∨ ((TS.opn D lo hi).1 = 0 ∧ ∃ t, tv = .pointer (some ⟨t, 0, none⟩) ∧ w.heap.size ≤ t ∧ TapeIn w' t p D.safe.length (openTape D lo hi))) := by
  refine (open_any w p od D lo hi h.d hl hh).mono fun e w' hx => ?_
  rcases hx with ⟨h1, h2, h3⟩ | ⟨h1, t, v, h2, h3, h4, h5, h6⟩
  · exact ⟨_, _, h2, h3, by rw [opn_bad_nil h1]; exact shows_nil _, .inl ⟨h1, rfl⟩⟩
  · exact ⟨_, _, by rw [h1]; exact h2, h6, h5.shows, .inr ⟨h1, t, rfl, h3, h4⟩⟩
theorem both_ropen (h : Both w0 od p om pm D M w) (lo hi : Int) (hl : -9223372036854775808 ≤ lo ∧ lo ≤ 9223372036854775807) (hh : -9223372036854775808 ≤ hi ∧ hi ≤ 9223372036854775807) :
    Calls Try.prog 71 #[.pointer (some ⟨pm, 0, none⟩), I lo, I hi] w fun e w' => ∃ uv v, e = .returned (.tuple #[uv, v, I (TS.opn M lo hi).1]) ∧ Below w.heap.size w w' ∧ Shows w' v (TS.opn M lo hi).2.1 ∧
      (((TS.opn M lo hi).1 ≠ 0 ∧ uv = .pointer none) ∨ ((TS.opn M lo hi).1 = 0 ∧ ∃ u, uv = .pointer (some ⟨u, 0, none⟩) ∧ w.heap.size ≤ u ∧ RTapeIn w' u pm M.safe.length (openTape M lo hi))) := by
  refine (ropen_any w pm om M lo hi h.m hl hh).mono fun e w' hx => ?_
  rcases hx with ⟨⟨h1, h2⟩ | ⟨h1, t, v, h2, h3, h4, h5⟩, h6⟩
  · exact ⟨_, _, h2, h6, by rw [opn_bad_nil h1]; exact shows_nil _, .inl ⟨h1, rfl⟩⟩
  · exact ⟨_, _, by rw [h1]; exact h2, h6, h5, .inr ⟨h1, t, rfl, h3, h4⟩⟩
/-- The two tapes, or none. -/
def Tapes (w0 w : World) (od om : Nat → Prop) (p pm n : Nat) (T : TS) (tv uv : Value) : Prop :=
  (tv = .pointer none ∧ uv = .pointer none) ∨ ∃ t u, tv = .pointer (some ⟨t, 0, none⟩) ∧ uv = .pointer (some ⟨u, 0, none⟩) ∧ TapeIn w t p n T ∧ RTapeIn w u pm n T ∧ (¬ od t ∧ ¬ om t) ∧ (¬ od u ∧ ¬ om u) ∧ t ≠ u ∧ w0.heap.size ≤ t ∧ w0.heap.size ≤ u
theorem TapeIn.stay {w w' : World} {od om od' om' : Nat → Prop} {t p n : Nat} {T : TS} (h : TapeIn w t p n T) (ho : ¬ od t ∧ ¬ om t) (hs : Stay od om od' om' w w') : TapeIn w' t p n T ∧ ¬ od' t ∧ ¬ om' t := by
  obtain ⟨h1, h2, h3⟩ := hs t _ ⟨h.ht, ho⟩
  exact ⟨h.keep (h1.trans h.ht.symm), h2, h3⟩
theorem RTapeIn.stay {w w' : World} {od om od' om' : Nat → Prop} {t p n : Nat} {T : TS} (h : RTapeIn w t p n T) (ho : ¬ od t ∧ ¬ om t) (hs : Stay od om od' om' w w') : RTapeIn w' t p n T ∧ ¬ od' t ∧ ¬ om' t := by
  obtain ⟨h1, h2, h3⟩ := hs t _ ⟨h.ht, ho⟩
  exact ⟨h.keep (h1.trans h.ht.symm), h2, h3⟩
theorem Tapes.stay {w0 w w' : World} {od om od' om' : Nat → Prop} {p pm n : Nat} {T : TS} {tv uv : Value} (h : Tapes w0 w od om p pm n T tv uv) (hs : Stay od om od' om' w w') : Tapes w0 w' od' om' p pm n T tv uv := by
  rcases h with h | ⟨t, u, h1, h2, h3, h4, h5, h6, h7⟩
  · exact .inl h
  · obtain ⟨k1, k2⟩ := h3.stay h5 hs
    obtain ⟨k3, k4⟩ := h4.stay h6 hs
    exact .inr ⟨t, u, h1, h2, k1, k3, k2, k4, h7⟩
/-- Behind two openings. -/
theorem Tapes.opened {w0 w1 w2 w3 : World} {od om : Nat → Prop} {p pm : Nat} {D : DS} {tv uv : Value} {lo hi : Int} (hb : Both w0 od p om pm D D w1) (h12 : Below w1.heap.size w1 w2) (h23 : Below w2.heap.size w2 w3)
    (ht : ((TS.opn D lo hi).1 ≠ 0 ∧ tv = .pointer none) ∨ ((TS.opn D lo hi).1 = 0 ∧ ∃ t, tv = .pointer (some ⟨t, 0, none⟩) ∧ w1.heap.size ≤ t ∧ TapeIn w2 t p D.safe.length (openTape D lo hi)))
    (hu : ((TS.opn D lo hi).1 ≠ 0 ∧ uv = .pointer none) ∨ ((TS.opn D lo hi).1 = 0 ∧ ∃ u, uv = .pointer (some ⟨u, 0, none⟩) ∧ w2.heap.size ≤ u ∧ RTapeIn w3 u pm D.safe.length (openTape D lo hi))) :
    Tapes w0 w3 od om p pm D.safe.length (openTape D lo hi) tv uv := by
  rcases ht with ⟨h1, h2⟩ | ⟨h1, t, h2, h3, h4⟩
  · rcases hu with ⟨k1, k2⟩ | ⟨k1, _⟩
    · exact .inl ⟨h2, k2⟩
    · exact absurd k1 h1
  · rcases hu with ⟨k1, _⟩ | ⟨k1, u, k2, k3, k4⟩
    · exact absurd h1 k1
    · have htl := h4.lt
      have hz := h12.size
      have hbz := hb.below.size
      refine .inr ⟨t, u, h2, k2, h4.below h23, k4, ⟨fun h => by have := hb.d.lt t h; omega, fun h => by have := hb.m.lt t h; omega⟩, ⟨fun h => by have := hb.d.lt u h; omega, fun h => by have := hb.m.lt u h; omega⟩, by omega, by omega, by omega⟩
theorem both_append {t : Nat} {T : TS} {v : Value} {r : List UInt8} (h : Both w0 od p om pm D M w) (ht : TapeIn w t p D.safe.length T) (ho : ¬ od t ∧ ¬ om t) (hz : w0.heap.size ≤ t) (hv : Sees w v r) (hN : D.waits.length ≤ 800000000) :
    Calls Try.prog 66 #[.pointer (some ⟨t, 0, none⟩), v] w fun e w' => e = .returned (I (TS.append D T r).1) ∧ ∃ od', Both w0 od' p om pm (TS.append D T r).2.1 M w' ∧ TapeIn w' t p D.safe.length (TS.append D T r).2.2 ∧ (¬ od' t ∧ ¬ om t) ∧ (∀ b o, b ≠ t → Held od om w b o → Held od' om w' b o) ∧ Below w0.heap.size w w' := by
  refine (tappend_any w t p od T D v r ht h.d ho.1 hv hN).mono fun e w' hx => ?_
  obtain ⟨h1, h2, od', h3, h4, h5⟩ := hx
  have htl := ht.lt
  have hlow : ∀ i, i < w0.heap.size → ¬ (od i ∨ i = t) := fun i hi e => by
    rcases e with e | e
    · have := h.fd i e; omega
    · omega
  refine ⟨h1, od', ⟨h3, h.m.mod h5 (fun k hk e => e.elim (fun e => h.dis k e hk) (fun e => ho.2 (e ▸ hk))), fun k hk => ?_, h.fm, fun k hk hk2 => ?_, h.below.trans (h5.below h.below.size hlow)⟩, h2, ⟨fun e => ?_, ho.2⟩, fun b o hb hh => ⟨(h5.block b hh.lt (fun e => e.elim hh.2.1 hb)).trans hh.1, fun e => ?_, hh.2.2⟩, h5.below h.below.size hlow⟩
  · rcases h4 k hk with h' | h'
    · exact h.fd k h'
    · exact Nat.le_trans h.below.size h'
  · rcases h4 k hk with h' | h'
    · exact h.dis k h' hk2
    · have := h.m.lt k hk2; omega
  · rcases h4 t e with h' | h'
    · exact ho.1 h'
    · omega
  · rcases h4 b e with h' | h'
    · exact hh.2.1 h'
    · have := hh.lt; omega
theorem both_rappend {t : Nat} {T : TS} {v : Value} {r : List UInt8} (h : Both w0 od p om pm D M w) (ht : RTapeIn w t pm M.safe.length T) (ho : ¬ od t ∧ ¬ om t) (hz : w0.heap.size ≤ t) (hv : Sees w v r) (hN : M.waits.length ≤ 800000000) :
    Calls Try.prog 73 #[.pointer (some ⟨t, 0, none⟩), v] w fun e w' => e = .returned (I (TS.append M T r).1) ∧ ∃ om', Both w0 od p om' pm D (TS.append M T r).2.1 w' ∧ RTapeIn w' t pm M.safe.length (TS.append M T r).2.2 ∧ (¬ od t ∧ ¬ om' t) ∧ (∀ b o, b ≠ t → Held od om w b o → Held od om' w' b o) ∧ Below w0.heap.size w w' := by
  refine (rtappend_any w t pm om T M v r ht h.m ho.2 hv hN).mono fun e w' hx => ?_
  obtain ⟨h1, h2, om', h3, h4, h5⟩ := hx
  have htl := ht.lt
  have hlow : ∀ i, i < w0.heap.size → ¬ (om i ∨ i = t) := fun i hi e => by
    rcases e with e | e
    · have := h.fm i e; omega
    · omega
  refine ⟨h1, om', ⟨h.d.mod h5 (fun k hk e => e.elim (fun e => h.dis k hk e) (fun e => ho.1 (e ▸ hk))), h3, h.fd, fun k hk => ?_, fun k hk hk2 => ?_, h.below.trans (h5.below h.below.size hlow)⟩, h2, ⟨ho.1, fun e => ?_⟩, fun b o hb hh => ⟨(h5.block b hh.lt (fun e => e.elim hh.2.2 hb)).trans hh.1, hh.2.1, fun e => ?_⟩, h5.below h.below.size hlow⟩
  · rcases h4 k hk with h' | h'
    · exact h.fm k h'
    · exact Nat.le_trans h.below.size h'
  · rcases h4 k hk2 with h' | h'
    · exact h.dis k hk h'
    · have := h.d.lt k hk; omega
  · rcases h4 t e with h' | h'
    · exact ho.2 h'
    · omega
  · rcases h4 b e with h' | h'
    · exact hh.2.2 h'
    · have := hh.lt; omega
end
/-- Between two rounds of TapeDoes. -/
structure TD (w wr : World) (bp p pm n : Nat) (cs : Array Value) (od om : Nat → Prop) (D : DS) (T : TS) (tv uv : Value) (j : Nat) : Prop where
  both : Both w od p om pm D D wr
  held : Held od om wr bp (.cells cs 94 (0, 0))
  tapes : Tapes w wr od om p pm n T tv uv
  len : D.safe.length = n
  waits : D.waits.length ≤ 200 + 500 * j
theorem TD.stay {w wr wx : World} {bp p pm n : Nat} {cs : Array Value} {od om od' om' : Nat → Prop} {D D' : DS} {T : TS} {tv uv : Value} {j j' : Nat} (h : TD w wr bp p pm n cs od om D T tv uv j) (hb : Both w od' p om' pm D' D' wx) (hs : Stay od om od' om' wr wx) (hl : D'.safe.length = D.safe.length) (hw : D'.waits.length ≤ 200 + 500 * j') : TD w wx bp p pm n cs od' om' D' T tv uv j' :=
  ⟨hb, hs _ _ h.held, h.tapes.stay hs, hl.trans h.len, hw⟩
theorem TD.on {w wr wx : World} {bp p pm n : Nat} {cs : Array Value} {od om : Nat → Prop} {D : DS} {T : TS} {tv uv : Value} {j : Nat} (h : TD w wr bp p pm n cs od om D T tv uv j) (hb : Below wr.heap.size wr wx) : TD w wx bp p pm n cs od om D T tv uv j :=
  h.stay (h.both.on hb) (Stay.below hb) rfl h.waits
theorem TD.same {w wr : World} {bp p pm n : Nat} {cs : Array Value} {od om : Nat → Prop} {D : DS} {T : TS} {tv uv : Value} {j : Nat} (h : TD w wr bp p pm n cs od om D T tv uv j) : Calls Try.prog 72 #[.pointer (some ⟨p, 0, none⟩), .pointer (some ⟨pm, 0, none⟩)] wr fun e w' => e = .returned (.bool true) ∧ TD w w' bp p pm n cs od om D T tv uv j ∧ Below wr.heap.size wr w' :=
  (tsame_any wr w p pm od om D h.both).mono fun e w' ⟨h1, h2⟩ => ⟨h1, h.on h2, h2⟩
/-- Opened anew. -/
theorem TD.opened {w w1 w2 w3 : World} {bp p pm n : Nat} {cs : Array Value} {od om : Nat → Prop} {D : DS} {T : TS} {tv uv tv' uv' : Value} {j : Nat} {lo hi : Int} (h : TD w w1 bp p pm n cs od om D T tv uv j) (h12 : Below w1.heap.size w1 w2) (h23 : Below w2.heap.size w2 w3)
    (ht : ((TS.opn D lo hi).1 ≠ 0 ∧ tv' = .pointer none) ∨ ((TS.opn D lo hi).1 = 0 ∧ ∃ t, tv' = .pointer (some ⟨t, 0, none⟩) ∧ w1.heap.size ≤ t ∧ TapeIn w2 t p D.safe.length (openTape D lo hi)))
    (hu : ((TS.opn D lo hi).1 ≠ 0 ∧ uv' = .pointer none) ∨ ((TS.opn D lo hi).1 = 0 ∧ ∃ u, uv' = .pointer (some ⟨u, 0, none⟩) ∧ w2.heap.size ≤ u ∧ RTapeIn w3 u pm D.safe.length (openTape D lo hi))) :
    TD w w3 bp p pm n cs od om D (openTape D lo hi) tv' uv' j := by
  have hb : Below w1.heap.size w1 w3 := h12.trans (h23.mono h12.size)
  exact ⟨h.both.on hb, h.held.on hb, by rw [← h.len]; exact Tapes.opened h.both h12 h23 ht hu, h.len, h.waits⟩
end Go.Proofs.Ytoaeapnkefjpaaa

namespace Go.Proofs.Ytoaeapnkefjpaaa
open Go.RowKit
set_option linter.unusedVariables false
set_option linter.unusedSimpArgs false

/-- What a pair is, over its drum: which half counts, its tape, what a save met. -/
structure PS where
  half : Nat
  T : TS
  sick : Int
namespace PS
/-- How many pages a half has. -/
def hp (n : Nat) : Nat := (n - 1) / 2
/-- How many pages a snapshot of m bytes takes. -/
def takes (m : Nat) : Nat := (m + 267) / 256
def size4 (n : Nat) : List UInt8 := [UInt8.ofNat (n / 16777216 % 256), UInt8.ofNat (n / 65536 % 256), UInt8.ofNat (n / 256 % 256), UInt8.ofNat (n % 256)]
theorem size4_len (n : Nat) : (size4 n).length = 4 := rfl
/-- A snapshot's bytes, and what stands ahead of them. -/
def framed (b : List UInt8) : List UInt8 := size4 b.length ++ Sum.be8 (Sum.of b.length b) ++ b
theorem framed_len (b : List UInt8) : (framed b).length = 12 + b.length := by
  unfold framed; rw [List.length_append, List.length_append, Sum.be8_length, size4_len]
/-- The number that stands ahead. -/
def num4 (S : List UInt8) : Nat := (Sum.num (S.take 4)).toNat
/-- What a half's bytes hold: an error, or the snapshot and how many pages it takes. -/
def load (S : List UInt8) (hp : Nat) : Int × List UInt8 × Nat :=
  if S.take 12 = List.replicate 12 0 then (0, [], 1)
  else if hp ≤ takes (num4 S) then (11, [], 0)
  else if framed ((S.drop 12).take (num4 S)) = S.take (12 + num4 S) then (0, (S.drop 12).take (num4 S), takes (num4 S)) else (12, [], 0)
theorem num4_lt (S : List UInt8) : num4 S < 4294967296 := by
  unfold num4
  have h := Sum.num_range (S.take 4)
  have h3 : (S.take 4).length ≤ 4 := List.length_take_le _ _
  have h4 : (256 : Int) ^ (S.take 4).length ≤ 256 ^ 4 := by
    generalize (S.take 4).length = k at *
    have : k = 0 ∨ k = 1 ∨ k = 2 ∨ k = 3 ∨ k = 4 := by omega
    rcases this with rfl | rfl | rfl | rfl | rfl <;> decide
  have h5 : (256 : Int) ^ 4 = 4294967296 := by decide
  rw [h5] at h4
  omega
/-- The bytes of a half. -/
def halfOf (D : DS) (h : Nat) : List UInt8 := TS.stretch D (1 + h * hp D.safe.length) (hp D.safe.length)
/-- The byte that tells the half. -/
def root (D : DS) : Nat := ((DS.look D.safe D.waits 0).getD 0 0).toNat
/-- What an opening comes to: an error, or the snapshot, the records, the pair. -/
def open_ (D : DS) : Int × List UInt8 × List (List UInt8) × PS :=
  let no (e : Int) : Int × List UInt8 × List (List UInt8) × PS := (e, [], [], ⟨0, ⟨0, 0, 0, 0, 0⟩, 0⟩)
  if D.safe.length < 5 then no 1 else if D.off then no 20 else if 1 < root D then no 11 else
  let at_ := 1 + root D * hp D.safe.length
  let x := load (halfOf D (root D)) (hp D.safe.length)
  if x.1 ≠ 0 then no x.1 else
  let y := TS.opn D (at_ + x.2.2 : Nat) (at_ + hp D.safe.length : Nat)
  if y.1 ≠ 0 then no y.1 else (0, x.2.1, y.2.1, ⟨root D, ⟨at_ + x.2.2, at_ + hp D.safe.length, y.2.2.1, y.2.2.2, 0⟩, 0⟩)
/-- The pages of a snapshot. -/
def paged (b : List UInt8) : List (List UInt8) := TS.pagesOf (framed b ++ List.replicate (takes b.length * 256 - 12 - b.length) 0) (takes b.length)
/-- A page whose first byte is this. -/
def rootPage (h : Nat) : List UInt8 := UInt8.ofNat h :: List.replicate 255 0
/-- A save's raw work. -/
def lay (D : DS) (at_ h : Nat) (b : List UInt8) : Int × DS :=
  let x1 := TS.wr D at_ (paged b)
  if x1.1 ≠ 0 then x1 else
  let x2 := x1.2.write (at_ + takes b.length : Nat) (List.replicate 256 0)
  if x2.1 ≠ 0 then x2 else
  let x3 := x2.2.Flush
  if x3.1 ≠ 0 then x3 else
  let x4 := x3.2.write 0 (rootPage h)
  if x4.1 ≠ 0 then x4 else x4.2.Flush
def save (D : DS) (P : PS) (b : List UInt8) : Int × DS × PS :=
  if hp D.safe.length ≤ takes b.length then (3, D, P) else if P.sick ≠ 0 then (P.sick, D, P) else
  let at_ := 1 + (1 - P.half) * hp D.safe.length
  let x := lay D at_ (1 - P.half) b
  if x.1 ≠ 0 then (x.1, x.2, { P with sick := x.1 }) else
  let y := TS.opn x.2 (at_ + takes b.length : Nat) (at_ + hp D.safe.length : Nat)
  if y.1 ≠ 0 then (y.1, x.2, { P with sick := y.1 }) else
  (0, x.2, ⟨1 - P.half, ⟨at_ + takes b.length, at_ + hp D.safe.length, y.2.2.1, y.2.2.2, 0⟩, 0⟩)
def append (D : DS) (P : PS) (r : List UInt8) : Int × DS × PS :=
  if P.sick ≠ 0 then (P.sick, D, P) else
  let x := TS.append D P.T r
  (x.1, x.2.1, { P with T := x.2.2 })
end PS
end Go.Proofs.Ytoaeapnkefjpaaa

namespace Go.Proofs.Ytoaeapnkefjpaaa
open Go.RowKit
set_option linter.unusedVariables false
set_option linter.unusedSimpArgs false

/-- What the pair gives up with. -/
def gaveUp5 (e : Int) : List PanicEntry := [{ v := .iface 137 (.agg #[I e]), recovered := false }]
theorem fail_ok (w : World) : Calls Try.prog 80 #[I 0] w fun r w' => r = .returned (.tuple #[]) ∧ w = w' := by
  go_enter Try.func80, Try.ntmps80
  go_wp2
  ((try simp only [Exit.inBlock, Exit.then]); first | refine bodyPost_end (results_none rfl _ _ _) rfl ?_ | refine bodyPost_ret (results_none rfl _ _ _) rfl ?_)
  exact ⟨rfl, rfl⟩
theorem fail_no (e : Int) (he : (e != 0) = true) (w : World) : Calls Try.prog 80 #[I e] w fun r w' => r = .panicked (gaveUp5 e) ∧ w = w' := by
  go_enter Try.func80, Try.ntmps80
  go_wp2
  exact ⟨rfl, rfl, rfl⟩
theorem Drum.pages_bd {w : World} {p : Nat} {own : Nat → Prop} {D : DS} (hd : DrumAt w p own D) : D.safe.length ≤ 4096 := hd.ok.n2
set_option maxRecDepth 100000 in
theorem ppages_any (w : World) (p : Nat) (own : Nat → Prop) (D : DS) (hd : DrumAt w p own D) (h5 : 1 ≤ D.safe.length) :
    Calls Try.prog 83 #[.pointer (some ⟨p, 0, none⟩)] w fun e w' => e = .returned (I (PS.hp D.safe.length)) ∧ w = w' := by
  have hn := hd.ok.n2
  have hp := pages_any w p own D hd
  generalize D.safe.length = n at *
  have HP := hid hp
  clear hp hd
  have h1 : IntKind.i64.wrap ((n : Int) - 1) = (n : Int) - 1 := IntWalk.i64_in _ (by omega)
  have h2 : IntKind.i64.wrap (Int.tdiv ((n : Int) - 1) 2) = ((PS.hp n : Nat) : Int) := by
    rw [Int.tdiv_eq_ediv_of_nonneg (by omega), IntWalk.i64_in _ (by omega)]
    unfold PS.hp; omega
  go_enter Try.func83, Try.ntmps83
  go_wp2_with (go_at_call 60; refine HP.out.mono ?_; rintro e w1 ⟨rfl, rfl⟩)
  go_ret
  exact ⟨by first | exact ret_int h2 | (unfold PS.hp; exact ret_int (by omega)), rfl⟩
set_option maxRecDepth 100000 in
theorem pfirst_any (w : World) (p : Nat) (own : Nat → Prop) (D : DS) (hd : DrumAt w p own D) (h5 : 1 ≤ D.safe.length) (h : Nat) (hh : h ≤ 1) :
    Calls Try.prog 82 #[.pointer (some ⟨p, 0, none⟩), I h] w fun e w' => e = .returned (I ((1 + h * PS.hp D.safe.length : Nat) : Int)) ∧ w = w' := by
  have hn := hd.ok.n2
  have hp := ppages_any w p own D hd h5
  have hb : PS.hp D.safe.length ≤ 4096 := by unfold PS.hp; omega
  generalize PS.hp D.safe.length = q at *
  have HP := hid hp
  clear hp hd hn h5
  have hm : h * q ≤ 4096 := Nat.le_trans (Nat.mul_le_mul_right q hh) (by omega)
  have e1 : (h : Int) * (q : Int) = ((h * q : Nat) : Int) := by rw [Int.natCast_mul]
  generalize h * q = m at *
  have h1 : IntKind.i64.wrap ((h : Int) * (q : Int)) = (m : Int) := by rw [e1]; exact IntWalk.i64_in _ (by omega)
  have h2 : IntKind.i64.wrap (1 + (m : Int)) = ((1 + m : Nat) : Int) := by rw [IntWalk.i64_in _ (by omega)]; omega
  have H2 := hid h2
  clear e1
  go_enter Try.func82, Try.ntmps82
  go_wp2_with (go_at_call 83; refine HP.out.mono ?_; rintro e w1 ⟨rfl, rfl⟩)
  go_ret
  exact ⟨by first | rfl | exact ret_int (by omega), rfl⟩
set_option maxRecDepth 100000 in
theorem takes_any (w : World) (m : Nat) (hm : m ≤ 4611686018427387903) : Calls Try.prog 87 #[I m] w fun e w' => e = .returned (I (PS.takes m)) ∧ w = w' := by
  go_enter Try.func87, Try.ntmps87
  go_wp2
  go_ret
  refine ⟨ret_int ?_, rfl⟩
  unfold PS.takes
  omega
end Go.Proofs.Ytoaeapnkefjpaaa

namespace Go.Proofs.Ytoaeapnkefjpaaa
open Go.RowKit
set_option linter.unusedVariables false
set_option linter.unusedSimpArgs false

set_option maxRecDepth 100000 in
set_option maxHeartbeats 800000 in
theorem pnumber_any (w : World) (v : Value) (l : List UInt8) (hv : Sees w v l) (hl : l.length ≤ 6) : Calls Try.prog 105 #[v] w fun e w' => e = .returned (I (Sum.num l)) ∧ w = w' := by
  obtain ⟨ao, cap, rfl, h1, h2, h3⟩ := hv
  have H3 := hid h3
  clear h3
  go_enter Try.func105, Try.ntmps105
  go_wp2
  go_loop [3, 8] (fun x i => ∃ k : Nat, k ≤ l.length ∧ i = .int .i64 k ∧ x = .int .i64 (Sum.num (l.take k))) (fun _ i => l.length - (intOf i).toNat)
  case atStart => exact ⟨0, Nat.zero_le _, rfl, rfl⟩
  case round =>
    obtain ⟨k, hk, rfl, rfl⟩ := hrel
    by_cases hlt : k < l.length
    · obtain ⟨g, off, rfl, hc⟩ := H3.out (by omega)
      have hck := hc k _ (List.getElem?_eq_getElem hlt)
      have bb := byte_bd l[k]
      have nb := num6 l k hl
      have hor := or8i (Sum.num (l.take k)) l[k] nb.1 (by omega)
      rw [← Sum.num_snoc, ← List.take_succ_eq_append_getElem hlt] at hor
      generalize Sum.num (l.take k) = X at *
      have HOR := hid hor
      clear hor hc
      go_wp2
      go_round
      case rel => exact ⟨k + 1, by omega, by go_num, by rw [HOR.out]⟩
      case measure => simp [intOf]; omega
    · have e : k = l.length := by omega
      go_wp2
      go_ret
      subst e
      first | exact ⟨ret_int rfl, rfl⟩ | exact ⟨ret_int (by rw [List.take_length]), rfl⟩
set_option maxRecDepth 100000 in
set_option maxHeartbeats 800000 in
theorem pframed_any (w : World) (v : Value) (b : List UInt8) (hv : Sees w v b) (hr : b.length ≤ 1073741824) : Calls Try.prog 89 #[v] w (Fresh w (PS.framed b)) := by
  obtain ⟨ao, cap, rfl, -⟩ := hv.form0
  have HV := hid hv
  clear hv
  go_enter Try.func89, Try.ntmps89
  go_wp2_with fail
  have hcells : (#[Value.int .u8 ((b.length : Int) / 16777216), Value.int .u8 ((b.length : Int) / 65536 % 256), Value.int .u8 ((b.length : Int) / 256 % 256), Value.int .u8 ((b.length : Int) % 256)] : Array Value) = ((PS.size4 b.length).map B).toArray := by
    have e0 : ((UInt8.ofNat (b.length / 16777216 % 256)).toNat : Int) = (b.length : Int) / 16777216 := by rw [UInt8.toNat_ofNat']; omega
    have e1 : ((UInt8.ofNat (b.length / 65536 % 256)).toNat : Int) = (b.length : Int) / 65536 % 256 := by rw [UInt8.toNat_ofNat']; omega
    have e2 : ((UInt8.ofNat (b.length / 256 % 256)).toNat : Int) = (b.length : Int) / 256 % 256 := by rw [UInt8.toNat_ofNat']; omega
    have e3 : ((UInt8.ofNat (b.length % 256)).toNat : Int) = (b.length : Int) % 256 := by rw [UInt8.toNat_ofNat']; omega
    unfold PS.size4 B
    rw [List.map_cons, List.map_cons, List.map_cons, List.map_cons, List.map_nil, e0, e1, e2, e3]
  rw [hcells]
  have hS := Sees.lit w (PS.size4 b.length) (0, 0) (by show 4 ≤ maxLen; unfold maxLen; omega)
  have hb : Below w.heap.size w (w.alloc (.cells ((PS.size4 b.length).map B).toArray 5)) := (Below.refl _ _).alloc (Nat.le_refl _) _
  have HVa := hid (HV.out.below hb)
  have HS : Hid (Sees (w.alloc (.cells ((PS.size4 b.length).map B).toArray 5)) (.slice (some ⟨w.heap.size, 0, none⟩) 4 4) (PS.size4 b.length)) := hid hS
  have HB := hid hb
  have hsz : (w.alloc (.cells ((PS.size4 b.length).map B).toArray 5)).heap.size = w.heap.size + 1 := by simp
  generalize w.alloc (.cells ((PS.size4 b.length).map B).toArray 5) = wa at *
  clear hcells hS hb
  have r2 : 0 ≤ Sum.of b.length b ∧ Sum.of b.length b < 18446744073709551616 := by
    have := Sum.add_range (Sum.start b.length) b
    unfold Sum.of; omega
  refine (of_any b.length (by omega) (by omega) _ b _ HVa.out).mono ?_
  rintro e w1 ⟨rfl, rfl⟩
  go_wp2_with (first | (go_at_call 30; refine (put_any _ (PS.size4 b.length) _ r2.1 r2.2 _ HS.out (by show 4 ≤ 1099511627776; omega)).mono ?_; rintro e w3 ⟨v3, rfl, ho, hb3⟩; have ho12 := own_len ho (m := 12) (by rw [List.length_append, Sum.be8_length]; rfl) rfl; have hs3 := hb3.size; have HS3 := hid (HVa.out.below hb3); have HO := hid ho12; have HB3 := hid hb3; clear ho hb3 ho12) | (at_builtin; refine wpList_app rfl (.tmp 23) (.tmp 24) 23 rfl wa.heap.size 5 (.int .u8 0) 1 1 Try.underlying23 info5 rfl (by decide) 12 ((PS.size4 b.length ++ Sum.be8 (Sum.of b.length b)).map B) b.length (b.map B) HO.out HS3.out.src ?h63 ?hb hs3 ?_))
  case h63 => unfold maxLen; omega
  case hb => omega
  intro v4 w4 hown hgrow hat
  have hbx : Below wa.heap.size wa w4 := HB3.out.grown hgrow hs3 (fun k hk => (own_lt HO.out k hk).1)
  have HO4 := hid hown
  have HB4 := hid hbx
  clear hown hgrow hat hbx
  go_wp2
  go_ret
  refine ⟨v4, rfl, own_anew (own_len HO4.out (by rw [PS.framed_len]) (by unfold PS.framed; simp)) (fun k hk => by have := (own_lt HO4.out k hk).1; omega), HB.out.trans (HB4.out.mono HB.out.size)⟩
/-- What is answered, or given up with, where an error is. -/
def endOr5 (e : Int) (v : Value) : Ending := if e = 0 then .returned v else .panicked (gaveUp5 e)
set_option maxRecDepth 100000 in
theorem pread_any (w : World) (p : Nat) (own : Nat → Prop) (D : DS) (a : Nat) (hd : DrumAt w p own D) (ha : a < D.safe.length) :
    Calls Try.prog 79 #[.pointer (some ⟨p, 0, none⟩), I a] w fun e w' => (D.off = true ∧ e = .panicked (gaveUp5 20) ∧ Below w.heap.size w w') ∨ (D.off = false ∧ Fresh w (DS.look D.safe D.waits a) e w') := by
  have hn := hd.ok.n2
  have hr := read_any w p own D a hd (by omega)
  unfold DS.read at hr
  rw [if_neg (by omega)] at hr
  have HD := hid hd
  clear hd
  cases ho : D.off with
  | true =>
    rw [ho, if_pos rfl] at hr
    have HR := hid hr
    clear hr ho HD
    go_enter Try.func79, Try.ntmps79
    go_wp2_with (first | (go_at_call 58; refine HR.out.mono ?_; rintro e w1 ⟨v, rfl, ho, hb⟩; have HO := hid ho; have HB := hid hb; clear ho hb) | (go_at_call 80; refine (fail_no 20 rfl _).mono ?_; rintro e w2 ⟨rfl, rfl⟩))
    exact ⟨rfl, .inl ⟨trivial, rfl, HB.out⟩⟩
  | false =>
    rw [ho, if_neg (by simp)] at hr
    have HR := hid hr
    clear hr ho HD
    go_enter Try.func79, Try.ntmps79
    go_wp2_with (first | (go_at_call 58; refine HR.out.mono ?_; rintro e w1 ⟨v, rfl, ho, hb⟩; have HO := hid ho; have HB := hid hb; clear ho hb) | (go_at_call 80; refine (fail_ok _).mono ?_; rintro e w2 ⟨rfl, rfl⟩))
    go_ret
    exact .inr ⟨trivial, _, rfl, HO.out, HB.out⟩
/-! ### what isn't nought -/
theorem isnt_nought (w : World) (c : UInt8) : Calls Try.prog 104 #[B c] w fun e w' => e = .returned (.bool ((c.toNat : Int) != 0)) ∧ w = w' := by
  go_enter Try.func104, Try.ntmps104
  go_wp2
  go_ret
  exact ⟨rfl, rfl⟩
set_option maxRecDepth 100000 in
set_option maxHeartbeats 800000 in
theorem pindex_any (w : World) (v : Value) (l : List UInt8) (hv : Sees w v l) (hl : l.length ≤ 1000) : Calls Try.prog 113 #[v, .func (.func 104) #[] #[]] w fun e w' => w = w' ∧ ((∃ x : Nat, x ≤ 1000 ∧ e = .returned (I x) ∧ ∃ c ∈ l, c ≠ 0) ∨ (e = .returned (I (-1)) ∧ ∀ c ∈ l, c = 0)) := by
  obtain ⟨ao, cap, rfl, h1, h2, h3⟩ := hv
  have H3 := hid h3
  clear h3
  go_enter Try.func113, Try.ntmps113
  go_wp2
  go_loop [8] (fun i => ∃ k : Nat, k ≤ l.length ∧ i = .int .i64 k ∧ Hid (∀ c ∈ l.take k, c = 0)) (fun i => l.length - (intOf i).toNat)
  case atStart => exact ⟨0, Nat.zero_le _, rfl, hid (by simp)⟩
  case round =>
    obtain ⟨k, hk, rfl, HK⟩ := hrel
    by_cases hlt : k < l.length
    · obtain ⟨g, off, rfl, hc⟩ := H3.out (by omega)
      have hck := hc k _ (List.getElem?_eq_getElem hlt)
      have hin : l[k] ∈ l := List.getElem_mem hlt
      have htk : l.take (k + 1) = l.take k ++ [l[k]] := List.take_succ_eq_append_getElem hlt
      generalize l[k] = c at *
      have HIN := hid hin
      have HTK := hid htk
      clear hc hin htk
      by_cases hz : c = 0
      · have hb : ((c.toNat : Int) != 0) = false := by rw [hz]; rfl
        have HZ := hid hz
        clear hz
        go_wp2_with (go_at_call 104; refine (isnt_nought _ c).mono ?_; rintro e w1 ⟨rfl, rfl⟩)
        go_round
        case rel => exact ⟨k + 1, by omega, by go_num, hid (fun x hx => by rw [HTK.out] at hx; rcases List.mem_append.1 hx with h | h; exact HK.out x h; rw [List.mem_singleton.1 h]; exact HZ.out)⟩
        case measure => simp [intOf]; omega
      · have hb : ((c.toNat : Int) != 0) = true := by
          have : c.toNat ≠ 0 := fun e => hz (UInt8.toNat_inj.1 e)
          simp; omega
        go_wp2_with (go_at_call 104; refine (isnt_nought _ c).mono ?_; rintro e w1 ⟨rfl, rfl⟩)
        go_ret
        exact ⟨rfl, .inl ⟨k, by omega, rfl, c, HIN.out, hz⟩⟩
    · have e : k = l.length := by omega
      go_wp2
      go_ret
      subst e
      exact ⟨rfl, .inr ⟨rfl, by have := HK.out; rwa [List.take_length] at this⟩⟩
theorem zeros_iff (l : List UInt8) : (∀ c ∈ l, c = 0) ↔ l = List.replicate l.length 0 := by
  rw [List.eq_replicate_iff]
  simp
set_option maxRecDepth 100000 in
theorem pcontains_any (w : World) (v : Value) (l : List UInt8) (hv : Sees w v l) (hl : l.length ≤ 1000) : Calls Try.prog 103 #[v, .func (.func 104) #[] #[]] w fun e w' => e = .returned (.bool (decide (l ≠ List.replicate l.length 0))) ∧ w = w' := by
  have hi := pindex_any w v l hv hl
  by_cases hz : ∀ c ∈ l, c = 0
  · have hi2 : Calls Try.prog 113 #[v, .func (.func 104) #[] #[]] w fun e w' => e = .returned (I (-1)) ∧ w = w' := hi.mono fun e w' h => ⟨by
      rcases h.2 with ⟨x, -, -, c, hc, hn⟩ | ⟨h2, -⟩
      · exact absurd (hz c hc) hn
      · exact h2, h.1⟩
    have hn : decide (l ≠ List.replicate l.length 0) = false := decide_eq_false (fun h => h ((zeros_iff l).1 hz))
    rw [hn]
    have HI := hid hi2
    clear hi hi2 hv hn hz
    go_enter Try.func103, Try.ntmps103
    go_wp2_with (go_at_call 113; refine HI.out.mono ?_; rintro e w1 ⟨rfl, rfl⟩)
    go_ret
    exact ⟨rfl, rfl⟩
  · have hi2 : Calls Try.prog 113 #[v, .func (.func 104) #[] #[]] w fun e w' => w = w' ∧ ∃ x : Nat, x ≤ 1000 ∧ e = .returned (I x) := hi.mono fun e w' h => ⟨h.1, by
      rcases h.2 with ⟨x, h1, h2, -⟩ | ⟨-, h2⟩
      · exact ⟨x, h1, h2⟩
      · exact absurd h2 hz⟩
    have hn : decide (l ≠ List.replicate l.length 0) = true := decide_eq_true (fun h => hz ((zeros_iff l).2 h))
    rw [hn]
    have HI := hid hi2
    clear hi hi2 hv hn hz
    go_enter Try.func103, Try.ntmps103
    go_wp2_with (go_at_call 113; refine HI.out.mono ?_; rintro e w1 ⟨rfl, x, hx, rfl⟩)
    go_ret
    first | exact ⟨rfl, rfl⟩ | exact ⟨by simp, rfl⟩
end Go.Proofs.Ytoaeapnkefjpaaa

namespace Go.Proofs.Ytoaeapnkefjpaaa
open Go.RowKit
set_option linter.unusedVariables false
set_option linter.unusedSimpArgs false

theorem catch_idle5 (p1 : Addr) (w : World) :
    CallsD Try.prog 102 #[.pointer (some p1)] .returning w fun e u' w' => e = .returned (.tuple #[]) ∧ u' = .returning ∧ w' = w := by
  refine callsD_of_wpS Try.func102 rfl fun c₀ cs hu => ?_
  apply wpS_seq
  apply wpS_region
  simp [wpOpsS, go_sem, recoverD, hu, Try.ntmps102, Exit.thenS]
  refine wpS_of_wp ?_
  go_wp2
  cases c₀
  simp_all [bodyPostS, results, Try.results102]
theorem gave_is5 (c : Int) (w : World) : (Instr.typeAssert (.iface 137 (.agg #[I c])) 20 137 true).run Try.prog w = .ok (.tuple #[.agg #[I c], .bool true]) w := by kernel_rfl
set_option maxRecDepth 100000 in
set_option maxHeartbeats 800000 in
theorem catch_gave5 (b1 : Nat) (c1 : Array Value) (t1 : TypeId) (c : Int) (w : World) (h1 : w.heap[b1]? = some (.cells c1 t1 (0, 0)))
    (s1 : c1.size = 1) :
    CallsD Try.prog 102 #[.pointer (some ⟨b1, 0, none⟩)] (.panicking (gaveUp5 c)) w fun e u' w' =>
      e = .returned (.tuple #[]) ∧ u' = .panicking [{ v := .iface 137 (.agg #[I c]), recovered := true }] ∧
      w'.heap[b1]? = some (.cells #[I c] t1 (0, 0)) ∧ Mod (fun k => k = b1) w w' := by
  have hta := gave_is5 c
  refine callsD_of_wpS Try.func102 rfl fun c₀ cs hu => ?_
  apply wpS_seq
  apply wpS_region
  unfold gaveUp5 at hu
  simp [wpOpsS, go_sem, recoverD, hu, Try.ntmps102, Exit.thenS]
  refine wpS_of_wp ?_
  simp only [Array.replicate_succ, Array.replicate_zero, List.push_toArray, List.append_toArray, List.nil_append, List.cons_append, List.setIfInBounds_toArray, List.set_cons_zero, List.set_cons_succ]
  obtain ⟨v1, hv1⟩ := cell_one h1 s1
  have l1 := (Array.getElem?_eq_some_iff.1 h1).1
  have hf1 := frozen_row h1 0
  have H1 := hid h1
  clear h1
  go_wp2
  have r1 : ((w.setCell ⟨b1, 0, none⟩ (I c)).alloc (.cells #[I c] 137)).heap[b1]? = some (.cells #[I c] t1 (0, 0)) := (Below.heap_alloc _ _ _ (by simpa using l1)).trans (set_one H1.out s1 (I c))
  have hmm : Mod (fun k => k = b1) w ((w.setCell ⟨b1, 0, none⟩ (I c)).alloc (.cells #[I c] 137)) := (Mod.set (own := fun k => k = b1) rfl).trans (Mod.alloc _)
  generalize (w.setCell ⟨b1, 0, none⟩ (I c)).alloc (.cells #[I c] 137) = w9 at *
  clear hv1 hf1 hta l1
  refine (show bodyPostS _ _ _ _ _ _ _ _ _ from ?_)
  simp [bodyPostS, results, Try.results102, r1, hmm]
theorem door_ret5 {b1 : Nat} {tmps : Array Value} {w : World} {R : Ending → World → Prop} {u1 : Value} (h6 : tmps[2]?.getD undef = .pointer (some ⟨b1, 0, none⟩))
    (c1 : w.cell? ⟨b1, 0, none⟩ = some u1) (h : R (.returned u1) w) :
    bodyPostD Try.prog Try.f77 R Exit.ret { tmps := tmps, defers := [{ target := .fn (.func 102) #[.pointer (some ⟨b1, 0, none⟩)], args := #[] }] } w := by
  refine leaves_cons (f := 102) (args := #[.pointer (some ⟨b1, 0, none⟩)]) (by simp) (by simp [go_sem]) ?_
  refine (catch_idle5 _ _).mono ?_
  rintro e u' w'' ⟨rfl, rfl, rfl⟩
  simp [Leaves, settle, results, Try.results77, go_sem, h6, c1, h]
theorem door_gave5 {b1 : Nat} {tmps : Array Value} {w : World} {R : Ending → World → Prop} {c : Int} {v1 : Array Value} (h6 : tmps[2]?.getD undef = .pointer (some ⟨b1, 0, none⟩))
    (g1 : w.heap[b1]? = some (.cells v1 46 (0, 0))) (s1 : v1.size = 1)
    (h : ∀ w', Mod (fun k => k = b1) w w' → R (.returned (I c)) w') :
    bodyPostD Try.prog Try.f77 R (Exit.panic (gaveUp5 c)) { tmps := tmps, defers := [{ target := .fn (.func 102) #[.pointer (some ⟨b1, 0, none⟩)], args := #[] }] } w := by
  refine leaves_cons (f := 102) (args := #[.pointer (some ⟨b1, 0, none⟩)]) (by simp) (by simp [go_sem]) ?_
  refine (catch_gave5 b1 v1 46 c w g1 s1).mono ?_
  rintro e u' w'' ⟨rfl, rfl, r1, hm⟩
  have c1 : w''.cell? ⟨b1, 0, none⟩ = some (I c) := by rw [cell_of_row w'' b1 _ _ _ _ r1]; rfl
  have hh := h w'' hm
  simp [Leaves, settle, results, Try.results77, go_sem, h6, c1, hh]
/-- Through the door: what the function that is handed in gives up with becomes the answer. -/
theorem guard_any (w : World) (fid : FuncId) (lb : Array Value) (G : Int → World → Prop)
    (hc : ∀ W, (callFunc fid lb).run Try.prog W = .ok (.enter fid lb) W)
    (h : ∀ w1, Below w.heap.size w w1 → w1.heap.size = w.heap.size + 1 → Calls Try.prog fid lb w1 fun e w' => ∃ c, e = endOr5 c (.tuple #[]) ∧ G c w' ∧ w'.heap[w.heap.size]? = w1.heap[w.heap.size]?) :
    Calls Try.prog 77 #[.func (.func fid) #[] lb] w fun e w' => ∃ c w1, e = .returned (I c) ∧ G c w1 ∧ w1.heap.size ≤ w'.heap.size ∧ Mod (fun k => k = w.heap.size) w1 w' := by
  have hmf := closes
  have hx := h (w.alloc (.cells #[I 0] 46)) ((Below.refl _ _).alloc (Nat.le_refl _) _) (by simp)
  have hg := heap_alloc_new w (.cells #[I 0] 46)
  rw [hg] at hx
  have HX := hid hx
  clear h hx hg
  go_enter_defers Try.func77, Try.ntmps77
  go_wp2
  refine HX.out.mono ?_
  rintro e w1 ⟨c, rfl, hG, hb⟩
  unfold endOr5
  by_cases h0 : c = 0
  · subst h0
    rw [if_pos rfl]
    have hv : w1.cell? ⟨w.heap.size, 0, none⟩ = some (I 0) := by rw [cell_of_row w1 _ _ _ _ _ hb]; rfl
    have hf := frozen_row hb 0
    have HG := hid hG
    have HB := hid hb
    clear hG hb
    go_wp2
    refine door_ret5 rfl (u1 := I 0) ?_ ⟨0, w1, rfl, HG.out, ?_, ?_⟩
    · rw [cell_of_row _ _ _ _ _ _ (set_one HB.out rfl (I 0))]; rfl
    · simp
    · exact Mod.set rfl
  · rw [if_neg h0]
    refine door_gave5 rfl hb rfl (fun w' hm => ⟨c, w1, rfl, hG, hm.size, hm⟩)
end Go.Proofs.Ytoaeapnkefjpaaa

namespace Go.Proofs.Ytoaeapnkefjpaaa
open Go.RowKit
set_option linter.unusedVariables false
set_option linter.unusedSimpArgs false

theorem PS.snoc (D : DS) (lo j : Nat) : TS.stretch D lo (j + 1) = TS.stretch D lo j ++ DS.look D.safe D.waits (lo + j) := by
  unfold TS.stretch
  rw [List.range_succ, List.flatMap_append]
  simp
theorem PS.cut {D : DS} (h : D.Ok) {lo q : Nat} (hn : lo + q ≤ D.safe.length) {j : Nat} : ∀ (d : Nat), q = j + d → (TS.stretch D lo q).take (j * 256) = TS.stretch D lo j
  | 0, e => by
    have := TS.stretch_len h (lo := lo) (n := q) hn
    subst e
    rw [List.take_of_length_le (by rw [this]; simp)]
  | d + 1, e => by
    subst e
    have h1 := PS.cut h (lo := lo) (q := j + d) (j := j) (by omega) d rfl
    have hl := TS.stretch_len h (lo := lo) (n := j + d) (by omega)
    rw [show j + (d + 1) = (j + d) + 1 by omega, PS.snoc, List.take_append_of_le_length (by rw [hl]; omega), h1]
theorem own_pre {w : World} {base : Nat} {e : TypeId} {n g cap m : Nat} {xs : List Value} (h : w.ownsRow base e 1 (.slice (some ⟨g, 0, none⟩) n cap) n xs) (hm : m ≤ n) : w.ownsRow base e 1 (.slice (some ⟨g, 0, none⟩) m cap) m (xs.take m) := by
  obtain ⟨h1, h2⟩ := h
  refine ⟨by rw [List.length_take]; omega, ?_⟩
  rcases h2 with ⟨h0, _⟩ | ⟨g', cap', cur, hv, hb, hg, hnc, hcm, hcs, ht⟩
  · cases h0
  · simp only [Value.slice.injEq, Option.some.injEq, Addr.mk.injEq] at hv
    obtain ⟨⟨rfl, _⟩, _, rfl⟩ := hv
    refine .inr ⟨g, cap, cur, rfl, hb, hg, by omega, hcm, hcs, ?_⟩
    rw [← ht, List.take_take]
    congr 1
    omega
/-- A piece of a page row, from its twelfth byte on. -/
def Part (w : World) (base : Nat) (v : Value) (l : List UInt8) : Prop :=
  (l = [] ∧ ∃ ao cap, v = .slice ao 0 cap ∧ cap ≤ maxLen) ∨
  (0 < l.length ∧ ∃ g cap A, A.length = 12 ∧ v = .slice (some ⟨g, 12, none⟩) l.length (cap - 12) ∧ w.ownsRow base 5 1 (.slice (some ⟨g, 0, none⟩) (12 + l.length) cap) (12 + l.length) ((A ++ l).map B))
theorem Part.sees {w : World} {base : Nat} {v : Value} {l : List UInt8} (h : Part w base v l) : Sees w v l := by
  rcases h with ⟨rfl, ao, cap, rfl, hc⟩ | ⟨h0, g, cap, A, hA, rfl, ho⟩
  · exact ⟨ao, cap, rfl, Nat.zero_le _, hc, fun h => absurd h (by simp)⟩
  · obtain ⟨g', cap', hv, h1, h2, h3⟩ := own_slice ho (by omega)
    simp only [Value.slice.injEq, Option.some.injEq, Addr.mk.injEq] at hv
    obtain ⟨⟨rfl, -, -⟩, -, rfl⟩ := hv
    refine ⟨_, _, rfl, by omega, by omega, fun _ => ⟨g, 12, rfl, fun i c hi => ?_⟩⟩
    refine own_cell ho ?_
    rw [List.getElem?_map, List.getElem?_append_right (by omega), show 12 + i - A.length = i by omega, hi]
    rfl
theorem Part.below {w w' : World} {base : Nat} {v : Value} {l : List UInt8} (h : Part w base v l) (hb : Below w.heap.size w w') : Part w' base v l := by
  rcases h with h | ⟨h0, g, cap, A, hA, rfl, ho⟩
  · exact .inl h
  · exact .inr ⟨h0, g, cap, A, hA, rfl, own_below ho hb⟩
/-- What load answers, or gives up with. -/
def Loaded (w : World) (X : Int × List UInt8 × Nat) (e : Ending) (w' : World) : Prop :=
  (X.1 ≠ 0 ∧ e = .panicked (gaveUp5 X.1) ∧ Below w.heap.size w w') ∨ (X.1 = 0 ∧ ∃ v, e = .returned (.tuple #[v, I X.2.2]) ∧ Part w' w.heap.size v X.2.1 ∧ Below w.heap.size w w')
theorem Part.of_own {w : World} {base g m cap : Nat} {L : List UInt8} (h : w.ownsRow base 5 1 (.slice (some ⟨g, 0, none⟩) (m * 256) cap) (m * 256) (L.map B)) {n : Nat} (hn : 12 + n ≤ m * 256) (hm : 0 < m) :
    Part w base (sl (some ⟨g, 0, none⟩) cap 12 (12 + n)) ((L.drop 12).take n) := by
  have hL : L.length = m * 256 := by have := h.1; simpa using this
  have hl : ((L.drop 12).take n).length = n := by rw [List.length_take, List.length_drop, hL]; omega
  obtain ⟨g', cap', hv, h1, h2, h3⟩ := own_slice h (by omega)
  simp only [Value.slice.injEq, Option.some.injEq, Addr.mk.injEq] at hv
  obtain ⟨⟨rfl, -, -⟩, -, rfl⟩ := hv
  by_cases h0 : n = 0
  · subst h0
    refine .inl ⟨by simp, ?_⟩
    unfold sl
    split
    · exact ⟨_, _, rfl, by unfold maxLen; omega⟩
    · exact ⟨_, _, rfl, by omega⟩
  · refine .inr ⟨by omega, g, cap, L.take 12, by rw [List.length_take]; omega, ?_, ?_⟩
    · rw [hl]
      unfold sl
      rw [if_neg (by omega), show 12 + n - 12 = n by omega]
      rfl
    · rw [hl]
      have e : L.take 12 ++ (L.drop 12).take n = L.take (12 + n) := by rw [List.take_add]
      rw [e]
      rw [List.map_take]
      exact own_pre h (by omega)
theorem pread_off {w : World} {p : Nat} {own : Nat → Prop} {D : DS} {a : Nat} (hd : DrumAt w p own D) (ha : a < D.safe.length) (ho : D.off = true) :
    Calls Try.prog 79 #[.pointer (some ⟨p, 0, none⟩), I a] w fun e w' => e = .panicked (gaveUp5 20) ∧ Below w.heap.size w w' := by
  refine (pread_any w p own D a hd ha).mono fun e w' h => ?_
  rcases h with h | h
  · exact h.2
  · rw [ho] at h; cases h.1
theorem pread_on {w : World} {p : Nat} {own : Nat → Prop} {D : DS} {a : Nat} (hd : DrumAt w p own D) (ha : a < D.safe.length) (ho : D.off = false) :
    Calls Try.prog 79 #[.pointer (some ⟨p, 0, none⟩), I a] w (Fresh w (DS.look D.safe D.waits a)) := by
  refine (pread_any w p own D a hd ha).mono fun e w' h => ?_
  rcases h with h | h
  · rw [ho] at h; cases h.1
  · exact h.2
set_option maxRecDepth 100000 in
theorem load_off (w : World) (p : Nat) (own : Nat → Prop) (D : DS) (h : Nat) (hh : h ≤ 1) (hd : DrumAt w p own D) (h5 : 5 ≤ D.safe.length) (ho : D.off = true) :
    Calls Try.prog 81 #[.pointer (some ⟨p, 0, none⟩), I h] w fun e w' => e = .panicked (gaveUp5 20) ∧ Below w.heap.size w w' := by
  have h1 := pfirst_any w p own D hd (by omega) h hh
  have hq : h * PS.hp D.safe.length ≤ PS.hp D.safe.length := by
    have := Nat.mul_le_mul_right (PS.hp D.safe.length) hh
    omega
  have h2 := pread_off hd (a := 1 + h * PS.hp D.safe.length) (by unfold PS.hp at *; omega) ho
  have H1 := hid h1
  have H2 := hid h2
  clear h1 h2 hq ho hd
  generalize 1 + h * PS.hp D.safe.length = a at *
  go_enter Try.func81, Try.ntmps81
  go_wp2_with (first | (go_at_call 82; refine H1.out.mono ?_; rintro e w1 ⟨rfl, rfl⟩) | (go_at_call 79; refine H2.out.mono ?_; rintro e w1 ⟨rfl, hb⟩; have HB := hid hb; clear hb))
  exact ⟨rfl, rfl, HB.out⟩
set_option maxRecDepth 100000 in
set_option maxHeartbeats 1600000 in
theorem load_on (w : World) (p : Nat) (own : Nat → Prop) (D : DS) (h : Nat) (hh : h ≤ 1) (hd : DrumAt w p own D) (h5 : 5 ≤ D.safe.length) (ho : D.off = false) :
    Calls Try.prog 81 #[.pointer (some ⟨p, 0, none⟩), I h] w (Loaded w (PS.load (PS.halfOf D h) (PS.hp D.safe.length))) := by
  have hn := hd.ok.n2
  have h1 := pfirst_any w p own D hd (by omega) h hh
  have hpg := fun w' (hb : Below w.heap.size w w') => ppages_any w' p own D (hd.below hb) (by omega)
  have hq : h * PS.hp D.safe.length ≤ PS.hp D.safe.length := by
    have := Nat.mul_le_mul_right (PS.hp D.safe.length) hh
    omega
  have hq2 : 2 ≤ PS.hp D.safe.length ∧ 2 * PS.hp D.safe.length + 1 ≤ D.safe.length := by unfold PS.hp; omega
  have hrd := fun w' (hb : Below w.heap.size w w') (a : Nat) (ha : a < D.safe.length) => pread_on (hd.below hb) ha ho
  have hok := hd.ok
  unfold PS.halfOf
  generalize PS.hp D.safe.length = q at *
  obtain ⟨a0, ha0⟩ : ∃ a0, a0 = 1 + h * q := ⟨_, rfl⟩
  have haq : a0 + q ≤ D.safe.length ∧ a0 ≤ 5000 := by rw [ha0]; omega
  rw [← ha0] at h1 ⊢
  obtain ⟨S, hS⟩ : ∃ S, S = TS.stretch D a0 q := ⟨_, rfl⟩
  rw [← hS]
  have hSl : S.length = q * 256 := by rw [hS]; exact TS.stretch_len hok haq.1
  have hcut : ∀ j, j ≤ q → S.take (j * 256) = TS.stretch D a0 j := fun j hj => by rw [hS]; exact PS.cut hok haq.1 (q - j) (by omega)
  have hsn := PS.snoc D a0
  have hll : ∀ j, j < q → (DS.look D.safe D.waits (a0 + j)).length = 256 := fun j hj => DS.look_len hok.page hok.wait (by omega)
  have hr0 := hrd w (Below.refl _ _) a0 (by omega)
  have h10 : TS.stretch D a0 1 = DS.look D.safe D.waits a0 := by rw [PS.snoc]; rfl
  rw [← h10] at hr0
  have hl1 : (TS.stretch D a0 1).length = 256 := by rw [h10]; exact hll 0 (by omega)
  obtain ⟨P0, hP0⟩ : ∃ P0, P0 = TS.stretch D a0 1 := ⟨_, rfl⟩
  rw [← hP0] at hr0 hl1
  have HP0 := hid hP0
  obtain ⟨X, hX⟩ : ∃ X, X = PS.load S q := ⟨_, rfl⟩
  rw [← hX]
  have H1 := hid h1
  have HR0 := hid hr0
  have HPG := hid hpg
  have HRD := hid hrd
  have HSL := hid hSl
  have HCUT := hid hcut
  have HSN := hid hsn
  have HLL := hid hll
  have HL1 := hid hl1
  have HX := hid hX
  have HOK := hid hok
  have hH := hid ha0
  clear h1 hr0 hpg hrd hSl hcut hsn hll hl1 hX hd hok h10 hq hh ha0 hS ho hP0
  go_enter Try.func81, Try.ntmps81
  go_wp2_with (first | (go_at_call 82; refine H1.out.mono ?_; rintro e w1 ⟨rfl, rfl⟩) | (go_at_call 79; refine HR0.out.mono ?_; rintro e w1 ⟨v, rfl, ho1, hb1⟩; rw [HL1.out] at ho1; obtain ⟨g, cap, rfl, g1, g2, g3⟩ := own_slice ho1 (by omega); have HO1 := hid ho1; have HB1 := hid hb1; clear ho1 hb1))
  have e256 : P0 = S.take 256 := by have := HCUT.out 1 (by omega); rw [HP0.out, ← this]
  have e12 : P0.take 12 = S.take 12 := by rw [e256, List.take_take]; rfl
  have e4 : P0.take 4 = S.take 4 := by rw [e256, List.take_take]; rfl
  have hs := own_sees' HO1.out HL1.out
  have hs12 := hs.take 12 (by rw [HL1.out]; omega)
  have hs4 := hs.take 4 (by rw [HL1.out]; omega)
  rw [e12] at hs12
  rw [e4] at hs4
  have hl12 : (S.take 12).length = 12 := by rw [List.length_take, HSL.out]; omega
  have hl4 : (S.take 4).length = 4 := by rw [List.length_take, HSL.out]; omega
  have hc103 := pcontains_any w1 _ (S.take 12) hs12 (by rw [hl12]; omega)
  rw [hl12] at hc103
  have hnum := pnumber_any w1 _ (S.take 4) hs4 (by rw [hl4]; omega)
  have hn4 : Sum.num (S.take 4) = ((PS.num4 S : Nat) : Int) := by
    unfold PS.num4
    have := (Sum.num_range (S.take 4)).1
    omega
  rw [hn4] at hnum
  have hnlt := PS.num4_lt S
  have HS := hid hs
  have HN4 := hid hnum
  unfold PS.load at HX
  generalize PS.num4 S = N0 at *
  refine hc103.mono ?_
  rintro e w2 ⟨rfl, rfl⟩
  clear hc103 hs12 hs4 hl12 hl4 e12 e4 e256 hs hn4 hnum
  by_cases hz : S.take 12 = List.replicate 12 0
  · have hb : decide (S.take 12 ≠ List.replicate 12 0) = false := by simp [hz]
    rw [hb]
    have HZ := hid hz
    clear hz hb
    go_wp2
    go_ret2
    refine .inr ⟨by rw [HX.out, if_pos HZ.out], .slice none 0 0, by rw [HX.out, if_pos HZ.out]; rfl, .inl ⟨by rw [HX.out, if_pos HZ.out], none, 0, rfl, by decide⟩, HB1.out⟩
  have hb : decide (S.take 12 ≠ List.replicate 12 0) = true := decide_eq_true hz
  rw [hb]
  have HX1 : Hid (X = if q ≤ PS.takes N0 then (11, [], 0) else if PS.framed ((S.drop 12).take N0) = S.take (12 + N0) then (0, (S.drop 12).take N0, PS.takes N0) else (12, [], 0)) := hid (by rw [HX.out, if_neg hz])
  clear HX hz hb
  obtain ⟨K, hK⟩ : ∃ K, K = PS.takes N0 := ⟨_, rfl⟩
  rw [← hK] at HX1
  have hKb : 256 * K ≤ N0 + 267 ∧ N0 + 12 ≤ 256 * K := by rw [hK]; unfold PS.takes; omega
  have HTK : Hid (∀ w, Calls Try.prog 87 #[I N0] w fun e w' => e = .returned (I K) ∧ w = w') := hid (fun w => by rw [hK]; exact takes_any w N0 (by omega))
  clear hK
  by_cases hge : q ≤ K
  · have HGE : Hid (X = (11, [], 0)) := hid (by rw [HX1.out, if_pos hge])
    have hge2 : (q : Int) ≤ (K : Int) := by omega
    have hge3 : decide ((K : Int) ≥ (q : Int)) = true := decide_eq_true hge2
    go_wp2_with (first | (go_at_call 105; refine HN4.out.mono ?_; rintro e w2 ⟨rfl, rfl⟩) | (go_at_call 87; refine (HTK.out _).mono ?_; rintro e w3 ⟨rfl, rfl⟩) | (go_at_call 83; refine (HPG.out _ HB1.out).mono ?_; rintro e w4 ⟨rfl, rfl⟩) | (go_at_call 80; refine (fail_no 11 rfl _).mono ?_; rintro e w5 ⟨rfl, rfl⟩))
    exact ⟨rfl, .inl ⟨by rw [HGE.out]; decide, by rw [HGE.out], HB1.out⟩⟩
  have HGE : Hid (X = if PS.framed ((S.drop 12).take N0) = S.take (12 + N0) then (0, (S.drop 12).take N0, K) else (12, [], 0)) := hid (by rw [HX1.out, if_neg hge])
  have hge2 : ¬ (q : Int) ≤ (K : Int) := by omega
  clear HX1
  have HOA : Hid (w1.ownsRow w.heap.size 5 1 (.slice (some ⟨g, 0, none⟩) 256 cap) (1 * 256) ((TS.stretch D a0 1).map B)) := hid (by rw [← HP0.out]; exact HO1.out)
  go_wp2_with (first | (go_at_call 105; refine HN4.out.mono ?_; rintro e w2 ⟨rfl, rfl⟩) | (go_at_call 87; refine (HTK.out _).mono ?_; rintro e w3 ⟨rfl, rfl⟩) | (go_at_call 83; refine (HPG.out _ HB1.out).mono ?_; rintro e w4 ⟨rfl, rfl⟩))
  go_loopw [7, 9] (fun v i wr => ∃ j : Nat, 1 ≤ j ∧ j ≤ K ∧ i = I j ∧ Hid (wr.ownsRow w.heap.size 5 1 v (j * 256) ((TS.stretch D a0 j).map B)) ∧ Hid (Below w.heap.size w wr)) (fun _ i _ => K - (intOf i).toNat)
  case atStart => exact ⟨1, by omega, by omega, rfl, HOA, HB1⟩
  case round =>
    obtain ⟨j, hj1, hj, rfl, HO, HB⟩ := hrel
    clear HS HO1 HOA HN4 HR0 H1
    obtain ⟨ao, co, rfl⟩ := own_form HO.out
    by_cases hlt : j < K
    · have f1 : decide ((j : Int) < (K : Int)) = true := decide_eq_true (by omega)
      have hlk := HRD.out wr HB.out (a0 + j) (by omega)
      have hll := HLL.out j (by omega)
      have hsn := HSN.out j
      have HSN' := hid hsn
      generalize DS.look D.safe D.waits (a0 + j) = pg at *
      have haj : ((a0 + j : Nat) : Int) = (a0 : Int) + (j : Int) := by omega
      rw [haj] at hlk
      have HLK := hid hlk
      have HLL' := hid hll
      have HAJ := hid haj
      clear hlk hll hsn haj HSN HLL
      go_wp2_with (first | (go_at_call 87; refine (HTK.out _).mono ?_; rintro e w3 ⟨rfl, rfl⟩) | (go_at_call 79; refine HLK.out.mono ?_; rintro e w4 ⟨v4, rfl, ho4, hb4⟩; have HO4 := hid ho4; have HB4 := hid hb4; have hsz4 := hb4.size; have hsz5 := HB.out.size; have HOo := hid (own_below HO.out hb4); have hbs : w.heap.size ≤ w4.heap.size := Nat.le_trans hsz5 hsz4; clear ho4 hb4) | (at_builtin; go_must (refine wpList_app rfl (.tmp 35) (.tmp 40) 23 rfl w.heap.size 5 (.int .u8 0) 1 1 Try.underlying23 info5 rfl (by decide) (j * 256) ((TS.stretch D a0 j).map B) 256 (pg.map B) HOo.out ?src ?h63 ?hb hbs ?_)))
      case src => have := (own_sees HO4.out).src; rw [HLL'.out] at this; exact this
      case h63 => unfold maxLen; omega
      case hb => omega
      intro v' w8 hown hgrow hat
      replace hown : w8.ownsRow w.heap.size 5 1 v' ((j + 1) * 256) ((TS.stretch D a0 (j + 1)).map B) := own_len hown (by omega) (by rw [HSN'.out, List.map_append])
      have HO8 := hid hown
      have HB8 := hid ((HB.out.trans (HB4.out.mono HB.out.size)).grown hgrow hbs (fun i hi => (own_lt HO.out i hi).1))
      obtain ⟨av', cv', rfl⟩ := own_form hown
      clear hown hgrow hat
      go_wp2
      go_roundw
      case rel => exact ⟨j + 1, by omega, by omega, by go_num, HO8, HB8⟩
      case measure => simp [intOf]; omega
    · have f1 : decide ((j : Int) < (K : Int)) = false := decide_eq_false (by omega)
      obtain rfl : j = K := by omega
      have hj0 : 0 < j * 256 := by omega
      obtain ⟨g2, cap2, hv, c1, c2, c3⟩ := own_slice HO.out hj0
      simp only [Value.slice.injEq] at hv
      obtain ⟨rfl, -, rfl⟩ := hv
      have hL := HCUT.out j (by omega)
      have hLl : (TS.stretch D a0 j).length = j * 256 := by rw [← hL, List.length_take, HSL.out]; omega
      have hpart := Part.of_own HO.out (n := N0) (by omega) (by omega)
      have hsl : sl (some ⟨g2, 0, none⟩) co 12 (12 + N0) = .slice (some ⟨g2, 12, none⟩) N0 (co - 12) := by unfold sl; rw [if_neg (by omega), show 12 + N0 - 12 = N0 by omega]; rfl
      have hb : ((TS.stretch D a0 j).drop 12).take N0 = (S.drop 12).take N0 := by
        rw [← hL, List.drop_take, List.take_take]; congr 1; omega
      have hall := (own_sees' HO.out hLl).take (12 + N0) (by rw [hLl]; omega)
      have hta : (TS.stretch D a0 j).take (12 + N0) = S.take (12 + N0) := by rw [← hL, List.take_take]; congr 1; omega
      rw [hta] at hall
      rw [hsl, hb] at hpart
      obtain ⟨Y, hY⟩ : ∃ Y, Y = S.take (12 + N0) := ⟨_, rfl⟩
      obtain ⟨b, hbb⟩ : ∃ b, b = (S.drop 12).take N0 := ⟨_, rfl⟩
      have hbl : b.length = N0 := by rw [hbb, List.length_take, List.length_drop, HSL.out]; omega
      rw [← hY] at hall HGE
      rw [← hbb] at hpart HGE
      have HPA := hid hpart
      have HAL := hid hall
      have HBL := hid hbl
      have hw12 : IntKind.i64.wrap (12 + (N0 : Int)) = ((12 + N0 : Nat) : Int) := by rw [IntWalk.i64_in _ (by omega)]; omega
      obtain ⟨M, hM⟩ : ∃ M, M = 12 + N0 := ⟨_, rfl⟩
      rw [← hM] at hw12 HAL
      have hM2 : M ≤ j * 256 ∧ 12 ≤ M ∧ M - 12 = N0 := by omega
      have HM := hid hM
      clear hpart hall hb hta hsl hL hLl HO hY hbb hM hj0
      have hc12 : ¬ co = 12 := by omega
      have m1 : 12 ≤ M := hM2.2.1
      have m1i : (12 : Int) ≤ (M : Int) := by omega
      have m2 : M - 12 = N0 := hM2.2.2
      have m3 : M ≤ co := Nat.le_trans hM2.1 c1
      have k51 : ∀ w', Ext wr.drew w' → (convert 23 9 (.slice (some ⟨g2, 0, none⟩) M co)).run Try.prog w' = .ok (.string (str Y)) w' := fun w' hh => run_str Try.underlying23 Try.underlying5 Try.underlying9 (HAL.out.below (Ext.trans _ _ _ (Ext.drew wr) hh))
      obtain ⟨F, hF⟩ : ∃ F, F = PS.framed b := ⟨_, rfl⟩
      rw [← hF] at HGE
      have HFF := hid hF
      have hse := str_eq F Y
      have hN1 : N0 ≤ 1073741824 := by omega
      have HN1 := hid hN1
      go_wp2_with (first | (go_at_call 87; refine (HTK.out _).mono ?_; rintro e w3 ⟨rfl, rfl⟩))
      by_cases hfy : F = Y
      · have hb : decide (F = Y) = true := decide_eq_true hfy
        have HXF : Hid (X = (0, b, j)) := hid (by rw [HGE.out, if_pos hfy])
        clear hfy hF HGE
        refine wp_region_order Ext [] [(0,0),(1,0),(4,0),(5,0),(2,1),(3,0),(6,0)] _ (by kernel_rfl) rfl Ext.refl Ext.trans (by kernel_rfl) (by simp only [pick, List.getElem?_toArray, List.getElem?_cons_zero, List.getElem?_cons_succ]; rfl) (fun c a d v w h => by cases d <;> exact h) ?_
        refine wpK_q (v := ?_) (a' := ?_) (by rfl) (fun w' hR => ?_) ?_ ?_
        rotate_left 2
        · go_simp; with_reducible rfl
        · simp only [Act.put, List.setIfInBounds_toArray, List.set_cons_zero, List.set_cons_succ]; rfl
        refine wpK_q (v := ?_) (a' := ?_) (by rfl) (fun w' hR => ?_) ?_ ?_
        rotate_left 2
        · go_simp; with_reducible rfl
        · simp only [Act.put, List.setIfInBounds_toArray, List.set_cons_zero, List.set_cons_succ]; rfl
        refine wpK_q (v := ?_) (a' := ?_) (by rfl) (fun w' hR => ?_) ?_ ?_
        rotate_left 2
        · go_simp; with_reducible rfl
        · simp only [Act.put, List.setIfInBounds_toArray, List.set_cons_zero, List.set_cons_succ]; rfl
        refine wpK_q (v := ?_) (a' := ?_) (by rfl) (fun w' hR => ?_) ?_ ?_
        rotate_left 2
        · go_simp; with_reducible rfl
        · simp only [Act.put, List.setIfInBounds_toArray, List.set_cons_zero, List.set_cons_succ]; rfl
        refine wpK_call Try.func89 (by kernel_rfl) rfl rfl (by rfl) #[.slice (some ⟨g2, 12, none⟩) N0 (co - 12)] (by simp only [List.map_toArray, List.map_cons, List.map_nil]; rfl) ?_
        refine (pframed_any _ _ b (by exact HPA.out.sees.drew) (by rw [HBL.out]; exact HN1.out)).mono ?_
        rintro e w11 ⟨v11, rfl, ho11, hb11⟩
        rw [← HFF.out] at ho11
        refine ⟨_, rfl, fun _ => hb11, ?_⟩
        obtain ⟨ao11, co11, rfl⟩ := own_form ho11
        have S11 := hid (own_sees ho11)
        have k6 : ∀ w', Ext w11 w' → (convert 23 9 (.slice ao11 F.length co11)).run Try.prog w' = .ok (.string (str F)) w' := fun w' hh => run_str Try.underlying23 Try.underlying5 Try.underlying9 (S11.out.below hh)
        have HB11 := hid hb11
        clear ho11 hb11
        refine wpK_q (v := ?_) (a' := ?_) (by rfl) (fun w' hR => ?_) ?_ ?_
        rotate_left 2
        · go_simp; with_reducible rfl
        · simp only [Act.put, List.setIfInBounds_toArray, List.set_cons_zero, List.set_cons_succ]; rfl
        refine wpK_q (v := ?_) (a' := ?_) (by rfl) (fun w' hR => ?_) ?_ ?_
        rotate_left 2
        · go_simp; with_reducible rfl
        · simp only [Act.put, List.setIfInBounds_toArray, List.set_cons_zero, List.set_cons_succ]; rfl
        refine wpK_done ?_
        clear k6 k51
        have HPA2 := hid (HPA.out.below (Ext.trans _ _ _ (Ext.drew wr) HB11.out))
        go_wp2
        refine wp_region_order Ext [] [(0,0),(1,0),(2,0),(3,1),(4,0),(5,0)] _ (by kernel_rfl) rfl Ext.refl Ext.trans (by kernel_rfl) (by simp only [pick, List.getElem?_toArray, List.getElem?_cons_zero, List.getElem?_cons_succ]; rfl) (fun c a d v w h => by cases d <;> exact h) ?_
        refine wpK_q (v := ?_) (a' := ?_) (by rfl) (fun w' hR => ?_) ?_ ?_
        rotate_left 2
        · go_simp; with_reducible rfl
        · simp only [Act.put, List.setIfInBounds_toArray, List.set_cons_zero, List.set_cons_succ]; rfl
        refine wpK_q (v := ?_) (a' := ?_) (by rfl) (fun w' hR => ?_) ?_ ?_
        rotate_left 2
        · go_simp; with_reducible rfl
        · simp only [Act.put, List.setIfInBounds_toArray, List.set_cons_zero, List.set_cons_succ]; rfl
        refine wpK_q (v := ?_) (a' := ?_) (by rfl) (fun w' hR => ?_) ?_ ?_
        rotate_left 2
        · go_simp; with_reducible rfl
        · simp only [Act.put, List.setIfInBounds_toArray, List.set_cons_zero, List.set_cons_succ]; rfl
        refine wpK_call Try.func87 (by kernel_rfl) rfl rfl (by rfl) #[I N0] (by simp only [List.map_toArray, List.map_cons, List.map_nil]; rfl) ?_
        refine (HTK.out _).mono ?_
        rintro e w12 ⟨rfl, rfl⟩
        refine ⟨_, rfl, fun _ => Ext.refl _, ?_⟩
        refine wpK_q (v := ?_) (a' := ?_) (by rfl) (fun w' hR => ?_) ?_ ?_
        rotate_left 2
        · go_simp; with_reducible rfl
        · simp only [Act.put, List.setIfInBounds_toArray, List.set_cons_zero, List.set_cons_succ]; rfl
        refine wpK_q (v := ?_) (a' := ?_) (by rfl) (fun w' hR => ?_) ?_ ?_
        rotate_left 2
        · go_simp; with_reducible rfl
        · simp only [Act.put, List.setIfInBounds_toArray, List.set_cons_zero, List.set_cons_succ]; rfl
        refine wpK_done ?_
        go_wp2
        go_ret2
        have hbb : Below w.heap.size w w11 := HB.out.trans ((Ext.trans _ _ _ (Ext.drew wr) HB11.out).mono HB.out.size)
        refine .inr ⟨by rw [HXF.out], .slice (some ⟨g2, 12, none⟩) N0 (co - 12), by rw [HXF.out]; rfl, ?_, hbb.trans ((Ext.drew w11).mono hbb.size)⟩
        rw [HXF.out]
        have hp := HPA2.out
        rw [← HBL.out] at hp ⊢
        exact hp.below (Ext.drew w11)
      · have hb : decide (F = Y) = false := decide_eq_false hfy
        have HXF : Hid (X = (12, [], 0)) := hid (by rw [HGE.out, if_neg hfy])
        clear hfy hF HGE
        refine wp_region_order Ext [] [(0,0),(1,0),(4,0),(5,0),(2,1),(3,0),(6,0)] _ (by kernel_rfl) rfl Ext.refl Ext.trans (by kernel_rfl) (by simp only [pick, List.getElem?_toArray, List.getElem?_cons_zero, List.getElem?_cons_succ]; rfl) (fun c a d v w h => by cases d <;> exact h) ?_
        refine wpK_q (v := ?_) (a' := ?_) (by rfl) (fun w' hR => ?_) ?_ ?_
        rotate_left 2
        · go_simp; with_reducible rfl
        · simp only [Act.put, List.setIfInBounds_toArray, List.set_cons_zero, List.set_cons_succ]; rfl
        refine wpK_q (v := ?_) (a' := ?_) (by rfl) (fun w' hR => ?_) ?_ ?_
        rotate_left 2
        · go_simp; with_reducible rfl
        · simp only [Act.put, List.setIfInBounds_toArray, List.set_cons_zero, List.set_cons_succ]; rfl
        refine wpK_q (v := ?_) (a' := ?_) (by rfl) (fun w' hR => ?_) ?_ ?_
        rotate_left 2
        · go_simp; with_reducible rfl
        · simp only [Act.put, List.setIfInBounds_toArray, List.set_cons_zero, List.set_cons_succ]; rfl
        refine wpK_q (v := ?_) (a' := ?_) (by rfl) (fun w' hR => ?_) ?_ ?_
        rotate_left 2
        · go_simp; with_reducible rfl
        · simp only [Act.put, List.setIfInBounds_toArray, List.set_cons_zero, List.set_cons_succ]; rfl
        refine wpK_call Try.func89 (by kernel_rfl) rfl rfl (by rfl) #[.slice (some ⟨g2, 12, none⟩) N0 (co - 12)] (by simp only [List.map_toArray, List.map_cons, List.map_nil]; rfl) ?_
        refine (pframed_any _ _ b (by exact HPA.out.sees.drew) (by rw [HBL.out]; exact HN1.out)).mono ?_
        rintro e w11 ⟨v11, rfl, ho11, hb11⟩
        rw [← HFF.out] at ho11
        refine ⟨_, rfl, fun _ => hb11, ?_⟩
        obtain ⟨ao11, co11, rfl⟩ := own_form ho11
        have S11 := hid (own_sees ho11)
        have k6 : ∀ w', Ext w11 w' → (convert 23 9 (.slice ao11 F.length co11)).run Try.prog w' = .ok (.string (str F)) w' := fun w' hh => run_str Try.underlying23 Try.underlying5 Try.underlying9 (S11.out.below hh)
        have HB11 := hid hb11
        clear ho11 hb11
        refine wpK_q (v := ?_) (a' := ?_) (by rfl) (fun w' hR => ?_) ?_ ?_
        rotate_left 2
        · go_simp; with_reducible rfl
        · simp only [Act.put, List.setIfInBounds_toArray, List.set_cons_zero, List.set_cons_succ]; rfl
        refine wpK_q (v := ?_) (a' := ?_) (by rfl) (fun w' hR => ?_) ?_ ?_
        rotate_left 2
        · go_simp; with_reducible rfl
        · simp only [Act.put, List.setIfInBounds_toArray, List.set_cons_zero, List.set_cons_succ]; rfl
        refine wpK_done ?_
        clear k6 k51
        go_wp2_with (first | (go_at_call 80; refine (fail_no 12 rfl _).mono ?_; rintro e w5 ⟨rfl, rfl⟩))
        have hbb : Below w.heap.size w w11 := HB.out.trans ((Ext.trans _ _ _ (Ext.drew wr) HB11.out).mono HB.out.size)
        exact ⟨rfl, .inl ⟨by rw [HXF.out]; decide, by rw [HXF.out], hbb⟩⟩
end Go.Proofs.Ytoaeapnkefjpaaa

namespace Go.Proofs.Ytoaeapnkefjpaaa
open Go.RowKit
set_option linter.unusedVariables false
set_option linter.unusedSimpArgs false

/-- Load, whether the power is on or not. -/
theorem load_any (w : World) (p : Nat) (own : Nat → Prop) (D : DS) (h : Nat) (hh : h ≤ 1) (hd : DrumAt w p own D) (h5 : 5 ≤ D.safe.length) (ho : D.off = false) :
    Calls Try.prog 81 #[.pointer (some ⟨p, 0, none⟩), I h] w (Loaded w (PS.load (PS.halfOf D h) (PS.hp D.safe.length))) := load_on w p own D h hh hd h5 ho
theorem PS.load_ok {S : List UInt8} {q : Nat} (hq : 2 ≤ q) : (PS.load S q).1 = 0 → 1 ≤ (PS.load S q).2.2 ∧ (PS.load S q).2.2 < q := by
  unfold PS.load
  split
  · intro _; exact ⟨Nat.le_refl _, by simp only; omega⟩
  · split
    · intro h; simp at h
    · split
      · intro _
        constructor
        · show 1 ≤ PS.takes _; unfold PS.takes; omega
        · show PS.takes _ < q; omega
      · intro h; simp at h
theorem PS.load_bd {S : List UInt8} {q : Nat} : (PS.load S q).1 = 0 ∨ (PS.load S q).1 = 11 ∨ (PS.load S q).1 = 12 := by
  unfold PS.load
  split
  · exact .inl rfl
  · split
    · exact .inr (.inl rfl)
    · split
      · exact .inl rfl
      · exact .inr (.inr rfl)
/-- Where Open's own blocks are: the drum's, the pair, the pair's place, the snapshot's, the records'. -/
structure PBorn (w0 : World) (p : Nat) (half : Int) (tv vb vl : Value) (W : World) : Prop where
  g0 : W.heap[w0.heap.size]? = some (.cells #[.pointer (some ⟨p, 0, none⟩)] 40 (0, 0))
  g1 : W.heap[w0.heap.size + 1]? = some (.cells #[.pointer (some ⟨p, 0, none⟩), tv, I half, I 0] 114 (0, 0))
  g2 : W.heap[w0.heap.size + 2]? = some (.cells #[.pointer (some ⟨w0.heap.size + 1, 0, none⟩)] 44 (0, 0))
  g3 : W.heap[w0.heap.size + 3]? = some (.cells #[vb] 23 (0, 0))
  g4 : W.heap[w0.heap.size + 4]? = some (.cells #[vl] 45 (0, 0))
  below : Below w0.heap.size w0 W
section
variable {w0 : World} {p : Nat} {half : Int} {tv vb vl : Value} {W W' : World}
theorem PBorn.lt (h : PBorn w0 p half tv vb vl W) : w0.heap.size + 5 ≤ W.heap.size := (Array.getElem?_eq_some_iff.1 h.g4).1
theorem PBorn.on (h : PBorn w0 p half tv vb vl W) (hb : Below W.heap.size W W') : PBorn w0 p half tv vb vl W' := by
  have hl := h.lt
  exact ⟨(hb.block _ (by omega)).trans h.g0, (hb.block _ (by omega)).trans h.g1, (hb.block _ (by omega)).trans h.g2, (hb.block _ (by omega)).trans h.g3, (hb.block _ (by omega)).trans h.g4, h.below.trans (hb.mono h.below.size)⟩
theorem PBorn.set1 {W' : World} (h : PBorn w0 p half tv vb vl W) (half' : Int) (tv' vb' vl' : Value) (hm : Mod (fun k => w0.heap.size + 1 ≤ k ∧ k ≤ w0.heap.size + 4) W W')
    (g1 : W'.heap[w0.heap.size + 1]? = some (.cells #[.pointer (some ⟨p, 0, none⟩), tv', I half', I 0] 114 (0, 0)))
    (g2 : W'.heap[w0.heap.size + 2]? = W.heap[w0.heap.size + 2]?)
    (g3 : W'.heap[w0.heap.size + 3]? = some (.cells #[vb'] 23 (0, 0)))
    (g4 : W'.heap[w0.heap.size + 4]? = some (.cells #[vl'] 45 (0, 0))) : PBorn w0 p half' tv' vb' vl' W' := by
  have hl := h.lt
  exact ⟨(hm.block _ (by omega) (by omega)).trans h.g0, g1, g2.trans h.g2, g3, g4, h.below.trans (hm.below h.below.size (fun i hi ho => by omega))⟩
theorem PBorn.half' (h : PBorn w0 p half tv vb vl W) (x : Int) : PBorn w0 p x tv vb vl (W.setCell ⟨w0.heap.size + 1, 2, none⟩ (I x)) :=
  h.set1 x tv vb vl (Mod.set ⟨by simp, by simp⟩) (heap_setCell_same W _ 2 _ _ _ h.g1) (heap_setCell_other W ⟨w0.heap.size + 1, 2, none⟩ _ _ (by simp)) ((heap_setCell_other W ⟨w0.heap.size + 1, 2, none⟩ _ _ (by simp)).trans h.g3) ((heap_setCell_other W ⟨w0.heap.size + 1, 2, none⟩ _ _ (by simp)).trans h.g4)
theorem PBorn.tape' (h : PBorn w0 p half tv vb vl W) (x : Value) : PBorn w0 p half x vb vl (W.setCell ⟨w0.heap.size + 1, 1, none⟩ x) :=
  h.set1 half x vb vl (Mod.set ⟨by simp, by simp⟩) (heap_setCell_same W _ 1 _ _ _ h.g1) (heap_setCell_other W ⟨w0.heap.size + 1, 1, none⟩ _ _ (by simp)) ((heap_setCell_other W ⟨w0.heap.size + 1, 1, none⟩ _ _ (by simp)).trans h.g3) ((heap_setCell_other W ⟨w0.heap.size + 1, 1, none⟩ _ _ (by simp)).trans h.g4)
theorem PBorn.snap' (h : PBorn w0 p half tv vb vl W) (x : Value) : PBorn w0 p half tv x vl (W.setCell ⟨w0.heap.size + 3, 0, none⟩ x) :=
  h.set1 half tv x vl (Mod.set ⟨by simp, by simp⟩) ((heap_setCell_other W ⟨w0.heap.size + 3, 0, none⟩ _ _ (by simp)).trans h.g1) (heap_setCell_other W ⟨w0.heap.size + 3, 0, none⟩ _ _ (by simp)) (set_one h.g3 rfl x) ((heap_setCell_other W ⟨w0.heap.size + 3, 0, none⟩ _ _ (by simp)).trans h.g4)
theorem PBorn.recs' (h : PBorn w0 p half tv vb vl W) (x : Value) : PBorn w0 p half tv vb x (W.setCell ⟨w0.heap.size + 4, 0, none⟩ x) :=
  h.set1 half tv vb x (Mod.set ⟨by simp, by simp⟩) ((heap_setCell_other W ⟨w0.heap.size + 4, 0, none⟩ _ _ (by simp)).trans h.g1) (heap_setCell_other W ⟨w0.heap.size + 4, 0, none⟩ _ _ (by simp)) ((heap_setCell_other W ⟨w0.heap.size + 4, 0, none⟩ _ _ (by simp)).trans h.g3) (set_one h.g4 rfl x)
theorem PBorn.c0 (h : PBorn w0 p half tv vb vl W) : W.cell? ⟨w0.heap.size, 0, none⟩ = some (.pointer (some ⟨p, 0, none⟩)) := by rw [cell_of_row W _ _ _ _ _ h.g0]; rfl
theorem PBorn.c1 (h : PBorn w0 p half tv vb vl W) : W.cell? ⟨w0.heap.size + 1, 1, none⟩ = some tv := by rw [cell_of_row W _ _ _ _ _ h.g1]; rfl
theorem PBorn.ch (h : PBorn w0 p half tv vb vl W) : W.cell? ⟨w0.heap.size + 1, 2, none⟩ = some (I half) := by rw [cell_of_row W _ _ _ _ _ h.g1]; rfl
theorem PBorn.c2 (h : PBorn w0 p half tv vb vl W) : W.cell? ⟨w0.heap.size + 2, 0, none⟩ = some (.pointer (some ⟨w0.heap.size + 1, 0, none⟩)) := by rw [cell_of_row W _ _ _ _ _ h.g2]; rfl
theorem PBorn.c3 (h : PBorn w0 p half tv vb vl W) : W.cell? ⟨w0.heap.size + 3, 0, none⟩ = some vb := by rw [cell_of_row W _ _ _ _ _ h.g3]; rfl
theorem PBorn.c4 (h : PBorn w0 p half tv vb vl W) : W.cell? ⟨w0.heap.size + 4, 0, none⟩ = some vl := by rw [cell_of_row W _ _ _ _ _ h.g4]; rfl
theorem PBorn.mod (h : PBorn w0 p half tv vb vl W) {i : Nat} (hi : i ≤ 3) (v : Value) {k : Nat} (hk : 1 ≤ k ∧ k ≤ 4) : Below w0.heap.size w0 (W.setCell ⟨w0.heap.size + k, i, none⟩ v) := h.below.trans ((Mod.set (own := fun j => j = w0.heap.size + k) rfl).below h.below.size (fun j hj e => by omega))
end
set_option maxRecDepth 100000 in
/-- Behind Open's door: the power is off. -/
theorem popen_off (w0 W : World) (p : Nat) (own : Nat → Prop) (D : DS) (hb : PBorn w0 p 0 (.pointer none) (.slice none 0 0) (.slice none 0 0) W) (hd : DrumAt w0 p own D) (h5 : 5 ≤ D.safe.length) (ho : D.off = true) :
    Calls Try.prog 78 #[.pointer (some ⟨w0.heap.size, 0, none⟩), .pointer (some ⟨w0.heap.size + 2, 0, none⟩), .pointer (some ⟨w0.heap.size + 3, 0, none⟩), .pointer (some ⟨w0.heap.size + 4, 0, none⟩)] W fun e w' => e = .panicked (gaveUp5 20) ∧ Below W.heap.size W w' := by
  have hp := pread_off (hd.below (hb.below.trans ((Ext.drew W).mono hb.below.size))) (a := 0) (by omega) ho
  have HP := hid hp
  have HB := hid hb
  clear hp hd ho hb
  have k0 : ∀ w', Ext W.drew w' → w'.cell? ⟨w0.heap.size, 0, none⟩ = some (.pointer (some ⟨p, 0, none⟩)) := fun w' hh => (HB.out.on (Ext.trans _ _ _ (Ext.drew W) hh)).c0
  have k2 : ∀ w', Ext W.drew w' → w'.cell? ⟨w0.heap.size + 2, 0, none⟩ = some (.pointer (some ⟨w0.heap.size + 1, 0, none⟩)) := fun w' hh => (HB.out.on (Ext.trans _ _ _ (Ext.drew W) hh)).c2
  go_enter Try.func78, Try.ntmps78
  go_wp2
  refine wp_region_order Ext [8] [(0,0),(1,0),(2,1),(3,0),(4,0),(5,0),(6,0),(7,0),(8,2)] _ (by kernel_rfl) rfl Ext.refl Ext.trans (by kernel_rfl) (by simp only [pick, List.getElem?_toArray, List.getElem?_cons_zero, List.getElem?_cons_succ]; rfl) (fun c a d v w h => by cases d <;> exact h) ?_
  refine wpK_q (v := ?_) (a' := ?_) (by rfl) (fun w' hR => ?_) ?_ ?_
  rotate_left 2
  · go_simp; with_reducible rfl
  · simp only [Act.put, List.setIfInBounds_toArray, List.set_cons_zero, List.set_cons_succ]; rfl
  refine wpK_q (v := ?_) (a' := ?_) (by rfl) (fun w' hR => ?_) ?_ ?_
  rotate_left 2
  · go_simp; with_reducible rfl
  · simp only [Act.put, List.setIfInBounds_toArray, List.set_cons_zero, List.set_cons_succ]; rfl
  refine wpK_callp Try.func79 (by kernel_rfl) rfl rfl (by rfl) #[.pointer (some ⟨p, 0, none⟩), I 0] (by simp only [List.map_toArray, List.map_cons, List.map_nil]; rfl) ?_
  refine HP.out.mono ?_
  rintro e w1 ⟨rfl, hb1⟩
  refine ⟨_, rfl, ?_⟩
  exact ⟨rfl, rfl, Ext.trans _ _ _ (Ext.drew W) hb1⟩
theorem root_lt (D : DS) : PS.root D < 256 := by unfold PS.root; exact UInt8.toNat_lt _
/-- What Open comes to, its page counted and the power on. -/
def PS.inner (D : DS) : Int × List UInt8 × List (List UInt8) × PS :=
  let no (e : Int) : Int × List UInt8 × List (List UInt8) × PS := (e, [], [], ⟨0, ⟨0, 0, 0, 0, 0⟩, 0⟩)
  if 1 < PS.root D then no 11 else
  let at_ := 1 + PS.root D * PS.hp D.safe.length
  let x := PS.load (PS.halfOf D (PS.root D)) (PS.hp D.safe.length)
  if x.1 ≠ 0 then no x.1 else
  let y := TS.opn D (at_ + x.2.2 : Nat) (at_ + PS.hp D.safe.length : Nat)
  if y.1 ≠ 0 then no y.1 else (0, x.2.1, y.2.1, ⟨PS.root D, ⟨at_ + x.2.2, at_ + PS.hp D.safe.length, y.2.2.1, y.2.2.2, 0⟩, 0⟩)
theorem PS.open_eq (D : DS) (h5 : 5 ≤ D.safe.length) (ho : D.off = false) : PS.open_ D = PS.inner D := by
  unfold PS.open_ PS.inner
  rw [if_neg (by omega), ho, if_neg (by simp)]
theorem Part.keepTo {w w' : World} {base n : Nat} {v : Value} {l : List UInt8} (h : Part w base v l) (hn : n ≤ base) (hk : ∀ k, n ≤ k → w'.heap[k]? = w.heap[k]?) (hz : w.heap.size ≤ w'.heap.size) : Part w' n v l := by
  rcases h with h | ⟨h0, g, cap, A, hA, rfl, ho⟩
  · exact .inl h
  · refine .inr ⟨h0, g, cap, A, hA, rfl, own_anew (own_mod ho (fun k hk2 => hk k (Nat.le_trans hn (own_lt ho k hk2).1))) (fun k hk2 => Nat.le_trans hn (own_lt ho k hk2).1)⟩
/-- All blocks below one stay. -/
structure Low (b : Nat) (w w' : World) : Prop where
  b : Below b w w'
theorem Low.refl {b : Nat} (w : World) : Low b w w := ⟨Below.refl _ _⟩
theorem Low.trans {b : Nat} (w w' w'' : World) (h : Low b w w') (k : Low b w' w'') : Low b w w'' := ⟨h.b.trans k.b⟩
theorem Low.set {b : Nat} {w : World} {a : Addr} {v : Value} (h : b ≤ a.block) (hb : b ≤ w.heap.size) : Low b w (w.setCell a v) := ⟨(Mod.set (own := fun k => k = a.block) rfl).below hb (fun i hi e => by omega)⟩
/-- What is there when Open's inner function has answered. -/
def PEnd (w0 : World) (z p n : Nat) (X : Int × List UInt8 × List (List UInt8) × PS) (W : World) : Prop :=
  ∃ t vb vl, PBorn w0 p X.2.2.2.half (.pointer (some ⟨t, 0, none⟩)) vb vl W ∧ TapeIn W t p n X.2.2.2.T ∧ Part W z vb X.2.1 ∧ Recs W (t + 1) vl X.2.2.1 ∧ z ≤ t
theorem endOr5_no {e : Int} (h : e ≠ 0) (v : Value) : endOr5 e v = .panicked (gaveUp5 e) := by unfold endOr5; rw [if_neg h]
set_option maxRecDepth 100000 in
set_option maxHeartbeats 3200000 in
/-- Behind Open's door: the power is on. -/
theorem popen_on (w0 W : World) (p : Nat) (own : Nat → Prop) (D : DS) (hb : PBorn w0 p 0 (.pointer none) (.slice none 0 0) (.slice none 0 0) W) (hd : DrumAt w0 p own D) (h5 : 5 ≤ D.safe.length) (ho : D.off = false) :
    Calls Try.prog 78 #[.pointer (some ⟨w0.heap.size, 0, none⟩), .pointer (some ⟨w0.heap.size + 2, 0, none⟩), .pointer (some ⟨w0.heap.size + 3, 0, none⟩), .pointer (some ⟨w0.heap.size + 4, 0, none⟩)] W fun e w' => e = endOr5 (PS.inner D).1 (.tuple #[]) ∧ Mod (fun k => w0.heap.size + 1 ≤ k ∧ k ≤ w0.heap.size + 4) W w' ∧ Below w0.heap.size w0 w' ∧ ((PS.inner D).1 = 0 → PEnd w0 W.heap.size p D.safe.length (PS.inner D) w') := by
  have hn := hd.ok.n2
  have hWz : w0.heap.size + 5 ≤ W.heap.size := hb.lt
  have hp := pread_on (hd.below (hb.below.trans ((Ext.drew W).mono hb.below.size))) (a := 0) (by omega) ho
  have hll : (DS.look D.safe D.waits 0).length = 256 := DS.look_len hd.ok.page hd.ok.wait (by omega)
  obtain ⟨X, hX⟩ : ∃ X, X = PS.inner D := ⟨_, rfl⟩
  rw [← hX]
  unfold PS.inner at hX
  have hdd := fun w' (hb : Below w0.heap.size w0 w') => hd.below hb
  obtain ⟨r, hr⟩ : ∃ r, r = PS.root D := ⟨_, rfl⟩
  rw [← hr] at hX
  unfold PS.root at hr
  generalize DS.look D.safe D.waits 0 = pg at *
  obtain ⟨c, hc⟩ : ∃ c, c = pg.getD 0 0 := ⟨_, rfl⟩
  have hc0 : pg[0]? = some c := by rw [hc, List.getD_eq_getElem?_getD, List.getElem?_eq_getElem (by omega)]; rfl
  rw [← hc] at hr
  have bb := byte_bd c
  have hcw : IntKind.i64.wrap (c.toNat : Int) = (c.toNat : Int) := IntWalk.i64_in _ (by omega)
  have hrc : (c.toNat : Int) = (r : Int) := by rw [hr]
  have hq2 : 2 ≤ PS.hp D.safe.length ∧ 2 * PS.hp D.safe.length + 1 ≤ D.safe.length := by unfold PS.hp; omega
  have HP := hid hp
  have HDD := hid hdd
  have HB := hid hb
  have HLL := hid hll
  have HC0 := hid hc0
  have HX := hid hX
  have HRC := hid hrc
  have HO := hid ho
  clear hp hd ho hb hc hll hr hc0 hX hdd hrc
  have k0 : ∀ w', Ext W.drew w' → w'.cell? ⟨w0.heap.size, 0, none⟩ = some (.pointer (some ⟨p, 0, none⟩)) := fun w' hh => (HB.out.on (Ext.trans _ _ _ (Ext.drew W) hh)).c0
  have k2 : ∀ w', Ext W.drew w' → w'.cell? ⟨w0.heap.size + 2, 0, none⟩ = some (.pointer (some ⟨w0.heap.size + 1, 0, none⟩)) := fun w' hh => (HB.out.on (Ext.trans _ _ _ (Ext.drew W) hh)).c2
  go_enter Try.func78, Try.ntmps78
  go_wp2
  refine wp_region_order Ext [8] [(0,0),(1,0),(2,1),(3,0),(4,0),(5,0),(6,0),(7,0),(8,2)] _ (by kernel_rfl) rfl Ext.refl Ext.trans (by kernel_rfl) (by simp only [pick, List.getElem?_toArray, List.getElem?_cons_zero, List.getElem?_cons_succ]; rfl) (fun c a d v w h => by cases d <;> exact h) ?_
  refine wpK_q (v := ?_) (a' := ?_) (by rfl) (fun w' hR => ?_) ?_ ?_
  rotate_left 2
  · go_simp; with_reducible rfl
  · simp only [Act.put, List.setIfInBounds_toArray, List.set_cons_zero, List.set_cons_succ]; rfl
  refine wpK_q (v := ?_) (a' := ?_) (by rfl) (fun w' hR => ?_) ?_ ?_
  rotate_left 2
  · go_simp; with_reducible rfl
  · simp only [Act.put, List.setIfInBounds_toArray, List.set_cons_zero, List.set_cons_succ]; rfl
  refine wpK_call Try.func79 (by kernel_rfl) rfl rfl (by rfl) #[.pointer (some ⟨p, 0, none⟩), I 0] (by simp only [List.map_toArray, List.map_cons, List.map_nil]; rfl) ?_
  refine HP.out.mono ?_
  rintro e w1 ⟨v1, rfl, ho1, hb1⟩
  refine ⟨_, rfl, fun _ => hb1, ?_⟩
  rw [HLL.out] at ho1
  obtain ⟨g, cap, rfl, g1, g2, g3⟩ := own_slice ho1 (by omega)
  have kc : ∀ w', Ext w1 w' → w'.cell? ⟨g, 0, none⟩ = some (B c) := fun w' hh => hh.cell (own_cell ho1 (by rw [List.getElem?_map, HC0.out]; rfl))
  have HB1 := hid (HB.out.on (Ext.trans _ _ _ (Ext.drew W) hb1))
  have HBX := hid (Ext.trans _ _ _ (Ext.drew W) hb1)
  clear ho1 hb1
  refine wpK_q (v := ?_) (a' := ?_) (by rfl) (fun w' hR => ?_) ?_ ?_
  rotate_left 2
  · go_simp; with_reducible rfl
  · simp only [Act.put, List.setIfInBounds_toArray, List.set_cons_zero, List.set_cons_succ]; rfl
  refine wpK_q (v := ?_) (a' := ?_) (by rfl) (fun w' hR => ?_) ?_ ?_
  rotate_left 2
  · go_simp; with_reducible rfl
  · simp only [Act.put, List.setIfInBounds_toArray, List.set_cons_zero, List.set_cons_succ]; rfl
  refine wpK_q (v := ?_) (a' := ?_) (by rfl) (fun w' hR => ?_) ?_ ?_
  rotate_left 2
  · go_simp; with_reducible rfl
  · simp only [Act.put, List.setIfInBounds_toArray, List.set_cons_zero, List.set_cons_succ]; rfl
  refine wpK_q (v := ?_) (a' := ?_) (by rfl) (fun w' hR => ?_) ?_ ?_
  rotate_left 2
  · go_simp; with_reducible rfl
  · simp only [Act.put, List.setIfInBounds_toArray, List.set_cons_zero, List.set_cons_succ]; rfl
  refine wpK_q (v := ?_) (a' := ?_) (by rfl) (fun w' hR => ?_) ?_ ?_
  rotate_left 2
  · go_simp; with_reducible rfl
  · simp only [Act.put, List.setIfInBounds_toArray, List.set_cons_zero, List.set_cons_succ]; rfl
  refine wpK_s (by rfl) rfl (exec_store rfl (vx := .pointer (some ⟨w0.heap.size + 1, 2, none⟩)) (vy := I (c.toNat : Int)) rfl rfl (run_store1 (u := I 0) (by kernel_rfl) rfl rfl HB1.out.ch (frozen_row HB1.out.g1 2))) (fun h => by cases h) ?_
  refine wpK_done ?_
  rw [HRC.out]
  have HB2 := hid (HB1.out.half' r)
  have HM2 : Hid (Mod (fun k => w0.heap.size + 1 ≤ k ∧ k ≤ w0.heap.size + 4) W (w1.setCell ⟨w0.heap.size + 1, 2, none⟩ (I r))) := hid ((Mod.of_below _ HBX.out).trans (Mod.set ⟨by simp, by simp⟩))
  generalize w1.setCell ⟨w0.heap.size + 1, 2, none⟩ (I r) = w2 at *
  clear kc k0 k2 HB1 HBX HB HP HC0 HLL
  have c2 := HB2.out.c2
  have ch := HB2.out.ch
  by_cases hr1 : 1 < r
  · have hr2 : (1 : Int) < (r : Int) := by omega
    have hr3 : decide ((r : Int) > 1) = true := decide_eq_true hr2
    have HXX : Hid (X.1 = 11) := hid (by rw [HX.out, if_pos hr1])
    clear HX
    go_wp2_with (first | (go_at_call 80; refine (fail_no 11 rfl _).mono ?_; rintro e w5 ⟨rfl, rfl⟩))
    refine ⟨rfl, ?_⟩
    rw [HXX.out]
    exact ⟨(endOr5_no (by decide) _).symm, HM2.out, HB2.out.below, fun h => by cases h⟩
  have hr2 : ¬ (1 : Int) < (r : Int) := by omega
  have hr0 : r ≤ 1 := by omega
  have HX1 := hid HX.out
  replace HX1 := hid (show X = _ from by rw [HX1.out, if_neg hr1])
  clear HX hr1
  obtain ⟨q, hq⟩ : ∃ q, q = PS.hp D.safe.length := ⟨_, rfl⟩
  obtain ⟨a0, ha0⟩ : ∃ a0, a0 = 1 + r * PS.hp D.safe.length := ⟨_, rfl⟩
  have haq : a0 + q ≤ D.safe.length := by
    have h1 : r * PS.hp D.safe.length ≤ 1 * PS.hp D.safe.length := Nat.mul_le_mul_right _ hr0
    omega
  have hld := fun w' (hb : Below w0.heap.size w0 w') => load_on w' p own D r hr0 (HDD.out w' hb) h5 HO.out
  have hfi := fun w' (hb : Below w0.heap.size w0 w') => pfirst_any w' p own D (HDD.out w' hb) (by omega) r hr0
  have hpp := fun w' (hb : Below w0.heap.size w0 w') => ppages_any w' p own D (HDD.out w' hb) (by omega)
  rw [← ha0] at hfi
  rw [← hq] at hpp hq2
  have hlok := PS.load_ok (S := PS.halfOf D r) hq2.1
  obtain ⟨x, hx⟩ : ∃ x, x = PS.load (PS.halfOf D r) (PS.hp D.safe.length) := ⟨_, rfl⟩
  rw [hq, ← hx] at hlok
  simp only [← hx] at hld
  rw [← hx, ← ha0, ← hq] at HX1
  have HLD := hid hld
  have HFI := hid hfi
  have HPP := hid hpp
  have HLOK := hid hlok
  have HQ := hid hq
  rw [← hq] at HLOK
  clear hld hfi hpp hlok hx ha0 hq
  have HBD := hid (HB2.out.on (Ext.drew w2))
  have k0 : ∀ w', Low (w0.heap.size + 3) w2.drew w' → w'.cell? ⟨w0.heap.size, 0, none⟩ = some (.pointer (some ⟨p, 0, none⟩)) := fun w' hh => by rw [cell_of_row w' _ _ _ _ _ ((hh.b.block _ (by omega)).trans HBD.out.g0)]; rfl
  have k2 : ∀ w', Low (w0.heap.size + 3) w2.drew w' → w'.cell? ⟨w0.heap.size + 2, 0, none⟩ = some (.pointer (some ⟨w0.heap.size + 1, 0, none⟩)) := fun w' hh => by rw [cell_of_row w' _ _ _ _ _ ((hh.b.block _ (by omega)).trans HBD.out.g2)]; rfl
  have kh : ∀ w', Low (w0.heap.size + 3) w2.drew w' → w'.cell? ⟨w0.heap.size + 1, 2, none⟩ = some (I r) := fun w' hh => by rw [cell_of_row w' _ _ _ _ _ ((hh.b.block _ (by omega)).trans HBD.out.g1)]; rfl
  go_wp2
  by_cases hx0 : x.1 = 0
  rotate_left
  · have hcl : Calls Try.prog 81 #[.pointer (some ⟨p, 0, none⟩), I r] w2.drew fun e w' => e = .panicked (gaveUp5 x.1) ∧ Below w2.drew.heap.size w2.drew w' := (HLD.out _ HBD.out.below).mono fun e w' h => by
      rcases h with h | h
      · exact h.2
      · exact absurd h.1 hx0
    have HXX : Hid (X.1 = x.1) := hid (by rw [HX1.out, if_pos hx0])
    have HCL := hid hcl
    clear hcl
    refine wp_region_order (Low (w0.heap.size+3)) [] [(0,0),(1,0),(2,0),(3,0),(4,0),(5,1),(6,0),(7,0),(8,0),(9,1),(10,0)] _ (by kernel_rfl) rfl Low.refl Low.trans (by kernel_rfl) (by simp only [pick, List.getElem?_toArray, List.getElem?_cons_zero, List.getElem?_cons_succ]; rfl) (fun c a d v w h => by cases d <;> exact h) ?_
    refine wpK_q (v := ?_) (a' := ?_) (by rfl) (fun w' hR => ?_) ?_ ?_
    rotate_left 2
    · go_simp; with_reducible rfl
    · simp only [Act.put, List.setIfInBounds_toArray, List.set_cons_zero, List.set_cons_succ]; rfl
    refine wpK_q (v := ?_) (a' := ?_) (by rfl) (fun w' hR => ?_) ?_ ?_
    rotate_left 2
    · go_simp; with_reducible rfl
    · simp only [Act.put, List.setIfInBounds_toArray, List.set_cons_zero, List.set_cons_succ]; rfl
    refine wpK_q (v := ?_) (a' := ?_) (by rfl) (fun w' hR => ?_) ?_ ?_
    rotate_left 2
    · go_simp; with_reducible rfl
    · simp only [Act.put, List.setIfInBounds_toArray, List.set_cons_zero, List.set_cons_succ]; rfl
    refine wpK_q (v := ?_) (a' := ?_) (by rfl) (fun w' hR => ?_) ?_ ?_
    rotate_left 2
    · go_simp; with_reducible rfl
    · simp only [Act.put, List.setIfInBounds_toArray, List.set_cons_zero, List.set_cons_succ]; rfl
    refine wpK_q (v := ?_) (a' := ?_) (by rfl) (fun w' hR => ?_) ?_ ?_
    rotate_left 2
    · go_simp; with_reducible rfl
    · simp only [Act.put, List.setIfInBounds_toArray, List.set_cons_zero, List.set_cons_succ]; rfl
    refine wpK_callp Try.func81 (by kernel_rfl) rfl rfl (by rfl) #[.pointer (some ⟨p, 0, none⟩), I r] (by simp only [List.map_toArray, List.map_cons, List.map_nil]; rfl) ?_
    refine HCL.out.mono ?_
    rintro e w5 ⟨rfl, hb5⟩
    refine ⟨_, rfl, ?_⟩
    refine ⟨rfl, ?_⟩
    rw [HXX.out]
    exact ⟨(endOr5_no hx0 _).symm, HM2.out.trans (Mod.of_below _ (Ext.trans _ _ _ (Ext.drew w2) hb5)), (HBD.out.on hb5).below, fun h => absurd h hx0⟩
  have hcl : Calls Try.prog 81 #[.pointer (some ⟨p, 0, none⟩), I r] w2.drew fun e w' => ∃ v, e = .returned (.tuple #[v, I x.2.2]) ∧ Part w' w2.drew.heap.size v x.2.1 ∧ Below w2.drew.heap.size w2.drew w' := (HLD.out _ HBD.out.below).mono fun e w' h => by
    rcases h with h | h
    · exact absurd hx0 h.1
    · exact h.2
  have HCL := hid hcl
  have hk := HLOK.out hx0
  have HX2 := hid (show X = _ from by rw [HX1.out, if_neg (by rw [hx0]; simp)])
  clear hcl HX1 hx0 HLD HLOK
  obtain ⟨x1, b, K⟩ := x
  simp only at HCL hk HX2
  refine wp_region_order (Low (w0.heap.size+3)) [] [(0,0),(1,0),(2,0),(3,0),(4,0),(5,1),(6,0),(7,0),(8,0),(9,1),(10,0)] _ (by kernel_rfl) rfl Low.refl Low.trans (by kernel_rfl) (by simp only [pick, List.getElem?_toArray, List.getElem?_cons_zero, List.getElem?_cons_succ]; rfl) (fun c a d v w h => by cases d <;> exact h) ?_
  refine wpK_q (v := ?_) (a' := ?_) (by rfl) (fun w' hR => ?_) ?_ ?_
  rotate_left 2
  · go_simp; with_reducible rfl
  · simp only [Act.put, List.setIfInBounds_toArray, List.set_cons_zero, List.set_cons_succ]; rfl
  refine wpK_q (v := ?_) (a' := ?_) (by rfl) (fun w' hR => ?_) ?_ ?_
  rotate_left 2
  · go_simp; with_reducible rfl
  · simp only [Act.put, List.setIfInBounds_toArray, List.set_cons_zero, List.set_cons_succ]; rfl
  refine wpK_q (v := ?_) (a' := ?_) (by rfl) (fun w' hR => ?_) ?_ ?_
  rotate_left 2
  · go_simp; with_reducible rfl
  · simp only [Act.put, List.setIfInBounds_toArray, List.set_cons_zero, List.set_cons_succ]; rfl
  refine wpK_q (v := ?_) (a' := ?_) (by rfl) (fun w' hR => ?_) ?_ ?_
  rotate_left 2
  · go_simp; with_reducible rfl
  · simp only [Act.put, List.setIfInBounds_toArray, List.set_cons_zero, List.set_cons_succ]; rfl
  refine wpK_q (v := ?_) (a' := ?_) (by rfl) (fun w' hR => ?_) ?_ ?_
  rotate_left 2
  · go_simp; with_reducible rfl
  · simp only [Act.put, List.setIfInBounds_toArray, List.set_cons_zero, List.set_cons_succ]; rfl
  refine wpK_call Try.func81 (by kernel_rfl) rfl rfl (by rfl) #[.pointer (some ⟨p, 0, none⟩), I r] (by simp only [List.map_toArray, List.map_cons, List.map_nil]; rfl) ?_
  refine HCL.out.mono ?_
  rintro e w3 ⟨vb, rfl, hp3, hb3⟩
  refine ⟨_, rfl, fun _ => ⟨hb3.mono (Nat.le_trans (by omega) HBD.out.lt)⟩, ?_⟩
  obtain ⟨avb, cvb, rfl, -⟩ := hp3.sees.form0
  have HB3 := hid (HBD.out.on hb3)
  have HP3 := hid hp3
  have HM3 := hid (HM2.out.trans (Mod.of_below _ (Ext.trans _ _ _ (Ext.drew w2) hb3)))
  have hz3 : W.heap.size ≤ w2.drew.heap.size := HM2.out.size
  clear hp3 hb3
  refine wpK_q (v := ?_) (a' := ?_) (by rfl) (fun w' hR => ?_) ?_ ?_
  rotate_left 2
  · go_simp; with_reducible rfl
  · simp only [Act.put, List.setIfInBounds_toArray, List.set_cons_zero, List.set_cons_succ]; rfl
  refine wpK_q (v := ?_) (a' := ?_) (by rfl) (fun w' hR => ?_) ?_ ?_
  rotate_left 2
  · go_simp; with_reducible rfl
  · simp only [Act.put, List.setIfInBounds_toArray, List.set_cons_zero, List.set_cons_succ]; rfl
  refine wpK_q (v := ?_) (a' := ?_) (by rfl) (fun w' hR => ?_) ?_ ?_
  rotate_left 2
  · go_simp; with_reducible rfl
  · simp only [Act.put, List.setIfInBounds_toArray, List.set_cons_zero, List.set_cons_succ]; rfl
  refine wpK_s (by rfl) rfl (exec_store rfl (vx := .pointer (some ⟨w0.heap.size + 3, 0, none⟩)) (vy := .slice avb b.length cvb) rfl rfl (run_store1 (u := .slice none 0 0) (by kernel_rfl) rfl rfl HB3.out.c3 (frozen_row HB3.out.g3 0))) (fun _ => Low.set (Nat.le_refl _) (Nat.le_trans (by omega) HB3.out.lt)) ?_
  refine wpK_q (v := ?_) (a' := ?_) (by rfl) (fun w' hR => ?_) ?_ ?_
  rotate_left 2
  · go_simp; with_reducible rfl
  · simp only [Act.put, List.setIfInBounds_toArray, List.set_cons_zero, List.set_cons_succ]; rfl
  refine wpK_done ?_
  have HB4 := hid (HB3.out.snap' (.slice avb b.length cvb))
  have HP4 : Hid (Part (w3.setCell ⟨w0.heap.size + 3, 0, none⟩ (.slice avb b.length cvb)) W.heap.size (.slice avb b.length cvb) b) := hid (HP3.out.keepTo hz3 (fun k hk => heap_setCell_other w3 ⟨w0.heap.size + 3, 0, none⟩ k _ (by simp only; omega)) (by simp))
  have HM4 := hid (HM3.out.trans (Mod.set (own := fun k => w0.heap.size + 1 ≤ k ∧ k ≤ w0.heap.size + 4) (a := ⟨w0.heap.size + 3, 0, none⟩) (u := .slice avb b.length cvb) ⟨by simp, by simp⟩))
  generalize w3.setCell ⟨w0.heap.size + 3, 0, none⟩ (.slice avb b.length cvb) = w4 at *
  clear HB3 HP3 HM3 HCL k0 k2 kh HM2 HB2 HBD hz3 c2 ch
  have k0 : ∀ w', Ext w4.drew w' → w'.cell? ⟨w0.heap.size, 0, none⟩ = some (.pointer (some ⟨p, 0, none⟩)) := fun w' hh => (HB4.out.on (Ext.trans _ _ _ (Ext.drew w4) hh)).c0
  have k2 : ∀ w', Ext w4.drew w' → w'.cell? ⟨w0.heap.size + 2, 0, none⟩ = some (.pointer (some ⟨w0.heap.size + 1, 0, none⟩)) := fun w' hh => (HB4.out.on (Ext.trans _ _ _ (Ext.drew w4) hh)).c2
  have kh : ∀ w', Ext w4.drew w' → w'.cell? ⟨w0.heap.size + 1, 2, none⟩ = some (I r) := fun w' hh => (HB4.out.on (Ext.trans _ _ _ (Ext.drew w4) hh)).ch
  have HBD := hid (HB4.out.on (Ext.drew w4))
  go_wp2
  refine wp_region_order Ext [] [(0,0),(1,0),(2,0),(3,0),(4,0),(5,1),(6,0)] _ (by kernel_rfl) rfl Ext.refl Ext.trans (by kernel_rfl) (by simp only [pick, List.getElem?_toArray, List.getElem?_cons_zero, List.getElem?_cons_succ]; rfl) (fun c a d v w h => by cases d <;> exact h) ?_
  refine wpK_q (v := ?_) (a' := ?_) (by rfl) (fun w' hR => ?_) ?_ ?_
  rotate_left 2
  · go_simp; with_reducible rfl
  · simp only [Act.put, List.setIfInBounds_toArray, List.set_cons_zero, List.set_cons_succ]; rfl
  refine wpK_q (v := ?_) (a' := ?_) (by rfl) (fun w' hR => ?_) ?_ ?_
  rotate_left 2
  · go_simp; with_reducible rfl
  · simp only [Act.put, List.setIfInBounds_toArray, List.set_cons_zero, List.set_cons_succ]; rfl
  refine wpK_q (v := ?_) (a' := ?_) (by rfl) (fun w' hR => ?_) ?_ ?_
  rotate_left 2
  · go_simp; with_reducible rfl
  · simp only [Act.put, List.setIfInBounds_toArray, List.set_cons_zero, List.set_cons_succ]; rfl
  refine wpK_q (v := ?_) (a' := ?_) (by rfl) (fun w' hR => ?_) ?_ ?_
  rotate_left 2
  · go_simp; with_reducible rfl
  · simp only [Act.put, List.setIfInBounds_toArray, List.set_cons_zero, List.set_cons_succ]; rfl
  refine wpK_q (v := ?_) (a' := ?_) (by rfl) (fun w' hR => ?_) ?_ ?_
  rotate_left 2
  · go_simp; with_reducible rfl
  · simp only [Act.put, List.setIfInBounds_toArray, List.set_cons_zero, List.set_cons_succ]; rfl
  refine wpK_call Try.func82 (by kernel_rfl) rfl rfl (by rfl) #[.pointer (some ⟨p, 0, none⟩), I r] (by simp only [List.map_toArray, List.map_cons, List.map_nil]; rfl) ?_
  refine (HFI.out _ HBD.out.below).mono ?_
  rintro e w5 ⟨rfl, rfl⟩
  refine ⟨_, rfl, fun _ => Ext.refl _, ?_⟩
  refine wpK_q (v := ?_) (a' := ?_) (by rfl) (fun w' hR => ?_) ?_ ?_
  rotate_left 2
  · go_simp; with_reducible rfl
  · simp only [Act.put, List.setIfInBounds_toArray, List.set_cons_zero, List.set_cons_succ]; rfl
  refine wpK_done ?_
  have HB5 := hid (HBD.out)
  have HP5 := hid (HP4.out.below (Ext.drew w4))
  have HM5 := hid (HM4.out.trans (Mod.drew w4))
  generalize w4.drew = w5 at *
  clear HB4 HP4 HM4 k0 k2 kh HBD
  have k0 : ∀ w', Ext w5.drew w' → w'.cell? ⟨w0.heap.size, 0, none⟩ = some (.pointer (some ⟨p, 0, none⟩)) := fun w' hh => (HB5.out.on (Ext.trans _ _ _ (Ext.drew w5) hh)).c0
  have HBD := hid (HB5.out.on (Ext.drew w5))
  have hlo : IntKind.i64.wrap ((a0 : Int) + (K : Int)) = ((a0 + K : Nat) : Int) := by rw [IntWalk.i64_in _ (by omega)]; omega
  have hhi : IntKind.i64.wrap ((a0 : Int) + (q : Int)) = ((a0 + q : Nat) : Int) := by rw [IntWalk.i64_in _ (by omega)]; omega
  have hop := open_any w5.drew p own D ((a0 + K : Nat) : Int) ((a0 + q : Nat) : Int) (HDD.out _ HBD.out.below) (by omega) (by omega)
  obtain ⟨y, hy⟩ : ∃ y, y = TS.opn D ((a0 + K : Nat) : Int) ((a0 + q : Nat) : Int) := ⟨_, rfl⟩
  rw [← hy] at hop HX2
  rw [Int.toNat_natCast, Int.toNat_natCast] at hop
  obtain ⟨lo, hlo2⟩ : ∃ lo, lo = a0 + K := ⟨_, rfl⟩
  obtain ⟨hi, hhi2⟩ : ∃ hi, hi = a0 + q := ⟨_, rfl⟩
  rw [← hlo2] at hlo hop HX2
  rw [← hhi2] at hhi hop HX2
  have el : (lo : Int) = (a0 : Int) + (K : Int) := by omega
  have eh : (hi : Int) = (a0 : Int) + (q : Int) := by omega
  rw [el, eh] at hop
  have HOP := hid hop
  have hlo3 : IntKind.i64.wrap ((a0 : Int) + (K : Int)) = (a0 : Int) + (K : Int) := IntWalk.i64_in _ (by omega)
  have hhi3 : IntKind.i64.wrap ((a0 : Int) + (q : Int)) = (a0 : Int) + (q : Int) := IntWalk.i64_in _ (by omega)
  have EL := hid el
  have EH := hid eh
  have LO2 := hid hlo2
  have HI2 := hid hhi2
  clear hop hy el eh hlo hhi hlo2 hhi2
  go_wp2
  by_cases hy0 : y.1 = 0
  rotate_left
  · have hcl : Calls Try.prog 65 #[.pointer (some ⟨p, 0, none⟩), I ((a0 : Int) + (K : Int)), I ((a0 : Int) + (q : Int))] w5.drew fun e w' => e = .returned (.tuple #[.pointer none, .slice none 0 0, I y.1]) ∧ Below w5.drew.heap.size w5.drew w' := HOP.out.mono fun e w' h => by
      rcases h with h | h
      · exact h.2
      · exact absurd h.1 hy0
    have HXX : Hid (X.1 = y.1) := hid (by rw [HX2.out, if_pos hy0])
    have HCL := hid hcl
    have hne : (y.1 != 0) = true := by simpa using hy0
    clear hcl HOP
    refine wp_region_order Ext [] [(0,0),(1,0),(2,0),(3,0),(4,0),(5,0),(6,1),(7,0),(8,1),(9,0),(10,0),(11,0),(12,0),(13,0),(14,0),(15,0)] _ (by kernel_rfl) rfl Ext.refl Ext.trans (by kernel_rfl) (by simp only [pick, List.getElem?_toArray, List.getElem?_cons_zero, List.getElem?_cons_succ]; rfl) (fun c a d v w h => by cases d <;> exact h) ?_
    refine wpK_q (v := ?_) (a' := ?_) (by rfl) (fun w' hR => ?_) ?_ ?_
    rotate_left 2
    · go_simp; with_reducible rfl
    · simp only [Act.put, List.setIfInBounds_toArray, List.set_cons_zero, List.set_cons_succ]; rfl
    refine wpK_q (v := ?_) (a' := ?_) (by rfl) (fun w' hR => ?_) ?_ ?_
    rotate_left 2
    · go_simp; with_reducible rfl
    · simp only [Act.put, List.setIfInBounds_toArray, List.set_cons_zero, List.set_cons_succ]; rfl
    refine wpK_q (v := ?_) (a' := ?_) (by rfl) (fun w' hR => ?_) ?_ ?_
    rotate_left 2
    · go_simp; with_reducible rfl
    · simp only [Act.put, List.setIfInBounds_toArray, List.set_cons_zero, List.set_cons_succ]; rfl
    refine wpK_q (v := ?_) (a' := ?_) (by rfl) (fun w' hR => ?_) ?_ ?_
    rotate_left 2
    · go_simp; with_reducible rfl
    · simp only [Act.put, List.setIfInBounds_toArray, List.set_cons_zero, List.set_cons_succ]; rfl
    refine wpK_q (v := ?_) (a' := ?_) (by rfl) (fun w' hR => ?_) ?_ ?_
    rotate_left 2
    · go_simp; with_reducible rfl
    · simp only [Act.put, List.setIfInBounds_toArray, List.set_cons_zero, List.set_cons_succ]; rfl
    refine wpK_q (v := ?_) (a' := ?_) (by rfl) (fun w' hR => ?_) ?_ ?_
    rotate_left 2
    · go_simp; with_reducible rfl
    · simp only [Act.put, List.setIfInBounds_toArray, List.set_cons_zero, List.set_cons_succ]; rfl
    refine wpK_call Try.func83 (by kernel_rfl) rfl rfl (by rfl) #[.pointer (some ⟨p, 0, none⟩)] (by simp only [List.map_toArray, List.map_cons, List.map_nil]; rfl) ?_
    refine (HPP.out _ HBD.out.below).mono ?_
    rintro e w6 ⟨rfl, rfl⟩
    refine ⟨_, rfl, fun _ => Ext.refl _, ?_⟩
    refine wpK_q (v := ?_) (a' := ?_) (by rfl) (fun w' hR => ?_) ?_ ?_
    rotate_left 2
    · go_simp; with_reducible rfl
    · simp only [Act.put, List.setIfInBounds_toArray, List.set_cons_zero, List.set_cons_succ]; rfl
    refine wpK_call Try.func65 (by kernel_rfl) rfl rfl (by rfl) #[.pointer (some ⟨p, 0, none⟩), I ((a0 : Int) + (K : Int)), I ((a0 : Int) + (q : Int))] (by simp only [List.map_toArray, List.map_cons, List.map_nil]; rfl) ?_
    refine HCL.out.mono ?_
    rintro e w6 ⟨rfl, hb6⟩
    refine ⟨_, rfl, fun _ => hb6, ?_⟩
    have HB6 := hid hb6
    clear hb6
    refine wpK_q (v := ?_) (a' := ?_) (by rfl) (fun w' hR => ?_) ?_ ?_
    rotate_left 2
    · go_simp; with_reducible rfl
    · simp only [Act.put, List.setIfInBounds_toArray, List.set_cons_zero, List.set_cons_succ]; rfl
    refine wpK_q (v := ?_) (a' := ?_) (by rfl) (fun w' hR => ?_) ?_ ?_
    rotate_left 2
    · go_simp; with_reducible rfl
    · simp only [Act.put, List.setIfInBounds_toArray, List.set_cons_zero, List.set_cons_succ]; rfl
    refine wpK_q (v := ?_) (a' := ?_) (by rfl) (fun w' hR => ?_) ?_ ?_
    rotate_left 2
    · go_simp; with_reducible rfl
    · simp only [Act.put, List.setIfInBounds_toArray, List.set_cons_zero, List.set_cons_succ]; rfl
    refine wpK_q (v := ?_) (a' := ?_) (by rfl) (fun w' hR => ?_) ?_ ?_
    rotate_left 2
    · go_simp; with_reducible rfl
    · simp only [Act.put, List.setIfInBounds_toArray, List.set_cons_zero, List.set_cons_succ]; rfl
    refine wpK_q (v := ?_) (a' := ?_) (by rfl) (fun w' hR => ?_) ?_ ?_
    rotate_left 2
    · go_simp; with_reducible rfl
    · simp only [Act.put, List.setIfInBounds_toArray, List.set_cons_zero, List.set_cons_succ]; rfl
    refine wpK_q (v := ?_) (a' := ?_) (by rfl) (fun w' hR => ?_) ?_ ?_
    rotate_left 2
    · go_simp; with_reducible rfl
    · simp only [Act.put, List.setIfInBounds_toArray, List.set_cons_zero, List.set_cons_succ]; rfl
    refine wpK_q (v := ?_) (a' := ?_) (by rfl) (fun w' hR => ?_) ?_ ?_
    rotate_left 2
    · go_simp; with_reducible rfl
    · simp only [Act.put, List.setIfInBounds_toArray, List.set_cons_zero, List.set_cons_succ]; rfl
    refine wpK_done ?_
    go_wp2_with (first | (go_at_call 80; refine (fail_no y.1 hne _).mono ?_; rintro e w7 ⟨rfl, rfl⟩))
    refine ⟨rfl, ?_⟩
    rw [HXX.out]
    exact ⟨(endOr5_no hy0 _).symm, HM5.out.trans (Mod.of_below _ (Ext.trans _ _ _ (Ext.drew w5) HB6.out)), (HBD.out.on HB6.out).below, fun h => absurd h hy0⟩
  have hcl : Calls Try.prog 65 #[.pointer (some ⟨p, 0, none⟩), I ((a0 : Int) + (K : Int)), I ((a0 : Int) + (q : Int))] w5.drew fun e w' => ∃ t v, e = .returned (.tuple #[.pointer (some ⟨t, 0, none⟩), v, I 0]) ∧ w5.drew.heap.size ≤ t ∧ TapeIn w' t p D.safe.length ⟨lo, hi, y.2.2.1, y.2.2.2, 0⟩ ∧ Recs w' (t + 1) v y.2.1 ∧ Below w5.drew.heap.size w5.drew w' := HOP.out.mono fun e w' h => by
    rcases h with h | h
    · exact absurd hy0 h.1
    · exact h.2
  have HXX := hid (show X = _ from by rw [HX2.out, if_neg (by rw [hy0]; simp)])
  have HCL := hid hcl
  clear hcl HOP HX2 hy0
  refine wp_region_order Ext [] [(0,0),(1,0),(2,0),(3,0),(4,0),(5,0),(6,1),(7,0),(8,1),(9,0),(10,0),(11,0),(12,0),(13,0),(14,0),(15,0)] _ (by kernel_rfl) rfl Ext.refl Ext.trans (by kernel_rfl) (by simp only [pick, List.getElem?_toArray, List.getElem?_cons_zero, List.getElem?_cons_succ]; rfl) (fun c a d v w h => by cases d <;> exact h) ?_
  refine wpK_q (v := ?_) (a' := ?_) (by rfl) (fun w' hR => ?_) ?_ ?_
  rotate_left 2
  · go_simp; with_reducible rfl
  · simp only [Act.put, List.setIfInBounds_toArray, List.set_cons_zero, List.set_cons_succ]; rfl
  refine wpK_q (v := ?_) (a' := ?_) (by rfl) (fun w' hR => ?_) ?_ ?_
  rotate_left 2
  · go_simp; with_reducible rfl
  · simp only [Act.put, List.setIfInBounds_toArray, List.set_cons_zero, List.set_cons_succ]; rfl
  refine wpK_q (v := ?_) (a' := ?_) (by rfl) (fun w' hR => ?_) ?_ ?_
  rotate_left 2
  · go_simp; with_reducible rfl
  · simp only [Act.put, List.setIfInBounds_toArray, List.set_cons_zero, List.set_cons_succ]; rfl
  refine wpK_q (v := ?_) (a' := ?_) (by rfl) (fun w' hR => ?_) ?_ ?_
  rotate_left 2
  · go_simp; with_reducible rfl
  · simp only [Act.put, List.setIfInBounds_toArray, List.set_cons_zero, List.set_cons_succ]; rfl
  refine wpK_q (v := ?_) (a' := ?_) (by rfl) (fun w' hR => ?_) ?_ ?_
  rotate_left 2
  · go_simp; with_reducible rfl
  · simp only [Act.put, List.setIfInBounds_toArray, List.set_cons_zero, List.set_cons_succ]; rfl
  refine wpK_q (v := ?_) (a' := ?_) (by rfl) (fun w' hR => ?_) ?_ ?_
  rotate_left 2
  · go_simp; with_reducible rfl
  · simp only [Act.put, List.setIfInBounds_toArray, List.set_cons_zero, List.set_cons_succ]; rfl
  refine wpK_call Try.func83 (by kernel_rfl) rfl rfl (by rfl) #[.pointer (some ⟨p, 0, none⟩)] (by simp only [List.map_toArray, List.map_cons, List.map_nil]; rfl) ?_
  refine (HPP.out _ HBD.out.below).mono ?_
  rintro e w6 ⟨rfl, rfl⟩
  refine ⟨_, rfl, fun _ => Ext.refl _, ?_⟩
  refine wpK_q (v := ?_) (a' := ?_) (by rfl) (fun w' hR => ?_) ?_ ?_
  rotate_left 2
  · go_simp; with_reducible rfl
  · simp only [Act.put, List.setIfInBounds_toArray, List.set_cons_zero, List.set_cons_succ]; rfl
  refine wpK_call Try.func65 (by kernel_rfl) rfl rfl (by rfl) #[.pointer (some ⟨p, 0, none⟩), I ((a0 : Int) + (K : Int)), I ((a0 : Int) + (q : Int))] (by simp only [List.map_toArray, List.map_cons, List.map_nil]; rfl) ?_
  refine HCL.out.mono ?_
  rintro e w6 ⟨t, v, rfl, ht6, htp6, hrc6, hb6⟩
  refine ⟨_, rfl, fun _ => hb6, ?_⟩
  have HB6 := hid (HBD.out.on hb6)
  have HP6 := hid (HP5.out.below (Ext.trans _ _ _ (Ext.drew w5) hb6))
  have HM6 := hid (HM5.out.trans (Mod.of_below _ (Ext.trans _ _ _ (Ext.drew w5) hb6)))
  have HTP := hid htp6
  have HRC6 := hid hrc6
  have hzt : W.heap.size ≤ t := Nat.le_trans HM5.out.size ht6
  obtain ⟨avl, cvl, hvl⟩ : ∃ ao cap, v = .slice ao y.2.1.length cap := by obtain ⟨ao, cap, h, -⟩ := hrc6.shows.len; exact ⟨ao, cap, h⟩
  subst hvl
  clear hrc6 htp6 ht6 hb6
  refine wpK_q (v := ?_) (a' := ?_) (by rfl) (fun w' hR => ?_) ?_ ?_
  rotate_left 2
  · go_simp; with_reducible rfl
  · simp only [Act.put, List.setIfInBounds_toArray, List.set_cons_zero, List.set_cons_succ]; rfl
  refine wpK_q (v := ?_) (a' := ?_) (by rfl) (fun w' hR => ?_) ?_ ?_
  rotate_left 2
  · go_simp; with_reducible rfl
  · simp only [Act.put, List.setIfInBounds_toArray, List.set_cons_zero, List.set_cons_succ]; rfl
  refine wpK_q (v := ?_) (a' := ?_) (by rfl) (fun w' hR => ?_) ?_ ?_
  rotate_left 2
  · go_simp; with_reducible rfl
  · simp only [Act.put, List.setIfInBounds_toArray, List.set_cons_zero, List.set_cons_succ]; rfl
  refine wpK_q (v := ?_) (a' := ?_) (by rfl) (fun w' hR => ?_) ?_ ?_
  rotate_left 2
  · go_simp; with_reducible rfl
  · simp only [Act.put, List.setIfInBounds_toArray, List.set_cons_zero, List.set_cons_succ]; rfl
  refine wpK_q (v := ?_) (a' := ?_) (by rfl) (fun w' hR => ?_) ?_ ?_
  rotate_left 2
  · go_simp; with_reducible rfl
  · simp only [Act.put, List.setIfInBounds_toArray, List.set_cons_zero, List.set_cons_succ]; rfl
  refine wpK_q (v := ?_) (a' := ?_) (by rfl) (fun w' hR => ?_) ?_ ?_
  rotate_left 2
  · go_simp; with_reducible rfl
  · simp only [Act.put, List.setIfInBounds_toArray, List.set_cons_zero, List.set_cons_succ]; rfl
  refine wpK_q (v := ?_) (a' := ?_) (by rfl) (fun w' hR => ?_) ?_ ?_
  rotate_left 2
  · go_simp; with_reducible rfl
  · simp only [Act.put, List.setIfInBounds_toArray, List.set_cons_zero, List.set_cons_succ]; rfl
  refine wpK_done ?_
  have c2 := HB6.out.c2
  have c1 := HB6.out.c1
  have c4 := HB6.out.c4
  have f1 := frozen_row HB6.out.g1 1
  have f4 := frozen_row HB6.out.g4 0
  go_wp2_with (first | (go_at_call 80; refine (fail_ok _).mono ?_; rintro e w7 ⟨rfl, rfl⟩))
  ((try simp only [Exit.inBlock, Exit.then]); first | refine bodyPost_end (results_none rfl _ _ _) rfl ?_ | refine bodyPost_ret (results_none rfl _ _ _) rfl ?_)
  have hm7 : Mod (fun k => w0.heap.size + 1 ≤ k ∧ k ≤ w0.heap.size + 4) w6 ((w6.setCell ⟨w0.heap.size + 1, 1, none⟩ (.pointer (some ⟨t, 0, none⟩))).setCell ⟨w0.heap.size + 4, 0, none⟩ (.slice avl y.2.1.length cvl)) := (Mod.set (own := fun k => w0.heap.size + 1 ≤ k ∧ k ≤ w0.heap.size + 4) ⟨by simp, by simp⟩).trans (Mod.set ⟨by simp, by simp⟩)
  have HB7 := hid ((HB6.out.tape' (.pointer (some ⟨t, 0, none⟩))).recs' (.slice avl y.2.1.length cvl))
  have hoth : ∀ k, w0.heap.size + 5 ≤ k → ((w6.setCell ⟨w0.heap.size + 1, 1, none⟩ (.pointer (some ⟨t, 0, none⟩))).setCell ⟨w0.heap.size + 4, 0, none⟩ (.slice avl y.2.1.length cvl)).heap[k]? = w6.heap[k]? := fun k hk => (heap_setCell_other _ ⟨w0.heap.size + 4, 0, none⟩ k _ (by simp only; omega)).trans (heap_setCell_other _ ⟨w0.heap.size + 1, 1, none⟩ k _ (by simp only; omega))
  rw [HXX.out]
  refine ⟨rfl, HM6.out.trans hm7, HB7.out.below, fun _ => ⟨t, _, _, HB7.out, HTP.out.keep (hoth t (by omega)), HP6.out.keepTo (Nat.le_refl _) (fun k hk => hoth k (by omega)) hm7.size, ?_, hzt⟩⟩
  obtain ⟨vs, pb, hrr⟩ := HRC6.out
  exact ⟨vs, pb, hrr.keep (fun k hk _ => hoth k (by omega)) hm7.size⟩
end Go.Proofs.Ytoaeapnkefjpaaa

namespace Go.Proofs.Ytoaeapnkefjpaaa
open Go.RowKit
set_option linter.unusedVariables false
set_option linter.unusedSimpArgs false

/-- The pair at block q: its drum at p, its tape at t. -/
structure PairIn (w : World) (q t p n : Nat) (P : PS) : Prop where
  hq : w.heap[q]? = some (.cells #[.pointer (some ⟨p, 0, none⟩), .pointer (some ⟨t, 0, none⟩), I P.half, I P.sick] 114 (0, 0))
  tape : TapeIn w t p n P.T
  half : P.half ≤ 1
  sick : -9223372036854775808 ≤ P.sick ∧ P.sick ≤ 9223372036854775807
  lt : q < t
  n5 : 5 ≤ n
section
variable {w w' : World} {q t p n : Nat} {P : PS}
theorem PairIn.keep (h : PairIn w q t p n P) (hb : w'.heap[q]? = w.heap[q]?) (ht : w'.heap[t]? = w.heap[t]?) : PairIn w' q t p n P := ⟨hb.trans h.hq, h.tape.keep ht, h.half, h.sick, h.lt, h.n5⟩
theorem PairIn.below (h : PairIn w q t p n P) (hb : Below w.heap.size w w') : PairIn w' q t p n P := h.keep (hb.block q (Array.getElem?_eq_some_iff.1 h.hq).1) (hb.block t h.tape.lt)
theorem PairIn.c0 (h : PairIn w q t p n P) : w.cell? ⟨q, 0, none⟩ = some (.pointer (some ⟨p, 0, none⟩)) := by rw [cell_of_row w q _ _ _ _ h.hq]; rfl
theorem PairIn.c1 (h : PairIn w q t p n P) : w.cell? ⟨q, 1, none⟩ = some (.pointer (some ⟨t, 0, none⟩)) := by rw [cell_of_row w q _ _ _ _ h.hq]; rfl
theorem PairIn.c2 (h : PairIn w q t p n P) : w.cell? ⟨q, 2, none⟩ = some (I P.half) := by rw [cell_of_row w q _ _ _ _ h.hq]; rfl
theorem PairIn.c3 (h : PairIn w q t p n P) : w.cell? ⟨q, 3, none⟩ = some (I P.sick) := by rw [cell_of_row w q _ _ _ _ h.hq]; rfl
end
/-- What Open answers. -/
def POpened (w : World) (p n : Nat) (X : Int × List UInt8 × List (List UInt8) × PS) (e : Ending) (w' : World) : Prop :=
  (X.1 ≠ 0 ∧ e = .returned (.tuple #[.pointer none, .slice none 0 0, .slice none 0 0, I X.1]) ∧ Below w.heap.size w w') ∨
  (X.1 = 0 ∧ ∃ q t vb vl, e = .returned (.tuple #[.pointer (some ⟨q, 0, none⟩), vb, vl, I 0]) ∧ PairIn w' q t p n X.2.2.2 ∧ w.heap.size ≤ q ∧ Part w' (q + 1) vb X.2.1 ∧ Recs w' (t + 1) vl X.2.2.1 ∧ Below w.heap.size w w')
theorem results_tmp4 {fn : Func} {t u v x : Tmp} (h : fn.results = #[.tmp t, .tmp u, .tmp v, .tmp x]) (tmps : Array Value) (P : Program) (w : World) :
    (results fn tmps).run P w = .ok (.tuple #[tmps.getD t undef, tmps.getD u undef, tmps.getD v undef, tmps.getD x undef]) w := by
  simp [results, h]
set_option maxRecDepth 100000 in
theorem popen_nil (w : World) : Calls Try.prog 38 #[.pointer none] w fun e w' => e = .returned (.tuple #[.pointer none, .slice none 0 0, .slice none 0 0, I 2]) ∧ Below w.heap.size w w' := by
  go_enter Try.func38, Try.ntmps38
  go_wp2
  refine bodyPost_ret (results_tmp4 rfl _ _ _) rfl ?_
  exact ⟨rfl, (Below.refl _ _).alloc (Nat.le_refl _) _⟩
set_option maxRecDepth 100000 in
theorem popen_few (w : World) (p : Nat) (own : Nat → Prop) (D : DS) (hd : DrumAt w p own D) (h5 : D.safe.length < 5) : Calls Try.prog 38 #[.pointer (some ⟨p, 0, none⟩)] w fun e w' => e = .returned (.tuple #[.pointer none, .slice none 0 0, .slice none 0 0, I 1]) ∧ Below w.heap.size w w' := by
  have hpg := pages_any (w.alloc (.cells #[.pointer (some ⟨p, 0, none⟩)] 40)) p own D (hd.below ((Below.refl _ _).alloc (Nat.le_refl _) _))
  have hlt : (D.safe.length : Int) < 5 := by omega
  have HPG := hid hpg
  clear hpg hd h5
  generalize (D.safe.length : Int) = n at *
  go_enter Try.func38, Try.ntmps38
  go_wp2_with (first | (go_at_call 60; refine HPG.out.mono ?_; rintro e w1 ⟨rfl, rfl⟩))
  refine bodyPost_ret (results_tmp4 rfl _ _ _) rfl ?_
  exact ⟨rfl, (Below.refl _ _).alloc (Nat.le_refl _) _⟩
set_option maxRecDepth 100000 in
/-- Through Open's door. -/
theorem popen_door (w W : World) (p : Nat) (own : Nat → Prop) (D : DS) (hd : DrumAt w p own D) (h5 : 5 ≤ D.safe.length) (hst : PBorn w p 0 (.pointer none) (.slice none 0 0) (.slice none 0 0) W) (hz : W.heap.size = w.heap.size + 5) :
    Calls Try.prog 77 #[.func (.func 78) #[] #[.pointer (some ⟨w.heap.size, 0, none⟩), .pointer (some ⟨w.heap.size + 2, 0, none⟩), .pointer (some ⟨w.heap.size + 3, 0, none⟩), .pointer (some ⟨w.heap.size + 4, 0, none⟩)]] W fun e w' =>
      e = .returned (I (PS.open_ D).1) ∧ Below w.heap.size w w' ∧ ((PS.open_ D).1 = 0 → PEnd w (w.heap.size + 6) p D.safe.length (PS.open_ D) w') := by
  refine (guard_any W 78 _ (fun c w' => c = (PS.open_ D).1 ∧ Below w.heap.size w w' ∧ w.heap.size + 5 ≤ w'.heap.size ∧ (c = 0 → PEnd w (w.heap.size + 6) p D.safe.length (PS.open_ D) w')) (fun _ => rfl) (fun w1 hb hz1 => ?_)).mono ?_
  · have hb1 := hst.on hb
    cases ho : D.off with
    | true =>
      refine (popen_off w w1 p own D hb1 hd h5 ho).mono fun e w' h => ?_
      have he : (PS.open_ D).1 = 20 := by unfold PS.open_; rw [if_neg (by omega), ho, if_pos rfl]
      refine ⟨20, h.1, ⟨he.symm, hb1.below.trans (h.2.mono hb1.below.size), Nat.le_trans (by omega) h.2.size, fun h => by cases h⟩, h.2.block _ (by omega)⟩
    | false =>
      rw [PS.open_eq D h5 ho]
      refine (popen_on w w1 p own D hb1 hd h5 ho).mono fun e w' h => ?_
      obtain ⟨h1, h2, h3, h4⟩ := h
      rw [show w.heap.size + 6 = w1.heap.size by omega]
      exact ⟨_, h1, ⟨rfl, h3, Nat.le_trans (by omega) h2.size, h4⟩, h2.block _ (by omega) (by omega)⟩
  · rintro e w' ⟨c, w1, rfl, ⟨rfl, hb, hz1, hend⟩, hs, hm⟩
    refine ⟨rfl, hb.trans (hm.below hb.size (fun i hi e => by omega)), fun h0 => ?_⟩
    obtain ⟨t, vb, vl, h1, h2, h3, h4, h5'⟩ := hend h0
    have hoth : ∀ k, k ≠ w.heap.size + 5 → k < w1.heap.size → w'.heap[k]? = w1.heap[k]? := fun k hk hlt => hm.block k hlt (by omega)
    have hl := h1.lt
    refine ⟨t, vb, vl, ⟨(hoth _ (by omega) (by omega)).trans h1.g0, (hoth _ (by omega) (by omega)).trans h1.g1, (hoth _ (by omega) (by omega)).trans h1.g2, (hoth _ (by omega) (by omega)).trans h1.g3, (hoth _ (by omega) (by omega)).trans h1.g4, hb.trans (hm.below hb.size (fun i hi e => by omega))⟩, h2.keep (hoth t (by omega) h2.lt), ?_, ?_, h5'⟩
    · rcases h3 with h | ⟨h0, g, cap, A, hA, hv, ho⟩
      · exact .inl h
      · exact .inr ⟨h0, g, cap, A, hA, hv, own_mod ho (fun k hk => by have := own_lt ho k hk; exact hoth k (by omega) this.2)⟩
    · obtain ⟨vs, pb, hrr⟩ := h4
      exact ⟨vs, pb, hrr.keep (fun k hk hk2 => hoth k (by omega) hk2) hm.size⟩
theorem PBorn.start (w : World) (p : Nat) : PBorn w p 0 (.pointer none) (.slice none 0 0) (.slice none 0 0) (((((w.alloc (.cells #[.pointer (some ⟨p, 0, none⟩)] 40)).alloc (.cells #[.pointer (some ⟨p, 0, none⟩), .pointer none, I 0, I 0] 114)).alloc (.cells #[.pointer (some ⟨w.heap.size + 1, 0, none⟩)] 44)).alloc (.cells #[.slice none 0 0] 23)).alloc (.cells #[.slice none 0 0] 45)) := by
  refine ⟨?_, ?_, ?_, ?_, heap_alloc_at (by simp), ?_⟩
  · refine (Below.heap_alloc _ _ _ (by simp; omega)).trans ((Below.heap_alloc _ _ _ (by simp; omega)).trans ((Below.heap_alloc _ _ _ (by simp; omega)).trans ((Below.heap_alloc _ _ _ (by simp)).trans (heap_alloc_at rfl))))
  · refine (Below.heap_alloc _ _ _ (by simp)).trans ((Below.heap_alloc _ _ _ (by simp)).trans ((Below.heap_alloc _ _ _ (by simp)).trans (heap_alloc_at (by simp))))
  · refine (Below.heap_alloc _ _ _ (by simp)).trans ((Below.heap_alloc _ _ _ (by simp)).trans (heap_alloc_at (by simp)))
  · refine (Below.heap_alloc _ _ _ (by simp)).trans (heap_alloc_at (by simp))
  · exact (((((Below.refl _ _).alloc (Nat.le_refl _) _).alloc (by simp) _).alloc (by simp; omega) _).alloc (by simp; omega) _).alloc (by simp; omega) _
set_option maxRecDepth 100000 in
set_option maxHeartbeats 800000 in
theorem pair_open (w : World) (p : Nat) (own : Nat → Prop) (D : DS) (hd : DrumAt w p own D) (h5 : 5 ≤ D.safe.length) : Calls Try.prog 38 #[.pointer (some ⟨p, 0, none⟩)] w (POpened w p D.safe.length (PS.open_ D)) := by
  have hmf := closes
  have HST := hid (PBorn.start w p)
  have hpg := pages_any (w.alloc (.cells #[.pointer (some ⟨p, 0, none⟩)] 40)) p own D (hd.below ((Below.refl _ _).alloc (Nat.le_refl _) _))
  have hlt : ¬ (D.safe.length : Int) < 5 := by omega
  have hn := hd.ok.n2
  have HPG := hid hpg
  have HD := hid hd
  clear hpg hd
  go_enter Try.func38, Try.ntmps38
  go_wp2_with (first | (go_at_call 60; refine HPG.out.mono ?_; rintro e w1 ⟨rfl, rfl⟩))
  refine (popen_door w _ p own D HD.out h5 HST.out (by simp)).mono ?_
  rintro e w1 ⟨rfl, hb1, hend⟩
  have HB1 := hid hb1
  have HEN := hid hend
  clear hb1 hend HST hlt
  obtain ⟨X, hX⟩ : ∃ X, X = PS.open_ D := ⟨_, rfl⟩
  rw [← hX] at HEN ⊢
  have HX := hid hX
  clear hX
  by_cases h0 : X.1 = 0
  rotate_left
  · have hne : (X.1 != 0) = true := by simpa using h0
    go_wp2
    refine bodyPost_ret (results_tmp4 rfl _ _ _) rfl ?_
    rw [← HX.out]
    exact .inl ⟨h0, rfl, HB1.out⟩
  · have hne : (X.1 != 0) = false := by simpa using h0
    obtain ⟨t, vb, vl, e1, e2, e3, e4, e5⟩ := HEN.out h0
    have k2 : ∀ w', Ext w1.drew w' → w'.cell? ⟨w.heap.size + 2, 0, none⟩ = some (.pointer (some ⟨w.heap.size + 1, 0, none⟩)) := fun w' hh => (e1.on (Ext.trans _ _ _ (Ext.drew w1) hh)).c2
    have k3 : ∀ w', Ext w1.drew w' → w'.cell? ⟨w.heap.size + 3, 0, none⟩ = some vb := fun w' hh => (e1.on (Ext.trans _ _ _ (Ext.drew w1) hh)).c3
    have k4 : ∀ w', Ext w1.drew w' → w'.cell? ⟨w.heap.size + 4, 0, none⟩ = some vl := fun w' hh => (e1.on (Ext.trans _ _ _ (Ext.drew w1) hh)).c4
    have HE := hid (And.intro e1 (And.intro e2 (And.intro e3 (And.intro e4 e5))))
    clear e1 e2 e3 e4 e5 HEN
    go_wp2
    refine wp_region_order Ext [] [(0,0),(1,0),(2,0),(3,0),(4,0),(5,0),(6,0)] _ (by kernel_rfl) rfl Ext.refl Ext.trans (by kernel_rfl) (by simp only [pick, List.getElem?_toArray, List.getElem?_cons_zero, List.getElem?_cons_succ]; rfl) (fun c a d v w h => by cases d <;> exact h) ?_
    refine wpK_q (v := ?_) (a' := ?_) (by rfl) (fun w' hR => ?_) ?_ ?_
    rotate_left 2
    · go_simp; with_reducible rfl
    · simp only [Act.put, List.setIfInBounds_toArray, List.set_cons_zero, List.set_cons_succ]; rfl
    refine wpK_q (v := ?_) (a' := ?_) (by rfl) (fun w' hR => ?_) ?_ ?_
    rotate_left 2
    · go_simp; with_reducible rfl
    · simp only [Act.put, List.setIfInBounds_toArray, List.set_cons_zero, List.set_cons_succ]; rfl
    refine wpK_q (v := ?_) (a' := ?_) (by rfl) (fun w' hR => ?_) ?_ ?_
    rotate_left 2
    · go_simp; with_reducible rfl
    · simp only [Act.put, List.setIfInBounds_toArray, List.set_cons_zero, List.set_cons_succ]; rfl
    refine wpK_q (v := ?_) (a' := ?_) (by rfl) (fun w' hR => ?_) ?_ ?_
    rotate_left 2
    · go_simp; with_reducible rfl
    · simp only [Act.put, List.setIfInBounds_toArray, List.set_cons_zero, List.set_cons_succ]; rfl
    refine wpK_q (v := ?_) (a' := ?_) (by rfl) (fun w' hR => ?_) ?_ ?_
    rotate_left 2
    · go_simp; with_reducible rfl
    · simp only [Act.put, List.setIfInBounds_toArray, List.set_cons_zero, List.set_cons_succ]; rfl
    refine wpK_q (v := ?_) (a' := ?_) (by rfl) (fun w' hR => ?_) ?_ ?_
    rotate_left 2
    · go_simp; with_reducible rfl
    · simp only [Act.put, List.setIfInBounds_toArray, List.set_cons_zero, List.set_cons_succ]; rfl
    refine wpK_q (v := ?_) (a' := ?_) (by rfl) (fun w' hR => ?_) ?_ ?_
    rotate_left 2
    · go_simp; with_reducible rfl
    · simp only [Act.put, List.setIfInBounds_toArray, List.set_cons_zero, List.set_cons_succ]; rfl
    refine wpK_done ?_
    clear k2 k3 k4
    go_wp2
    refine bodyPost_ret (results_tmp4 rfl _ _ _) rfl ?_
    rw [← HX.out]
    obtain ⟨e1, e2, e3, e4, e5⟩ := HE.out
    refine .inr ⟨h0, w.heap.size + 1, t, vb, vl, rfl, ⟨?_, e2.keep rfl, ?_, ?_, by omega, h5⟩, by omega, ?_, ?_, HB1.out.trans ((Ext.drew w1).mono HB1.out.size)⟩
    · have hg := e1.g1
      have hs : X.2.2.2.sick = 0 := by rw [HX.out]; unfold PS.open_; simp only; split; rfl; split; rfl; split; rfl; split; rfl; split; rfl; rfl
      rw [hs]
      exact hg
    · rw [HX.out] at h0 ⊢
      revert h0
      unfold PS.open_
      simp only
      split; (intro h; cases h)
      split; (intro h; cases h)
      split; (intro h; cases h)
      split; (intro h; exact absurd h (by assumption))
      split; (intro h; exact absurd h (by assumption))
      intro _; show PS.root D ≤ 1; omega
    · have hs : X.2.2.2.sick = 0 := by rw [HX.out]; unfold PS.open_; simp only; split; rfl; split; rfl; split; rfl; split; rfl; split; rfl; rfl
      rw [hs]; omega
    · have := e3.below (Ext.drew w1)
      rcases this with h | ⟨h0', g, cap, A, hA, hv, ho⟩
      · exact .inl h
      · exact .inr ⟨h0', g, cap, A, hA, hv, own_anew ho (fun k hk => by have := (own_lt ho k hk).1; omega)⟩
    · obtain ⟨vs, pb, hrr⟩ := e4
      exact ⟨vs, pb, hrr.keep (fun k _ hk => rfl) (Nat.le_refl _)⟩
end Go.Proofs.Ytoaeapnkefjpaaa

namespace Go.Proofs.Ytoaeapnkefjpaaa
open Go.RowKit
set_option linter.unusedVariables false
set_option linter.unusedSimpArgs false

/-- What a call on a pair leaves: its answer, the pair, its drum. -/
def PDone (w : World) (q t p n : Nat) (own : Nat → Prop) (X : Int × DS × PS) (e : Ending) (w' : World) : Prop :=
  e = .returned (I X.1) ∧ PairIn w' q t p n X.2.2 ∧ ∃ own', DrumAt w' p own' X.2.1 ∧ (∀ k, own' k → own k ∨ w.heap.size ≤ k) ∧ Mod (fun k => own k ∨ k = t) w w'
theorem pair_append_nil (w : World) (v : Value) : Calls Try.prog 40 #[.pointer none, v] w fun e w' => e = .returned (I 2) ∧ w = w' := by
  go_enter Try.func40, Try.ntmps40
  go_wp2
  go_ret
  exact ⟨rfl, rfl⟩
theorem pair_count_nil (w : World) : Calls Try.prog 54 #[.pointer none] w fun e w' => e = .returned (I 0) ∧ w = w' := by
  go_enter Try.func54, Try.ntmps54
  go_wp2
  go_ret
  exact ⟨rfl, rfl⟩
theorem pair_count (w : World) (q t p n : Nat) (P : PS) (h : PairIn w q t p n P) : Calls Try.prog 54 #[.pointer (some ⟨q, 0, none⟩)] w fun e w' => e = .returned (I P.T.count) ∧ w = w' := by
  have c1 := h.c1
  have hc := tcount_any w t p n P.T h.tape
  have HC := hid hc
  clear hc h
  go_enter Try.func54, Try.ntmps54
  go_wp2_with (first | (go_at_call 74; refine HC.out.mono ?_; rintro e w1 ⟨rfl, rfl⟩))
  go_ret
  exact ⟨rfl, rfl⟩
set_option maxRecDepth 100000 in
theorem pair_append (w : World) (q t p : Nat) (own : Nat → Prop) (P : PS) (D : DS) (v : Value) (r : List UInt8) (h : PairIn w q t p D.safe.length P) (hd : DrumAt w p own D) (hq : ¬ own q) (ht : ¬ own t) (hv : Sees w v r) (hN : D.waits.length ≤ 800000000) :
    Calls Try.prog 40 #[.pointer (some ⟨q, 0, none⟩), v] w (PDone w q t p D.safe.length own (PS.append D P r)) := by
  have c1 := h.c1
  have c3 := h.c3
  have hap := tappend_any w t p own P.T D v r h.tape hd ht hv hN
  obtain ⟨X, hX⟩ : ∃ X, X = PS.append D P r := ⟨_, rfl⟩
  rw [← hX]
  unfold PS.append at hX
  have HX := hid hX
  have H := hid h
  have HAP := hid hap
  have HD := hid hd
  have HQ := hid hq
  clear hX h hap hd ht hv hq
  by_cases hs : P.sick = 0
  · have hb : (P.sick != 0) = false := by simpa using hs
    have HXX := hid (show X = _ from by rw [HX.out, if_neg (by simpa using hs)])
    clear HX hs
    go_enter Try.func40, Try.ntmps40
    go_wp2_with (first | (go_at_call 66; refine HAP.out.mono ?_; rintro e w1 ⟨rfl, ht1, own', hd1, ho1, hm1⟩; have HZ := hid (And.intro ht1 (And.intro hd1 (And.intro ho1 hm1))); clear ht1 hd1 ho1 hm1))
    go_ret
    obtain ⟨ht1, hd1, ho1, hm1⟩ := HZ.out
    have hql := (Array.getElem?_eq_some_iff.1 H.out.hq).1
    have hlt := H.out.lt
    rw [HXX.out]
    refine ⟨rfl, ⟨(hm1.block q hql (fun e => ?_)).trans H.out.hq, ht1, H.out.half, H.out.sick, H.out.lt, H.out.n5⟩, own', hd1, ho1, hm1⟩
    rcases e with e | e
    · exact HQ.out e
    · omega
  · have hb : (P.sick != 0) = true := by simpa using hs
    have HXX := hid (show X = _ from by rw [HX.out, if_pos (by simpa using hs)])
    clear HX
    go_enter Try.func40, Try.ntmps40
    go_wp2
    go_ret
    rw [HXX.out]
    exact ⟨rfl, H.out, own, HD.out, fun k hk => .inl hk, Mod.refl _ _⟩
end Go.Proofs.Ytoaeapnkefjpaaa

namespace Go.Proofs.Ytoaeapnkefjpaaa
open Go.RowKit
set_option linter.unusedVariables false
set_option linter.unusedSimpArgs false

/-- Save's own blocks. -/
structure SIn (z q : Nat) (vb : Value) (hf a k : Nat) (ba bn : Nat) (W : World) : Prop where
  g0 : W.heap[z]? = some (.cells #[.pointer (some ⟨q, 0, none⟩)] 44 (0, 0))
  g1 : W.heap[z + 1]? = some (.cells #[vb] 23 (0, 0))
  g2 : W.heap[z + 2]? = some (.cells #[I hf] 3 (0, 0))
  ga : W.heap[ba]? = some (.cells #[I a] 3 (0, 0))
  gn : W.heap[bn]? = some (.cells #[I k] 3 (0, 0))
  la : z + 3 ≤ ba ∧ ba ≤ z + 4
  ln : z + 3 ≤ bn ∧ bn ≤ z + 4
section
variable {z q : Nat} {vb : Value} {hf a k ba bn : Nat} {W W' : World}
theorem SIn.keep (h : SIn z q vb hf a k ba bn W) (hk : ∀ j, z ≤ j → j ≤ z + 4 → W'.heap[j]? = W.heap[j]?) : SIn z q vb hf a k ba bn W' :=
  ⟨(hk _ (by omega) (by omega)).trans h.g0, (hk _ (by omega) (by omega)).trans h.g1, (hk _ (by omega) (by omega)).trans h.g2, (hk _ (by have := h.la; omega) (by have := h.la; omega)).trans h.ga, (hk _ (by have := h.ln; omega) (by have := h.ln; omega)).trans h.gn, h.la, h.ln⟩
theorem SIn.c0 (h : SIn z q vb hf a k ba bn W) : W.cell? ⟨z, 0, none⟩ = some (.pointer (some ⟨q, 0, none⟩)) := by rw [cell_of_row W _ _ _ _ _ h.g0]; rfl
theorem SIn.c1 (h : SIn z q vb hf a k ba bn W) : W.cell? ⟨z + 1, 0, none⟩ = some vb := by rw [cell_of_row W _ _ _ _ _ h.g1]; rfl
theorem SIn.c2 (h : SIn z q vb hf a k ba bn W) : W.cell? ⟨z + 2, 0, none⟩ = some (I hf) := by rw [cell_of_row W _ _ _ _ _ h.g2]; rfl
theorem SIn.ca (h : SIn z q vb hf a k ba bn W) : W.cell? ⟨ba, 0, none⟩ = some (I a) := by rw [cell_of_row W _ _ _ _ _ h.ga]; rfl
theorem SIn.cn (h : SIn z q vb hf a k ba bn W) : W.cell? ⟨bn, 0, none⟩ = some (I k) := by rw [cell_of_row W _ _ _ _ _ h.gn]; rfl
end
/-- The state within Save's inner function: begun at W0, over drum blocks own0; the drum's newer blocks lie from bz on. -/
structure SAt (z : Nat) (W0 : World) (q t p n : Nat) (own0 : Nat → Prop) (P : PS) (vb : Value) (hf a k ba bn bz : Nat) (D : DS) (W : World) : Prop where
  sin : SIn z q vb hf a k ba bn W
  pair : PairIn W q t p n P
  drum : ∃ own, DrumAt W p own D ∧ ∀ j, own j → own0 j ∨ bz ≤ j
  mod : Mod own0 W0 W
  lt0 : ∀ j, own0 j → j < z
  ql : q < z
  tl : t < z
  nq : ¬ own0 q
  nt : ¬ own0 t
  zl : z + 5 ≤ W0.heap.size
  bl : W0.heap.size ≤ bz
  len : D.safe.length = n
section
variable {z : Nat} {W0 : World} {q t p n : Nat} {own0 : Nat → Prop} {P : PS} {vb : Value} {hf a k ba bn bz : Nat} {D D' : DS} {W W' : World}
theorem SAt.size (h : SAt z W0 q t p n own0 P vb hf a k ba bn bz D W) : z + 5 ≤ W.heap.size := Nat.le_trans h.zl h.mod.size
theorem SAt.on (h : SAt z W0 q t p n own0 P vb hf a k ba bn bz D W) (hb : Below W.heap.size W W') : SAt z W0 q t p n own0 P vb hf a k ba bn bz D W' := by
  obtain ⟨own, h1, h2⟩ := h.drum
  have hs := h.size
  exact ⟨h.sin.keep (fun j _ hj => hb.block j (by omega)), h.pair.below hb, ⟨own, h1.below hb, h2⟩, h.mod.trans (Mod.of_below _ hb), h.lt0, h.ql, h.tl, h.nq, h.nt, h.zl, h.bl, h.len⟩
theorem SAt.step (h : SAt z W0 q t p n own0 P vb hf a k ba bn bz D W) {own own' : Nat → Prop} (ho : ∀ j, own j → own0 j ∨ bz ≤ j) (hd : DrumAt W' p own' D') (ho' : ∀ j, own' j → own j ∨ W.heap.size ≤ j) (hm : Mod own W W') (hl : D'.safe.length = n) (hz : bz ≤ W.heap.size) : SAt z W0 q t p n own0 P vb hf a k ba bn bz D' W' := by
  have hs := h.size
  have hzl := h.zl
  have hbl := h.bl
  have hql := h.ql
  have htl := h.tl
  have hno : ∀ j, j < bz → ¬ own0 j → ¬ own j := fun j hj h0 ho2 => by rcases ho j ho2 with h3 | h3; exact h0 h3; omega
  have hin : ∀ j, z ≤ j → j ≤ z + 4 → ¬ own j := fun j h1 h2 => hno j (by omega) (fun h0 => by have := h.lt0 j h0; omega)
  refine ⟨h.sin.keep (fun j h1 h2 => hm.block j (by omega) (hin j h1 h2)), h.pair.keep (hm.block q (by omega) (hno q (by omega) h.nq)) (hm.block t (by omega) (hno t (by omega) h.nt)), ⟨own', hd, fun j hj => ?_⟩, ?_, h.lt0, h.ql, h.tl, h.nq, h.nt, h.zl, h.bl, hl⟩
  · rcases ho' j hj with h3 | h3
    · exact ho j h3
    · exact .inr (Nat.le_trans hz h3)
  · refine h.mod.then hm (fun i hi ho2 => ?_)
    rcases ho i ho2 with h3 | h3
    · exact h3
    · omega
end
/-- All the pages' bytes. -/
def PS.all (b : List UInt8) : List UInt8 := PS.framed b ++ List.replicate (PS.takes b.length * 256 - 12 - b.length) 0
theorem PS.all_len (b : List UInt8) : (PS.all b).length = PS.takes b.length * 256 := by
  unfold PS.all
  rw [List.length_append, PS.framed_len, List.length_replicate]
  unfold PS.takes
  omega
theorem PS.paged_eq (b : List UInt8) : PS.paged b = TS.pagesOf (PS.all b) (PS.takes b.length) := rfl
theorem PS.paged_len (b : List UInt8) : (PS.paged b).length = PS.takes b.length := by rw [PS.paged_eq]; unfold TS.pagesOf; simp
theorem PS.paged_at (b : List UInt8) {j : Nat} (hj : j < PS.takes b.length) : (PS.paged b)[j]? = some (((PS.all b).drop (256 * j)).take 256) := by
  rw [PS.paged_eq]; unfold TS.pagesOf
  rw [List.getElem?_map, List.getElem?_range hj]
  rfl
theorem PS.page_len (b : List UInt8) {j : Nat} (hj : j < PS.takes b.length) : (((PS.all b).drop (256 * j)).take 256).length = 256 := by
  rw [List.length_take, List.length_drop, PS.all_len]; omega
/-- What is there when Save's inner function has answered. -/
def SEnd (z : Nat) (W0 : World) (q t p n : Nat) (own0 : Nat → Prop) (P : PS) (X : Int × DS × PS) (W : World) : Prop :=
  ∃ t' own', (t' = t ∨ W0.heap.size ≤ t') ∧ PairIn W q t' p n { X.2.2 with sick := P.sick } ∧ DrumAt W p own' X.2.1 ∧ (∀ j, own' j → own0 j ∨ W0.heap.size ≤ j) ∧ ¬ own' t' ∧ Mod (fun j => own0 j ∨ j = q) W0 W
theorem SAt.bad {z : Nat} {W0 : World} {q t p n : Nat} {own0 : Nat → Prop} {P : PS} {vb : Value} {hf a k ba bn bz : Nat} {D : DS} {W : World} (h : SAt z W0 q t p n own0 P vb hf a k ba bn bz D W) (c : Int) : SEnd z W0 q t p n own0 P (c, D, { P with sick := c }) W := by
  obtain ⟨own, hd, ho⟩ := h.drum
  have h1 := h.zl
  have h2 := h.bl
  have h3 := h.tl
  refine ⟨t, own, .inl rfl, h.pair, hd, fun j hj => (ho j hj).imp id (Nat.le_trans h.bl), fun ht => ?_, h.mod.mono (fun i _ hi => .inl hi)⟩
  rcases ho t ht with h4 | h4
  · exact h.nt h4
  · omega
namespace PS
variable {D D1 D2 D3 D4 D5 : DS} {a hf : Nat} {b : List UInt8} {c : Int}
theorem lay_1 (h1 : TS.wr D a (paged b) = (c, D1)) (hc : c ≠ 0) : lay D a hf b = (c, D1) := by
  unfold lay; simp only [h1]; rw [if_pos hc]
theorem lay_2 (h1 : TS.wr D a (paged b) = (0, D1)) (h2 : D1.write (a + takes b.length : Nat) (List.replicate 256 0) = (c, D2)) (hc : c ≠ 0) : lay D a hf b = (c, D2) := by
  unfold lay; simp only [h1, h2]; rw [if_neg (by simp), if_pos hc]
theorem lay_3 (h1 : TS.wr D a (paged b) = (0, D1)) (h2 : D1.write (a + takes b.length : Nat) (List.replicate 256 0) = (0, D2)) (h3 : D2.Flush = (c, D3)) (hc : c ≠ 0) : lay D a hf b = (c, D3) := by
  unfold lay; simp only [h1, h2, h3]; rw [if_neg (by simp), if_neg (by simp), if_pos hc]
theorem lay_4 (h1 : TS.wr D a (paged b) = (0, D1)) (h2 : D1.write (a + takes b.length : Nat) (List.replicate 256 0) = (0, D2)) (h3 : D2.Flush = (0, D3)) (h4 : D3.write 0 (rootPage hf) = (c, D4)) (hc : c ≠ 0) : lay D a hf b = (c, D4) := by
  unfold lay; simp only [h1, h2, h3, h4]; rw [if_neg (by simp), if_neg (by simp), if_neg (by simp), if_pos hc]
theorem lay_5 (h1 : TS.wr D a (paged b) = (0, D1)) (h2 : D1.write (a + takes b.length : Nat) (List.replicate 256 0) = (0, D2)) (h3 : D2.Flush = (0, D3)) (h4 : D3.write 0 (rootPage hf) = (0, D4)) (h5 : D4.Flush = (c, D5)) : lay D a hf b = (c, D5) := by
  unfold lay; simp only [h1, h2, h3, h4, h5]; rw [if_neg (by simp), if_neg (by simp), if_neg (by simp), if_neg (by simp)]
end PS
end Go.Proofs.Ytoaeapnkefjpaaa
