/-
  TapeKeeps: the walk. Conditions: none beyond the given row's.
-/
import Derived.Test.YtoaeapnkefjpaaaTapeW5
import Derived.Lib.AppendStr
import Derived.Deep.DeepMust
namespace Go.Proofs.Ytoaeapnkefjpaaa
open Go.RowKit
set_option linter.unusedVariables false
set_option linter.unusedSimpArgs false
theorem own_empty (w : World) (e : TypeId) (size : Nat) : (w.alloc (.cells #[] e)).ownsRow w.heap.size e size (.slice (some ⟨w.heap.size, 0, none⟩) 0 0) 0 [] :=
  ⟨by simp, .inr ⟨w.heap.size, 0, #[], rfl, Nat.le_refl _, heap_alloc_new _ _, Nat.le_refl _, by decide, by simp, by simp⟩⟩
/-- The spare room's text. -/
def spare : List UInt8 := [115, 112, 97, 114, 101, 32, 114, 111, 111, 109, 32, 111, 102, 32, 105, 116]
theorem str_spare (r : List UInt8) : str r ++ { data := #[115, 112, 97, 114, 101, 32, 114, 111, 111, 109, 32, 111, 102, 32, 105, 116] } = str (r ++ spare) := by
  apply ByteArray.ext
  rw [ByteArray.data_append]
  simp [str, spare]
theorem TSt.mod {w0 w w' : World} {own : Nat → Prop} {p t : Nat} {T : TS} {D : DS} {g : Nat} (h : TSt w0 own p t T D w) (hm : Mod (fun k => k = g) w w') (h1 : ¬ own g) (h2 : g ≠ t) (h3 : w0.heap.size ≤ g) : TSt w0 own p t T D w' :=
  ⟨⟨h.drum.at'.mod hm (fun k hk e => h1 (e ▸ hk)), h.drum.fresh, h.drum.below.trans (hm.below h.drum.below.size (fun i hi e => by omega))⟩, h.tape.mod hm (fun e => h2 e.symm), h.nt, h.tf⟩
/-- Between two records: the tape, and the list gathered. -/
structure KpB (w wx : World) (p t : Nat) (own : Nat → Prop) (T : TS) (D : DS) (v : Value) (us : List Value) (recs : List (List UInt8)) (i : Nat) : Prop where
  tst : TSt w own p t T D wx
  holds : TS.Holds D T recs
  lo : T.lo = 0
  hi : T.hi = 60
  pos : T.pos ≤ 412 * i
  waits : D.waits.length ≤ 400 * i
  wants : WantsIn w wx (t + 1) v us recs
  nv : ∀ k, v.ownBlock = some k → ¬ own k
theorem KpB.below {w wx wy : World} {p t : Nat} {own : Nat → Prop} {T : TS} {D : DS} {v : Value} {us : List Value} {recs : List (List UInt8)} {i : Nat} (h : KpB w wx p t own T D v us recs i) (hb : Below wx.heap.size wx wy) : KpB w wy p t own T D v us recs i := ⟨h.tst.on hb, h.holds, h.lo, h.hi, h.pos, h.waits, h.wants.below hb, h.nv⟩
/-- An append of what lies in a row apart. -/
theorem KpB.append {w wx : World} {p t : Nat} {own : Nat → Prop} {T : TS} {D : DS} {v : Value} {us : List Value} {recs : List (List UInt8)} {i : Nat} (h : KpB w wx p t own T D v us recs i) {u : Value} {r : List UInt8} (hu : Sees wx u r) (hr : r.length ≤ 400) (hi : i ≤ 31) :
    Calls Try.prog 66 #[.pointer (some ⟨t, 0, none⟩), u] wx fun e w' => e = .returned (I 0) ∧ Mod (fun k => own k ∨ k = t) wx w' ∧ ∃ own' T' D', TSt w own' p t T' D' w' ∧ TS.Holds D' T' (recs ++ [r]) ∧ T'.lo = 0 ∧ T'.hi = 60 ∧ T'.pos ≤ 412 * (i + 1) ∧ D'.waits.length ≤ 400 * (i + 1) ∧ WantsIn w w' (t + 1) v us recs ∧ (∀ k, k < wx.heap.size → ¬ own k → ¬ own' k) := by
  have hsz : T.size = (T.hi - T.lo) * 256 := rfl
  have hlo := h.lo
  have hhi := h.hi
  have hps := h.pos
  have hwt := h.waits
  have hfit : T.pos + 12 + r.length ≤ T.size := by rw [hsz, hlo, hhi]; omega
  obtain ⟨h1, h2, h3, h4, h5⟩ := h.holds.append (r := r) (by omega) hfit
  have hw2 := TS.append_waits D T r
  refine (tst_append h.tst hu (by omega)).mono fun e w' hx => ?_
  obtain ⟨k1, own', k2, k3, k4⟩ := hx
  rw [h1] at k1
  refine ⟨k1, k4, own', _, _, k2, h2, h3.trans hlo, h4.trans hhi, by rw [h5]; omega, by omega, h.wants.keep (fun k hk => k4.block k (own_lt h.wants.row k hk).2 (fun ho => ho.elim (h.nv k hk) (fun e => by have := (own_lt h.wants.row k hk).1; omega))), fun k hk hn ho => (k3 k ho).elim hn (fun h => by omega)⟩
/-- A record taken into the list. -/
theorem tst_push {w wx w1 : World} {p t : Nat} {own : Nat → Prop} {T : TS} {D : DS} {v v' : Value} {us : List Value} {recs : List (List UInt8)} {r : List UInt8} {u : Value} {o : Obj}
    (ht : TSt w own p t T D wx) (hw : WantsIn w wx (t + 1) v us recs) (hnv : ∀ k, v.ownBlock = some k → ¬ own k) (hu : Sees w u r)
    (hown : w1.ownsRow (t + 1) 23 1 v' (recs.length + 1) (us ++ [u])) (hgrow : (wx.alloc o).grownBy w1 v.ownBlock) (hat : v'.ownBlock = v.ownBlock ∨ v'.ownBlock = some (wx.heap.size + 1)) :
    TSt w own p t T D w1 ∧ WantsIn w w1 (t + 1) v' (us ++ [u]) (recs ++ [r]) ∧ (∀ k, v'.ownBlock = some k → ¬ own k) := by
  have hz : (wx.alloc o).heap.size = wx.heap.size + 1 := by simp
  have hkeep : ∀ k, k < wx.heap.size → v.ownBlock ≠ some k → w1.heap[k]? = wx.heap[k]? := fun k hk h1 => (hgrow.block k (by omega) (fun e => h1 e.symm)).trans (Below.heap_alloc wx o k hk)
  have hlt := ht.drum.at'.lt
  have htz := ht.tape.lt
  have hv1 : ∀ k, v.ownBlock = some k → t + 1 ≤ k := fun k hk => (own_lt hw.row k hk).1
  have hww := ht.drum.below.size
  have htf := ht.tf
  refine ⟨⟨⟨ht.drum.at'.keep (fun k hk => hkeep k (hlt k hk) (fun e => (hnv k e) hk)) (by have := hgrow.size; omega), ht.drum.fresh, ht.drum.below.trans ⟨hgrow.os, hgrow.tape, hgrow.output, by have := hgrow.size; omega, fun k hk => hkeep k (by omega) (fun e => by have := hv1 k e; omega)⟩⟩, ht.tape.keep (hkeep t htz (fun e => by have := hv1 t e; omega)), ht.nt, ht.tf⟩, hw.push hu hown, fun k hk => ?_⟩
  rcases hat with h | h
  · exact hnv k (by rw [← h]; exact hk)
  · rw [h] at hk
    have e := Option.some.inj hk
    exact fun ho => by have := hlt k ho; omega
set_option maxRecDepth 100000 in
set_option maxHeartbeats 3200000 in
theorem keeps_walk (w : World) (a0 : Option Addr) (cap0 : Nat) (L : List (List UInt8)) (h0 : Shows w (.slice a0 L.length cap0) L) :
    Calls Try.prog 17 #[.slice a0 L.length cap0] w fun e w' => e = .returned (.bool true) ∧ Below w.heap.size w w' := by
  have H0 := hid h0
  obtain ⟨_, _, _, m0⟩ := h0.len
  unfold maxLen at m0
  clear h0
  by_cases c : 30 < L.length
  · have e0 : decide ((30 : Int) < (L.length : Int)) = true := decide_eq_true (by omega)
    go_enter Try.func17, Try.ntmps17
    go_wp2_with (go_at_call 64; refine (wakes4_any _).mono ?_; rintro e w1 ⟨rfl, hb⟩; have HB := hid hb; clear hb)
    go_ret
    exact ⟨rfl, HB.out⟩
  have e0 : decide ((30 : Int) < (L.length : Int)) = false := decide_eq_false (by omega)
  go_enter Try.func17, Try.ntmps17
  go_wp2_with (first | (go_at_call 64; refine (wakes4_any _).mono ?_; rintro e w1 ⟨rfl, hb⟩; have HB := hid hb; clear hb) | (go_at_call 36; refine (st_new _ 60 (by omega)).mono ?_; rintro e w2 ⟨p, own, rfl, h⟩; have HS := hid (show St w own p (DS.new 60) w2 from h.back HB.out); clear h HB))
  clear e0
  have hon : TS.On (DS.new 60) 0 60 [] := TS.On.new (by omega) (by omega) (by omega) (by omega)
  have hop := tst_open_on (lo := 0) (hi := 60) HS.out hon
  have hop' : Calls Try.prog 65 #[.pointer (some ⟨p, 0, none⟩), I 0, I 60] w2 _ := hop
  refine hop'.mono ?_
  rintro e w3 ⟨t, v, rfl, ht, hlt, hrc, hb⟩
  obtain ⟨ao, co, rfl⟩ := hrc.form
  have HT := hid ht
  have HO := hid hon.holds
  clear hon hop hop' ht hlt hrc hb HS
  rw [List.length_nil]
  go_wp2
  have HTB : Hid (KpB w w3 p t own ⟨0, 60, (TS.encs 0 []).length, ([] : List (List UInt8)).length, 0⟩ (DS.new 60) (.slice none 0 0) [] [] 0) := hid ⟨HT.out, HO.out, rfl, rfl, by simp [TS.encs], by decide, WantsIn.nil _ _ _, fun k hk => by cases hk⟩
  clear HT HO
  go_loopw [7, 35] (fun v i wr => ∃ (k : Nat) (own : Nat → Prop) (T : TS) (D : DS) (us : List Value), k ≤ L.length ∧ i = I k ∧ Hid (KpB w wr p t own T D v us (L.take k) k)) (fun _ i _ => L.length - (intOf i).toNat)
  case atStart => exact ⟨0, _, _, _, _, by omega, rfl, by rw [List.take_zero]; exact HTB⟩
  case round =>
    clear HTB
    obtain ⟨k, own, T, D, us, hk, rfl, HT⟩ := hrel
    by_cases hlt : k < L.length
    · obtain ⟨r, hr⟩ : ∃ r, L[k]? = some r := ⟨_, List.getElem?_eq_getElem hlt⟩
      obtain ⟨g, off, u, hga, hc, hs⟩ := H0.out.at hr
      have hbw := HT.out.tst.drum.below
      have hc' := (World.cell?_of_block (w := w) (a := ⟨g, off + k, none⟩) (hbw.block g (cell_lt hc))).trans hc
      have hs' := hs
      obtain ⟨au, cu, rfl, hul⟩ := hs'.form0
      have HBW := hid hbw
      have HSU := hid hs
      have HR := hid hr
      by_cases h6 : 400 < r.length
      · have h6' : decide ((400 : Int) < (r.length : Int)) = true := decide_eq_true (by omega)
        subst hga
        clear hs' hbw hc hs hr
        go_wp2
        go_ret
        exact ⟨rfl, HBW.out⟩
      · have h6' : decide ((400 : Int) < (r.length : Int)) = false := decide_eq_false (by omega)
        obtain ⟨av, cv, rfl⟩ := own_form HT.out.wants.row
        have hlk : (L.take k).length = k := by rw [List.length_take]; omega
        rw [hlk] at HT
        have HLK := hid hlk
        clear hlk
        subst hga
        clear hs' hbw hc hs hr
        go_upto_region 15 with (fail)
        have HO0 := hid (own_empty wr 5 1)
        have hb0 : Below wr.heap.size wr (wr.alloc (.cells #[] 5)) := (Below.refl _ _).alloc (Nat.le_refl _) _
        have HSa := hid ((HSU.out.below HBW.out).below hb0)
        have HB0 := hid hb0
        clear hb0
        go_wp2_with (at_builtin; refine wpList_app rfl (.tmp 42) (.tmp 43) 23 rfl wr.heap.size 5 (.int .u8 0) 1 1 Try.underlying23 info5 rfl (by decide) 0 [] r.length (r.map B) HO0.out HSa.out.src ?h63 ?hb ?hbase ?_)
        case h63 => unfold maxLen; omega
        case hb => omega
        case hbase => simp
        intro v2 wb hown hgrow hat
        replace hown : wb.ownsRow wr.heap.size 5 1 v2 r.length (r.map B) := own_len hown (by simp) (by simp)
        have HO2 := hid hown
        have HB2 := hid (HB0.out.grown hgrow (by simp) (fun j hj => by cases hj; exact Nat.le_refl _))
        obtain ⟨av2, cv2, rfl⟩ := own_form hown
        have hs2 : wr.heap.size ≤ wb.heap.size := HB2.out.size
        clear hown hgrow hat HO0 HSa HB0
        obtain ⟨i5, hi5, hz5, hs5, hb5⟩ := info_parts info5'
        go_wp2_with (at_builtin; go_must (refine Lib.wpList_append_own_string wb rfl (.tmp 44) _ 23 9 rfl wr.heap.size 5 i5 Try.underlying23 Try.underlying9 hi5 hz5 hs5 hb5 (.slice av2 r.length cv2) r.length (r.map B) rfl HO2.out _ rfl ?h63 ?hb hs2 ?_))
        case h63 => show r.length + 16 ≤ maxLen; unfold maxLen; omega
        case hb => show r.length + 16 ≤ 140737488355328; omega
        intro v3 wc hown hgrow hnn
        have hsp : Lib.strCells { data := #[115, 112, 97, 114, 101, 32, 114, 111, 111, 109, 32, 111, 102, 32, 105, 116] } = spare.map B := by kernel_rfl
        rw [hsp, ← List.map_append] at hown
        replace hown : wc.ownsRow wr.heap.size 5 1 v3 (r.length + 16) ((r ++ spare).map B) := hown
        have HB3 := hid (HB2.out.grown hgrow hs2 (fun j hj => (own_lt HO2.out j hj).1))
        obtain ⟨g3, cap3, rfl, q1, q2, q3, q4⟩ := own_slice hown (by omega)
        have hlen3 : (r ++ spare).length = r.length + 16 := by rw [List.length_append]; rfl
        have hsm := own_sees' hown hlen3
        have hst := hsm.take r.length (by omega)
        rw [List.take_left' rfl] at hst
        have hkb := HT.out.below HB3.out
        have hap := hkb.append hst (by omega) (by omega)
        have HAP := hid hap
        have HO3 := hid hown
        have HG := hid (And.intro q3 q4)
        have hng : ¬ own g3 := fun ho => by have := HT.out.tst.drum.at'.lt g3 ho; omega
        have hgt : g3 ≠ t := fun e => by have := HT.out.tst.tape.lt; omega
        have HNG := hid (And.intro hng hgt)
        have hcapn : (r.length : Int) ≤ (cap3 : Int) := by omega
        clear hown hgrow hnn hsp hsm hst hkb hap HO2 HB2 hs2 q1 q3 q4 hng hgt hi5 hz5 hs5 hb5
        go_upto_region 17 with (go_at_call 66; refine HAP.out.mono ?_; rintro e w5 ⟨rfl, x1, own', T', D', x2, x3, x4, x5, x6, x7, x8, x9⟩; have X := hid (And.intro x1 (And.intro x2 (And.intro x3 (And.intro x4 (And.intro x5 (And.intro x6 (And.intro x7 (And.intro x8 x9)))))))); clear x1 x2 x3 x4 x5 x6 x7 x8 x9)
        obtain ⟨x1, x2, x3, x4, x5, x6, x7, x8, x9⟩ := X.out
        have hm5 : w5.ownsRow wr.heap.size 5 1 (.slice (some ⟨g3, 0, none⟩) (r.length + 16) cap3) (r.length + 16) ((r ++ spare).map B) := own_mod HO3.out (fun j hj => x1.block j (own_lt HO3.out j hj).2 (fun ho => by
          have e : g3 = j := Option.some.inj hj
          subst e
          exact ho.elim HNG.out.1 HNG.out.2))
        have hlen3 : (r ++ spare).length = r.length + 16 := by rw [List.length_append]; rfl
        have k1 := run_str (P := Try.prog) Try.underlying23 Try.underlying5 Try.underlying9 (own_sees' hm5 hlen3)
        have k2 := run_str (P := Try.prog) Try.underlying23 Try.underlying5 Try.underlying9 (HSU.out.below x2.drum.below)
        have HM5 := hid hm5
        clear hlen3 hm5 x1 x2 x3 x4 x5 x6 x7 x8 x9 HO3 HAP
        have hcat := str_spare r
        have hsz : ¬ 9223372036854775807 < (str r).size + 16 := by rw [str_size]; omega
        go_upto_region 19 with (fail)
        clear k1 k2 hcat hsz
        go_wp2
        go_loopw [64] (fun i wx => ∃ j : Nat, j ≤ r.length + 16 ∧ i = I j ∧ Hid (Loose wx wr.heap.size (.slice (some ⟨g3, 0, none⟩) (r.length + 16) cap3) (r.length + 16)) ∧ Hid (Mod (fun k => k = g3) w5 wx)) (fun i _ => r.length + 16 - (intOf i).toNat)
        case atStart => exact ⟨0, by omega, rfl, hid ⟨r ++ spare, by rw [List.length_append]; rfl, HM5.out⟩, hid (Mod.refl _ _)⟩
        case round =>
          obtain ⟨j, hj, rfl, HL, HM⟩ := hrel
          by_cases hjl : j < r.length + 16
          · have f1 : decide ((j : Int) < (r.length : Int) + 16) = true := decide_eq_true (by omega)
            obtain ⟨bs, hbl, hbr⟩ := HL.out
            have hcell := own_cell hbr (i := j) (u := B (bs[j]'(by omega))) (by rw [List.getElem?_map, List.getElem?_eq_getElem (by omega)]; rfl)
            have hfr := own_frozen hbr j
            generalize (bs[j]'(by omega)) = c0 at hcell
            have HL2 := hid (HL.out.set g3 j 0)
            have HM2 := hid (HM.out.trans (Mod.set (own := fun k => k = g3) (w := wr) (a := ⟨g3, j, none⟩) (u := B 0) rfl))
            clear hbr hbl
            go_wp2
            go_roundw
            case rel => exact ⟨j + 1, by omega, by go_num, HL2, HM2⟩
            case measure => simp [intOf]; omega
          · have hje : j = r.length + 16 := by omega
            have f1 : decide ((j : Int) < (r.length : Int) + 16) = false := decide_eq_false (by omega)
            clear hje hj hjl
            obtain ⟨x1, x2, x3, x4, x5, x6, x7, x8, x9⟩ := X.out
            have y1 := x2.mod HM.out (x9 g3 HG.out.2 HNG.out.1) HNG.out.2 (by have := HBW.out.size; have := HG.out.1; omega)
            have y2 := x8.keep (fun q hq => HM.out.block q (own_lt x8.row q hq).2 (fun e => by have := (own_lt HT.out.wants.row q hq).2; have := HG.out.1; omega))
            have y3 : ∀ q, (Value.slice av k cv).ownBlock = some q → ¬ own' q := fun q hq => x9 q (by have := (own_lt HT.out.wants.row q hq).2; have := HG.out; omega) (HT.out.nv q hq)
            have htl := y1.tape.lt
            have HY := hid (And.intro y1 (And.intro y2 y3))
            have HX := hid (And.intro x3 (And.intro x4 (And.intro x5 (And.intro x6 x7))))
            clear x1 x2 x3 x4 x5 x6 x7 x8 x9 X y1 y2 y3 HL HM HM5 HG HNG HT HBW
            go_wp2_with (at_builtin; go_must (refine wpList_app rfl (.tmp 71) (.tmp 73) 45 rfl (t + 1) 23 (.slice none 0 0) 1 24 Try.underlying45 info23t rfl (by decide) k us 1 [.slice au r.length cu] ((own_len HY.out.2.1.row HLK.out rfl).alloc _) (Src.new wr 1 23 [_] rfl (fun x hx => by obtain rfl := List.mem_singleton.1 hx; rfl)) ?h63 ?hb ?hbase ?_))
            case h63 => unfold maxLen; omega
            case hb => omega
            case hbase => simp; omega
            intro v' w8 hown hgrow hat
            obtain ⟨y1, y2, y3⟩ := tst_push HY.out.1 HY.out.2.1 HY.out.2.2 HSU.out (own_len hown (by rw [HLK.out]) rfl) hgrow hat
            have HNX : Hid (KpB w w8 p t own' T' D' v' (us ++ [.slice au r.length cu]) (L.take (k + 1)) (k + 1)) := hid ⟨y1, by rw [take_snoc HR.out]; exact HX.out.1, HX.out.2.1, HX.out.2.2.1, HX.out.2.2.2.1, HX.out.2.2.2.2, by rw [take_snoc HR.out]; exact y2, y3⟩
            obtain ⟨av', cv', rfl⟩ := own_form hown
            clear hown hgrow hat y1 y2 y3 HY HX HSU htl HR HLK
            go_wp2
            go_roundw
            case rel => exact ⟨k + 1, own', T', D', _, by omega, by go_num, HNX⟩
            case measure => simp [intOf]; omega
    · have hke : k = L.length := by omega
      subst hke
      obtain ⟨av, cv, rfl⟩ := own_form HT.out.wants.row
      have hon := HT.out.holds.on
      rw [HT.out.lo, HT.out.hi, List.take_length] at hon
      have hop := tst_open_on (lo := 0) (hi := 60) HT.out.tst.drum hon
      have hop' : Calls Try.prog 65 #[.pointer (some ⟨p, 0, none⟩), I 0, I 60] wr _ := hop
      have HOP := hid hop'
      have HON := hid hon
      clear hon hop hop' hk hlt
      go_wp2_with (go_at_call 65; refine HOP.out.mono ?_; rintro e w5 ⟨t2, v2, rfl, ht2, hlt2, hrc2, hb2⟩; obtain ⟨vs, pb, hrc2⟩ := hrc2; obtain ⟨ao2, co2, rfl⟩ := own_form hrc2.row; have HR2 := hid hrc2; have HT2 := hid ht2; have HB2 := hid hb2; have HLT := hid hlt2; clear ht2 hlt2 hrc2 hb2)
      clear HOP
      generalize hwz : wr = wz at *
      clear hwz
      go_loopw [84] (fun i wx => ∃ j : Nat, j ≤ L.length ∧ i = I j ∧ Hid (LooseRecs wx (t2 + 1) (.slice ao2 L.length co2) vs L) ∧ Hid (Below (t2 + 1) w5 wx)) (fun i _ => L.length - (intOf i).toNat)
      case atStart => exact ⟨0, by omega, rfl, hid (LooseRecs.of HR2.out), hid (Below.refl _ _)⟩
      case round =>
        clear HR2
        obtain ⟨j, hj, rfl, HL, HB⟩ := hrel
        by_cases hjl : j < L.length
        · have f1 : decide ((j : Int) < (L.length : Int)) = true := decide_eq_true (by omega)
          obtain ⟨r, hr⟩ : ∃ r, L[j]? = some r := ⟨_, List.getElem?_eq_getElem hjl⟩
          have hrs : r.length ≤ 65536 := HON.out.small r (List.mem_of_getElem? hr)
          have HR := hid hr
          obtain ⟨G, u, rfl, hu, hcu, hlo, hou⟩ := HL.out.at hr
          obtain ⟨au, cu, rfl⟩ := hlo.form
          have HU := hid hu
          clear hr hlo hou hu
          go_wp2
          go_loopw [92] (fun i wy => ∃ m : Nat, m ≤ r.length ∧ i = I m ∧ Hid (LooseRecs wy (t2 + 1) (.slice (some ⟨G, 0, none⟩) L.length co2) vs L) ∧ Hid (Below (t2 + 1) w5 wy)) (fun i _ => r.length - (intOf i).toNat)
          case atStart => exact ⟨0, by omega, rfl, HL, HB⟩
          case round =>
            clear HL HB
            obtain ⟨m, hm, rfl, HL, HB⟩ := hrel
            by_cases hmr : m < r.length
            · have f2 : decide ((m : Int) < (r.length : Int)) = true := decide_eq_true (by omega)
              clear hcu
              obtain ⟨G', u', e1, hu', hcu, hlo, hou⟩ := HL.out.at HR.out
              simp only [Option.some.injEq, Addr.mk.injEq, and_true] at e1
              subst e1
              rw [HU.out] at hu'
              obtain rfl := Option.some.inj hu'
              obtain ⟨g, c0, rfl, hgc, hcell, hfr⟩ := hlo.at hmr
              have hgo := hou g rfl
              have HL2 := hid (HL.out.set hgo.1 m 1)
              have HB2' := hid (HB.out.setCell (p := ⟨g, m, none⟩) hgo.2 (B 1))
              clear hlo hou hgo hu'
              go_wp2
              go_roundw
              case rel => exact ⟨m + 1, by omega, by go_num, HL2, HB2'⟩
              case measure => simp [intOf]; omega
            · have f2 : decide ((m : Int) < (r.length : Int)) = false := decide_eq_false (by omega)
              clear hcu
              go_wp2
              go_roundw
              case rel => exact ⟨j + 1, by omega, by go_num, HL, HB⟩
              case measure => simp [intOf]; omega
        · have f1 : decide ((j : Int) < (L.length : Int)) = false := decide_eq_false (by omega)
          have hst := HT2.out.drum.keepBelow (n := t2 + 1) (fun q hq => by have := HT.out.tst.drum.at'.lt q hq; have := HLT.out; omega) (by have := HT.out.tst.drum.below.size; have := HLT.out; omega) HB.out
          have hwn := (HT.out.wants.below HB2.out).keep (w' := wr) (fun q hq => HB.out.block q (by have := (own_lt HT.out.wants.row q hq).2; have := HLT.out; omega))
          rw [List.take_length] at hwn
          have hop := tst_open_on (lo := 0) (hi := 60) hst HON.out
          have hop' : Calls Try.prog 65 #[.pointer (some ⟨p, 0, none⟩), I 0, I 60] wr _ := hop
          have HOP := hid hop'
          have HWN := hid hwn
          clear hop hop' hst hwn HL HB
          go_wp2_with (go_at_call 65; refine HOP.out.mono ?_; rintro e w6 ⟨t3, v3, rfl, ht3, hlt3, hrc3, hb3⟩; obtain ⟨ao3, co3, rfl⟩ := hrc3.form; have HSH := hid hrc3.shows; have HT3 := hid ht3; have HB3 := hid hb3; clear ht3 hlt3 hrc3 hb3)
          have hal := alike_any w6 _ _ L L HSH.out ((HWN.out.below HB3.out).shows HT3.out.drum.below)
          rw [decide_eq_true rfl] at hal
          have HAL := hid hal
          have HBW := hid HT3.out.drum.below
          clear hal
          go_wp2_with (go_at_call 67; refine HAL.out.mono ?_; rintro e w7 ⟨rfl, m7, rfl⟩)
          go_ret
          exact ⟨rfl, HBW.out.trans ((below_drewN _ _).mono HBW.out.size)⟩
namespace tapeKeeps
theorem walkAll (a0 : Option Addr) (cap0 : Nat) (L : List (List UInt8)) {w : World} (h0 : Shows w (.slice a0 L.length cap0) L) (w' : World) (e : w = w') :
    Calls Try.prog 17 #[.slice a0 L.length cap0] w' fun e w'' => e = .returned (.bool true) ∧ Below w'.heap.size w' w'' := by
  subst e
  exact keeps_walk w a0 cap0 L h0
end tapeKeeps
end Go.Proofs.Ytoaeapnkefjpaaa
