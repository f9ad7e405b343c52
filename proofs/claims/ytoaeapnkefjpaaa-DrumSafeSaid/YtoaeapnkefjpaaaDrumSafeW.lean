/-
  DrumSafe of layer 3: the plain law and the walk.
-/
import Derived.Test.YtoaeapnkefjpaaaDrumKeepsW
namespace Go.Proofs.Ytoaeapnkefjpaaa.drumSafe
open Go.RowKit
set_option linter.unusedVariables false
set_option linter.unusedSimpArgs false

/-- Writes of pages side by side from b on. -/
def ws (f : UInt8 → List UInt8) (b : Nat) (L : List UInt8) : List (Nat × List UInt8) := L.zipIdx.map fun x => (b + x.2, f x.1)
theorem ws_snoc (f : UInt8 → List UInt8) (b : Nat) (L : List UInt8) (c : UInt8) : ws f b (L ++ [c]) = ws f b L ++ [(b + L.length, f c)] := by
  unfold ws
  rw [List.zipIdx_append]
  simp
theorem ws_take (f : UInt8 → List UInt8) (b : Nat) {L : List UInt8} {j : Nat} (hj : j < L.length) : ws f b (L.take (j + 1)) = ws f b (L.take j) ++ [(b + j, f L[j])] := by
  rw [List.take_succ_eq_append_getElem hj, ws_snoc, List.length_take, Nat.min_eq_left (by omega)]
theorem ws_len (f : UInt8 → List UInt8) (b : Nat) (L : List UInt8) : (ws f b L).length = L.length := by simp [ws]
theorem snoc_ind {P : List UInt8 → Prop} (h0 : P []) (h1 : ∀ a c, P a → P (a ++ [c])) (l : List UInt8) : P l := Sum.snoc_ind h0 h1 l
theorem look_ws (f : UInt8 → List UInt8) (b : Nat) (safe : List (List UInt8)) (k : Nat) (L : List UInt8) : DS.look safe (ws f b L) k = if h : b ≤ k ∧ k < b + L.length then f (L[k - b]'(by omega)) else safe.getD k [] := by
  refine snoc_ind (P := fun L => DS.look safe (ws f b L) k = if h : b ≤ k ∧ k < b + L.length then f (L[k - b]'(by omega)) else safe.getD k []) ?_ (fun a c ih => ?_) L
  · rw [dif_neg (by simp)]
    rfl
  · rw [ws_snoc, DS.look_snoc, ih]
    by_cases e : b + a.length = k
    · subst e
      rw [if_pos rfl, dif_pos ⟨by omega, by simp⟩]
      simp
    · rw [if_neg e]
      by_cases h : b ≤ k ∧ k < b + a.length
      · rw [dif_pos h, dif_pos ⟨h.1, by rw [List.length_append]; omega⟩, List.getElem_append_left (by omega)]
      · rw [dif_neg h, dif_neg (by rw [List.length_append, List.length_singleton]; omega)]
theorem lay_ws (f : UInt8 → List UInt8) (b : Nat) (safe : List (List UInt8)) (x : Int) (k : Nat) (hk : k < safe.length) (L : List UInt8) :
    (DS.lay safe x (ws f b L)).getD k [] = if h : b ≤ k ∧ k < b + L.length then (f (L[k - b]'(by omega))).take (DS.part (DS.rest x (ws f b (L.take (k - b))))) ++ (safe.getD k []).drop (DS.part (DS.rest x (ws f b (L.take (k - b))))) else safe.getD k [] := by
  refine snoc_ind (P := fun L => (DS.lay safe x (ws f b L)).getD k [] = if h : b ≤ k ∧ k < b + L.length then (f (L[k - b]'(by omega))).take (DS.part (DS.rest x (ws f b (L.take (k - b))))) ++ (safe.getD k []).drop (DS.part (DS.rest x (ws f b (L.take (k - b))))) else safe.getD k []) ?_ (fun a c ih => ?_) L
  · rw [dif_neg (by simp)]
    rfl
  · rw [ws_snoc, DS.lay_snoc]
    unfold DS.lay1
    by_cases e : b + a.length = k
    · subst e
      rw [dif_neg (by omega)] at ih
      rw [dif_pos ⟨by omega, by simp⟩]
      have hl : b + a.length < (DS.lay safe x (ws f b a)).length := by rw [DS.lay_len]; exact hk
      simp only [List.getD_eq_getElem?_getD, List.getElem?_set_self hl, Option.getD_some] at ih ⊢
      rw [ih]
      simp
    · have e1 : ((DS.lay safe x (ws f b a)).set (b + a.length) ((f c).take (DS.part (DS.rest x (ws f b a))) ++ ((DS.lay safe x (ws f b a)).getD (b + a.length) []).drop (DS.part (DS.rest x (ws f b a))))).getD k [] = (DS.lay safe x (ws f b a)).getD k [] := by
        simp [List.getD_eq_getElem?_getD, List.getElem?_set, e]
      rw [e1, ih]
      by_cases h : b ≤ k ∧ k < b + a.length
      · have e2 : (a ++ [c]).take (k - b) = a.take (k - b) := by rw [List.take_append_of_le_length (by omega)]
        rw [dif_pos h, dif_pos ⟨h.1, by rw [List.length_append]; omega⟩, List.getElem_append_left (by omega), e2]
      · rw [dif_neg h, dif_neg (by rw [List.length_append, List.length_singleton]; omega)]
def N : DS := DS.new (DS.clamp 64)
theorem n_len : N.safe.length = 64 := by kernel_rfl
/-- A byte with the lowest bit, as the walk spells it. -/
def orv (c : UInt8) : Int := bits .or .u8 (c.toNat : Int) 1
theorem or1 : ∀ n : Fin 256, 0 ≤ bits .or .u8 (n.val : Int) 1 ∧ bits .or .u8 (n.val : Int) 1 < 256 := by decide +kernel
theorem orv_range (c : UInt8) : 0 ≤ orv c ∧ orv c < 256 := or1 ⟨c.toNat, c.toNat_lt⟩
def orb (c : UInt8) : UInt8 := UInt8.ofNat (orv c).toNat
theorem orb_val (c : UInt8) : ((orb c).toNat : Int) = orv c := by
  have := orv_range c
  unfold orb
  rw [UInt8.toNat_ofNat_of_lt' (by simp [UInt8.size]; omega)]; omega
def pg2 (c : UInt8) : List UInt8 := fullPage (orb c)
/-- While it is written. -/
def Wr (safe : List (List UInt8)) (f : UInt8 → List UInt8) (b : Nat) (L : List UInt8) (D : DS) : Prop := D.safe = safe ∧ D.waits = ws f b L ∧ D.off = false ∧ D.armed = 0
theorem wr_write {safe : List (List UInt8)} {f : UInt8 → List UInt8} {b : Nat} {L : List UInt8} {j : Nat} {D : DS} (h : Wr safe f b (L.take j) D) (hj : j < L.length) (hs : b + j < safe.length) (hf : (f L[j]).length = 256) :
    (D.write ((b + j : Nat) : Int) (f L[j])).1 = 0 ∧ Wr safe f b (L.take (j + 1)) (D.write ((b + j : Nat) : Int) (f L[j])).2 := by
  obtain ⟨h1, h2, h3, h4⟩ := h
  rw [DS.write_ok h3 h4 (by rw [h1]; exact hs) hf]
  exact ⟨rfl, h1, by rw [ws_take f b hj, ← h2], h3, h4⟩
/-- What is safe behind the first flush. -/
def S1 (first : List UInt8) : List (List UInt8) := DS.flush N.safe (ws fullPage 0 first)
theorem wr_flush {first : List UInt8} {D : DS} (h : Wr N.safe fullPage 0 first D) : D.Flush.1 = 0 ∧ Wr (S1 first) pg2 32 [] D.Flush.2 := by
  obtain ⟨h1, h2, h3, h4⟩ := h
  rw [DS.flush_ok h3 h4]
  exact ⟨rfl, by show DS.flush D.safe D.waits = _; rw [h1, h2]; rfl, rfl, h3, h4⟩
theorem s1_len (first : List UInt8) : (S1 first).length = 64 := by unfold S1; rw [DS.flush_len, n_len]
theorem s1_get (first : List UInt8) (k : Nat) (hk : k < 64) : (S1 first).getD k [] = if h : k < first.length then fullPage first[k] else fullPage 0 := by
  have e : (S1 first).getD k [] = DS.look (S1 first) [] k := rfl
  rw [e]
  unfold S1
  rw [DS.look_flush _ _ _ (by rw [n_len]; exact hk), look_ws]
  by_cases h : k < first.length
  · rw [dif_pos ⟨by omega, by omega⟩, dif_pos h]
    rfl
  · rw [dif_neg (by omega), dif_neg h]
    exact DS.look_new 64 k hk
/-- Behind both losses of power. -/
def D3 (D : DS) (x y : Int) : DS := ((D.Off x).Off y).On
theorem d3_eq {safe : List (List UInt8)} {thn : List UInt8} {D : DS} (h : Wr safe pg2 32 thn D) (x y : Int) : (D3 D x y).off = false ∧ (D3 D x y).waits = [] ∧ (D3 D x y).safe = DS.lay safe x (ws pg2 32 thn) := by
  obtain ⟨h1, h2, h3, h4⟩ := h
  have e : D.Off x = { D with safe := DS.lay D.safe x D.waits, waits := [], off := true, armed := 0 } := by unfold DS.Off; rw [if_neg (by rw [h3]; decide)]
  have e2 : (D.Off x).Off y = D.Off x := by rw [e]; unfold DS.Off; rw [if_pos rfl]
  unfold D3
  rw [e2, e]
  exact ⟨rfl, rfl, by show DS.lay D.safe x D.waits = _; rw [h1, h2]⟩
theorem d3_read1 {first thn : List UInt8} {D : DS} (h : Wr (S1 first) pg2 32 thn D) (x y : Int) (h1 : first.length ≤ 30) (h2 : thn.length ≤ 30) {j : Nat} (hj : j < first.length) : (D3 D x y).read j = (0, fullPage first[j]) := by
  obtain ⟨g1, g2, g3⟩ := d3_eq h x y
  rw [DS.read_ok g1 (by rw [g3, DS.lay_len, s1_len]; omega), g2]
  congr 1
  show (D3 D x y).safe.getD j [] = _
  rw [g3, lay_ws _ _ _ _ _ (by rw [s1_len]; omega), dif_neg (by omega), s1_get _ _ (by omega), dif_pos hj]
def mixed (c : UInt8) (n : Nat) : List UInt8 := (pg2 c).take n ++ (fullPage 0).drop n
theorem d3_read2 {first thn : List UInt8} {D : DS} (h : Wr (S1 first) pg2 32 thn D) (x y : Int) (h1 : first.length ≤ 30) (h2 : thn.length ≤ 30) {j : Nat} (hj : j < thn.length) : (D3 D x y).read ((32 + j : Nat) : Int) = (0, mixed thn[j] (DS.part (DS.rest x (ws pg2 32 (thn.take j))))) := by
  obtain ⟨g1, g2, g3⟩ := d3_eq h x y
  rw [DS.read_ok g1 (by rw [g3, DS.lay_len, s1_len]; omega), g2]
  congr 1
  show (D3 D x y).safe.getD (32 + j) [] = _
  rw [g3, lay_ws _ _ _ _ _ (by rw [s1_len]; omega), dif_pos ⟨by omega, by omega⟩, s1_get _ _ (by omega), dif_neg (by omega)]
  simp only [Nat.add_sub_cancel_left]
  rfl
theorem rest_step (x : Int) {thn : List UInt8} {j : Nat} (hj : j < thn.length) : DS.rest x (ws pg2 32 (thn.take (j + 1))) = DS.rest x (ws pg2 32 (thn.take j)) - DS.part (DS.rest x (ws pg2 32 (thn.take j))) := by
  rw [ws_take _ _ hj, DS.rest_snoc]
theorem full_or (w : World) (c : UInt8) : Calls Try.prog 57 #[.int .u8 (bits .or .u8 (c.toNat : Int) 1)] w (Fresh w (pg2 c)) := by
  have := full_any w (orb c)
  rw [show B (orb c) = Value.int .u8 (bits .or .u8 (c.toNat : Int) 1) from by show Value.int .u8 _ = _; rw [orb_val]; rfl] at this
  exact this
theorem mixed_len (c : UInt8) (n : Nat) (hn : n ≤ 256) : (mixed c n).length = 256 := by
  unfold mixed pg2
  rw [List.length_append, List.length_take, List.length_drop, fullPage_len, fullPage_len]; omega
set_option maxRecDepth 100000 in
set_option maxHeartbeats 6400000 in
theorem walk (first thn : List UInt8) (a0 a1 : Option Addr) (cap0 cap1 : Nat) (x y : Int) (w : World) (h0 : Sees w (.slice a0 first.length cap0) first) (h1 : Sees w (.slice a1 thn.length cap1) thn)
    (hx : -9223372036854775808 ≤ x ∧ x ≤ 9223372036854775807) (hy : -9223372036854775808 ≤ y ∧ y ≤ 9223372036854775807) :
    Calls Try.prog 10 #[.slice a0 first.length cap0, .slice a1 thn.length cap1, .agg #[.int .i64 x, .int .i64 y]] w fun e w' => e = .returned (.bool true) ∧ Below w.heap.size w w' := by
  have hl0 : first.length ≤ 9223372036854775807 := by obtain ⟨_, _, _, h⟩ := h0.form0; exact h
  have hl1 : thn.length ≤ 9223372036854775807 := by obtain ⟨_, _, _, h⟩ := h1.form0; exact h
  obtain ⟨w0, hw0⟩ : ∃ w0, w0 = w.alloc (.cells #[.int .i64 x, .int .i64 y] 29) := ⟨_, rfl⟩
  have hz : w0.heap.size = w.heap.size + 1 := by rw [hw0]; simp
  have hbel : Below w.heap.size w w0 := by rw [hw0]; exact (Below.refl _ _).alloc (Nat.le_refl _) _
  have cx : w0.cell? ⟨w.heap.size, 0, none⟩ = some (.int .i64 x) := by rw [hw0]; exact cell_of_row (w.alloc (.cells #[.int .i64 x, .int .i64 y] 29)) w.heap.size 0 _ _ _ (heap_alloc_new w _)
  have cy : w0.cell? ⟨w.heap.size, 1, none⟩ = some (.int .i64 y) := by rw [hw0]; exact cell_of_row (w.alloc (.cells #[.int .i64 x, .int .i64 y] 29)) w.heap.size 1 _ _ _ (heap_alloc_new w _)
  have CX := hid cx
  have CY := hid cy
  have V0 := hid (h0.below hbel)
  have V1 := hid (h1.below hbel)
  have BB := hid hbel
  have HZ := hid hz
  clear cx cy h0 h1 hbel hz
  go_enter Try.func10, Try.ntmps10
  by_cases c0 : 30 < first.length
  · go_wp2_with (go_at_call 56; rw [← hw0]; refine (wakes3_any _).mono ?_; rintro e w1 ⟨rfl, hb⟩; have HB := hid hb; clear hb)
    go_ret
    exact ⟨rfl, BB.out.trans (HB.out.mono BB.out.size)⟩
  by_cases c1 : 30 < thn.length
  · go_wp2_with (go_at_call 56; rw [← hw0]; refine (wakes3_any _).mono ?_; rintro e w1 ⟨rfl, hb⟩; have HB := hid hb; clear hb)
    go_ret
    exact ⟨rfl, BB.out.trans (HB.out.mono BB.out.size)⟩
  go_wp2_with (first | (go_at_call 56; rw [← hw0]; refine (wakes3_any _).mono ?_; rintro e w1 ⟨rfl, hb⟩; have HB := hid hb; clear hb hw0) | (go_at_call 36; refine (st_new _ 64 (by omega)).mono ?_; rintro e w2 ⟨p, own, rfl, h⟩; have H := hid (h.back HB.out); clear h HB))
  go_loopw [36] (fun i wr => ∃ (j : Nat) (own : Nat → Prop) (D : DS), j ≤ first.length ∧ i = I j ∧ Hid (St w0 own p D wr) ∧ Hid (Wr N.safe fullPage 0 (first.take j) D)) (fun i _ => first.length - (intOf i).toNat)
  case atStart => exact ⟨0, _, _, Nat.zero_le _, rfl, H, hid ⟨rfl, rfl, rfl, rfl⟩⟩
  case round =>
    clear H
    obtain ⟨j, own, D, hj, rfl, H, HW⟩ := hrel
    by_cases hlt : j < first.length
    · rcases V0.out.open with ⟨rfl, _⟩ | ⟨g, off, cp, hp, hv, hlc, hcap, hc⟩
      · simp at hlt
      simp only [Value.slice.injEq] at hv
      obtain ⟨rfl, -, rfl⟩ := hv
      have hce := hc j first[j] (List.getElem?_eq_getElem hlt)
      have hcell : wr.cell? ⟨g, off + j, none⟩ = some (.int .u8 (first[j].toNat : Int)) := (H.out.below.cell (block_lt_of_cell hce)).trans hce
      have HS := hid (wr_write HW.out hlt (by rw [n_len]; omega) (fullPage_len _))
      have HN := hid (show D.waits.length ≤ 1000000000 by rw [HW.out.2.1, ws_len, List.length_take]; omega)
      clear hce hc
      generalize first[j] = c at *
      go_wp2_with (first | (go_at_call 57; refine (full_any _ c).mono ?_; rintro e w2 ⟨v, rfl, ho, hb⟩; have HV := hid (H.out.apart ho); replace H := hid (H.out.on hb); clear ho hb) | (go_at_call 50; refine (st_write H.out j (by omega) HV.out HN.out).mono ?_; rw [show (j : Int) = ((0 + j : Nat) : Int) from by omega, HS.out.1]; rintro e w3 ⟨rfl, own', h, hO, hM⟩; have HW' := hid HS.out.2; have H' := hid h; clear h hO hM))
      go_roundw
      case rel => exact ⟨j + 1, _, _, by omega, by go_num, H', HW'⟩
      case measure => simp [intOf]; omega
    obtain rfl : j = first.length := by omega
    have HW1 := hid HW.out
    rw [List.take_length] at HW1
    have HF := hid (wr_flush HW1.out)
    clear HW HW1
    go_wp2_with (go_at_call 52; refine (st_flush H.out).mono ?_; rw [HF.out.1]; rintro e w3 ⟨rfl, h, hM⟩; have HWF := hid HF.out.2; have H' := hid h; clear h hM H)
    clear HF
    go_loopw [53] (fun i wr => ∃ (j : Nat) (own : Nat → Prop) (D : DS), j ≤ thn.length ∧ i = I j ∧ Hid (St w0 own p D wr) ∧ Hid (Wr (S1 first) pg2 32 (thn.take j) D)) (fun i _ => thn.length - (intOf i).toNat)
    case atStart => exact ⟨0, _, _, Nat.zero_le _, rfl, H', HWF⟩
    case round =>
      clear H' HWF
      clear own D
      obtain ⟨j, own, D, hj2, rfl, H, HW⟩ := hrel
      by_cases hlt2 : j < thn.length
      · rcases V1.out.open with ⟨rfl, _⟩ | ⟨g, off, cp, hp, hv, hlc, hcap, hc⟩
        · simp at hlt2
        simp only [Value.slice.injEq] at hv
        obtain ⟨rfl, -, rfl⟩ := hv
        have hce := hc j thn[j] (List.getElem?_eq_getElem hlt2)
        have hcell : wr.cell? ⟨g, off + j, none⟩ = some (.int .u8 (thn[j].toNat : Int)) := (H.out.below.cell (block_lt_of_cell hce)).trans hce
        have HS := hid (wr_write HW.out hlt2 (by rw [s1_len]; omega) (fullPage_len _))
        have HN := hid (show D.waits.length ≤ 1000000000 by rw [HW.out.2.1, ws_len, List.length_take]; omega)
        clear hce hc
        generalize thn[j] = c at *
        go_wp2_with (first | (go_at_call 57; refine (full_or _ c).mono ?_; rintro e w2 ⟨v, rfl, ho, hb⟩; have HV := hid (H.out.apart ho); replace H := hid (H.out.on hb); clear ho hb) | (go_at_call 50; refine (st_write H.out (32 + j) (by omega) HV.out HN.out).mono ?_; rw [show (32 + (j : Int)) = ((32 + j : Nat) : Int) from by omega, HS.out.1]; rintro e w3 ⟨rfl, own', h, hO, hM⟩; have HW' := hid HS.out.2; have H' := hid h; clear h hO hM))
        go_roundw
        case rel => exact ⟨j + 1, _, _, by omega, by go_num, H', HW'⟩
        case measure => simp [intOf]; omega
      obtain rfl : j = thn.length := by omega
      have HW1 := hid HW.out
      rw [List.take_length] at HW1
      clear HW
      have cxw : wr.cell? ⟨w.heap.size, 0, none⟩ = some (.int .i64 x) := (H.out.below.cell (block_lt_of_cell CX.out)).trans CX.out
      go_wp2_with (first | (go_at_call 46; have HFLAG := HW1; refine (st_off H.out x hx).mono ?_; rintro e w3 ⟨rfl, h, hM⟩; replace H := hid h; have cyw : w3.cell? ⟨w.heap.size, 1, none⟩ = some (.int .i64 y) := (h.below.cell (block_lt_of_cell CY.out)).trans CY.out; have HR1 := hid (fun (j : Nat) (hj : j < first.length) => d3_read1 HW1.out x y (by omega) (by omega) hj); have HR2 := hid (fun (j : Nat) (hj : j < thn.length) => d3_read2 HW1.out x y (by omega) (by omega) hj); clear h hM HFLAG HW1 cxw) | (go_at_call 46; refine (st_off H.out y hy).mono ?_; rintro e w4 ⟨rfl, h, hM⟩; replace H := hid h; clear h hM cyw) | (go_at_call 48; refine (st_on H.out).mono ?_; rintro e w5 ⟨rfl, h, hM⟩; replace H := hid (show St w0 own p (D3 D x y) _ from h); clear h hM))
      generalize D3 D x y = E at *
      go_loopw [80] (fun i wr => ∃ (j : Nat), j ≤ first.length ∧ i = I j ∧ Hid (St w0 own p E wr)) (fun i _ => first.length - (intOf i).toNat)
      case atStart => exact ⟨0, Nat.zero_le _, rfl, H⟩
      case round =>
        clear H
        obtain ⟨j, hj3, rfl, H⟩ := hrel
        by_cases hlt3 : j < first.length
        · rcases V0.out.open with ⟨rfl, _⟩ | ⟨g, off, cp, hp, hv, hlc, hcap, hc⟩
          · simp at hlt3
          simp only [Value.slice.injEq] at hv
          obtain ⟨rfl, -, rfl⟩ := hv
          have hce := hc j first[j] (List.getElem?_eq_getElem hlt3)
          have hcell : wr.cell? ⟨g, off + j, none⟩ = some (.int .u8 (first[j].toNat : Int)) := (H.out.below.cell (block_lt_of_cell hce)).trans hce
          have HRD := hid (HR1.out j hlt3)
          clear hce hc
          generalize first[j] = c at *
          go_wp2_with (go_at_call 58; refine (st_read H.out j (by omega)).mono ?_; rw [HRD.out]; rintro e w6 ⟨xx, rfl, h, ho, hb⟩; obtain ⟨gx, cx, rfl, -, -, -, -⟩ := drumKeeps.own256 ho (fullPage_len c); have HS := hid (own_sees ho); replace H := hid h; clear h ho hb)
          have k1 : ∀ w', Ext w6.drew w' → (convert 23 9 (.slice (some ⟨gx, 0, none⟩) 256 cx)).run Try.prog w' = .ok (.string (str (fullPage c))) w' := fun w' h => run_str Try.underlying23 Try.underlying5 Try.underlying9 (HS.out.drew.below h)
          refine wp_region_order Ext [] [(0,0),(1,0),(2,0),(3,0),(4,0),(5,0),(6,1),(7,0),(8,0),(9,0)] _ (by kernel_rfl) rfl Ext.refl Ext.trans (by kernel_rfl) (by simp only [pick, List.getElem?_toArray, List.getElem?_cons_zero, List.getElem?_cons_succ]; rfl) (fun c a d v w h => by cases d <;> exact h) ?_
          refine wpK_q (v := ?_) (a' := ?_) (by rfl) (fun w' hR => ?_) ?_ ?_
          rotate_left 2
          · go_simp; with_reducible rfl
          · simp only [Act.put, List.setIfInBounds_toArray, List.set_cons_zero, List.set_cons_succ]; rfl
          refine wpK_q (v := ?_) (a' := ?_) (by rfl) (fun w' hR => ?_) ?_ ?_
          rotate_left 2
          · go_simp; with_reducible rfl
          · simp only [Act.put, List.setIfInBounds_toArray, List.set_cons_zero, List.set_cons_succ]; rfl
          refine wpK_q (v := ?_) (a' := ?_) (by rfl) (fun w' hR => ?_) ?_ ?_
          rotate_left 2
          · go_simp; with_reducible rfl
          · simp only [Act.put, List.setIfInBounds_toArray, List.set_cons_zero, List.set_cons_succ]; rfl
          refine wpK_q (v := ?_) (a' := ?_) (by rfl) (fun w' hR => ?_) ?_ ?_
          rotate_left 2
          · go_simp; with_reducible rfl
          · simp only [Act.put, List.setIfInBounds_toArray, List.set_cons_zero, List.set_cons_succ]; rfl
          refine wpK_q (v := ?_) (a' := ?_) (by rfl) (fun w' hR => ?_) ?_ ?_
          rotate_left 2
          · go_simp; with_reducible rfl
          · simp only [Act.put, List.setIfInBounds_toArray, List.set_cons_zero, List.set_cons_succ]; rfl
          refine wpK_q (v := ?_) (a' := ?_) (by rfl) (fun w' hR => ?_) ?_ ?_
          rotate_left 2
          · go_simp; with_reducible rfl
          · simp only [Act.put, List.setIfInBounds_toArray, List.set_cons_zero, List.set_cons_succ]; rfl
          refine wpK_call Try.func57 (by kernel_rfl) rfl rfl (by rfl) #[.int .u8 c.toNat] (by simp only [List.map_toArray, List.map_cons, List.map_nil]; rfl) ?_
          refine (full_any _ c).mono ?_
          rintro e w7 ⟨v7, rfl, ho, hb⟩
          obtain ⟨g7, c7, rfl, -, -, -, -⟩ := drumKeeps.own256 ho (fullPage_len c)
          have hE : Ext w6.drew w7 := hb
          refine ⟨_, rfl, fun _ => hE, ?_⟩
          have S7 := hid (own_sees ho)
          have k2 : ∀ w', Ext w7 w' → (convert 23 9 (.slice (some ⟨g7, 0, none⟩) 256 c7)).run Try.prog w' = .ok (.string (str (fullPage c))) w' := fun w' h => run_str Try.underlying23 Try.underlying5 Try.underlying9 (S7.out.below h)
          refine wpK_q (v := ?_) (a' := ?_) (by rfl) (fun w' hR => ?_) ?_ ?_
          rotate_left 2
          · go_simp; with_reducible rfl
          · simp only [Act.put, List.setIfInBounds_toArray, List.set_cons_zero, List.set_cons_succ]; rfl
          refine wpK_q (v := ?_) (a' := ?_) (by rfl) (fun w' hR => ?_) ?_ ?_
          rotate_left 2
          · go_simp; with_reducible rfl
          · simp only [Act.put, List.setIfInBounds_toArray, List.set_cons_zero, List.set_cons_succ]; rfl
          refine wpK_q (v := ?_) (a' := ?_) (by rfl) (fun w' hR => ?_) ?_ ?_
          rotate_left 2
          · go_simp; with_reducible rfl
          · simp only [Act.put, List.setIfInBounds_toArray, List.set_cons_zero, List.set_cons_succ]; rfl
          refine wpK_done ?_
          have hb6 : Below w6.heap.size w6 w7 := Ext.trans _ _ _ (Ext.drew w6) hb
          replace H := hid (H.out.on hb6)
          clear k1 k2 S7 ho hb hE hb6 HS
          go_wp2
          go_roundw
          case rel => exact ⟨j + 1, by omega, by go_num, H⟩
          case measure => simp [intOf]; omega
        have kM : ∀ (ats : Array TypeId) (ty : TypeId) (w : World), (Builtin.max_ ats ty #[.int .i64 x, .int .i64 0]).run Try.prog w = .ok (.int .i64 (max x 0)) w := fun ats ty w => run_max ats ty x 0 w
        go_wp2
        clear kM
        go_loopw [106, 17] (fun i lf wr => ∃ (j : Nat) (r : Int), j ≤ thn.length ∧ i = I j ∧ lf = I (max r 0) ∧ (-9223372036854775808 ≤ r ∧ r ≤ 9223372036854775807) ∧ r = DS.rest x (ws pg2 32 (thn.take j)) ∧ Hid (St w0 own p E wr)) (fun i _ _ => thn.length - (intOf i).toNat)
        case atStart => exact ⟨0, x, Nat.zero_le _, rfl, rfl, hx, rfl, H⟩
        case round =>
          clear H
          obtain ⟨j, r, hj4, rfl, rfl, hrr, hr, H⟩ := hrel
          have HR := hid hr
          clear hr
          by_cases hlt4 : j < thn.length
          · rcases V1.out.open with ⟨rfl, _⟩ | ⟨g, off, cp, hp, hv, hlc, hcap, hc⟩
            · simp at hlt4
            simp only [Value.slice.injEq] at hv
            obtain ⟨rfl, -, rfl⟩ := hv
            have hce := hc j thn[j] (List.getElem?_eq_getElem hlt4)
            have hcell : wr.cell? ⟨g, off + j, none⟩ = some (.int .u8 (thn[j].toNat : Int)) := (H.out.below.cell (block_lt_of_cell hce)).trans hce
            have hrd := HR2.out j hlt4
            have hstep := rest_step x hlt4
            rw [← HR.out] at hrd hstep
            obtain ⟨m, hm⟩ : ∃ m : Nat, m = DS.part r := ⟨_, rfl⟩
            rw [← hm] at hrd hstep
            have hm' : (m : Int) = min (max r 0) 256 := by rw [hm]; unfold DS.part; omega
            have HRD := hid hrd
            have HSTEP := hid hstep
            have HM := hid hm'
            have hm1 : m ≤ 256 := by omega
            have hm2 : max r 0 - (m : Int) = max (r - m) 0 := by omega
            have HM2 := hid hm2
            have hm3 : -9223372036854775808 ≤ max r 0 - (m : Int) ∧ max r 0 - (m : Int) ≤ 9223372036854775807 := by omega
            have hm4 : -9223372036854775808 ≤ r - (m : Int) ∧ r - (m : Int) ≤ 9223372036854775807 := by omega
            have km : ∀ (ats : Array TypeId) (ty : TypeId) (w : World), (Builtin.min_ ats ty #[.int .i64 (max r 0), .int .i64 256]).run Try.prog w = .ok (.int .i64 m) w := fun ats ty w => by rw [hm']; exact run_min ats ty _ _ w
            clear hce hc hrd hstep hm hm2 hm'
            generalize thn[j] = c at *
            go_wp2_with (go_at_call 58; refine (st_read H.out (32 + j) (by omega)).mono ?_; rw [show (32 + (j : Int)) = ((32 + j : Nat) : Int) from by omega, HRD.out]; rintro e w6 ⟨xx, rfl, h, ho, hb⟩; obtain ⟨gx, cx, rfl, -, -, -, -⟩ := drumKeeps.own256 ho (mixed_len c m hm1); have HS := hid (own_sees ho); replace H := hid h; clear h ho hb)
            have k1 : ∀ w', Ext w6.drew w' → (convert 23 9 (.slice (some ⟨gx, 0, none⟩) 256 cx)).run Try.prog w' = .ok (.string (str (mixed c m))) w' := fun w' h => run_str Try.underlying23 Try.underlying5 Try.underlying9 (HS.out.drew.below h)
            clear km
            refine wp_region_order Ext [] [(0,0),(1,0),(2,0),(3,0),(4,0),(5,0),(6,0),(8,0),(12,0),(7,1),(9,0),(10,0),(11,1),(13,0),(14,0),(15,0),(16,0),(17,0)] _ (by kernel_rfl) rfl Ext.refl Ext.trans (by kernel_rfl) (by simp only [pick, List.getElem?_toArray, List.getElem?_cons_zero, List.getElem?_cons_succ]; rfl) (fun c a d v w h => by cases d <;> exact h) ?_
            refine wpK_q (v := ?_) (a' := ?_) (by rfl) (fun w' hR => ?_) ?_ ?_
            rotate_left 2
            · go_simp; with_reducible rfl
            · simp only [Act.put, List.setIfInBounds_toArray, List.set_cons_zero, List.set_cons_succ]; rfl
            refine wpK_q (v := ?_) (a' := ?_) (by rfl) (fun w' hR => ?_) ?_ ?_
            rotate_left 2
            · go_simp; with_reducible rfl
            · simp only [Act.put, List.setIfInBounds_toArray, List.set_cons_zero, List.set_cons_succ]; rfl
            refine wpK_q (v := ?_) (a' := ?_) (by rfl) (fun w' hR => ?_) ?_ ?_
            rotate_left 2
            · go_simp; with_reducible rfl
            · simp only [Act.put, List.setIfInBounds_toArray, List.set_cons_zero, List.set_cons_succ]; rfl
            refine wpK_q (v := ?_) (a' := ?_) (by rfl) (fun w' hR => ?_) ?_ ?_
            rotate_left 2
            · go_simp; with_reducible rfl
            · simp only [Act.put, List.setIfInBounds_toArray, List.set_cons_zero, List.set_cons_succ]; rfl
            refine wpK_q (v := ?_) (a' := ?_) (by rfl) (fun w' hR => ?_) ?_ ?_
            rotate_left 2
            · go_simp; with_reducible rfl
            · simp only [Act.put, List.setIfInBounds_toArray, List.set_cons_zero, List.set_cons_succ]; rfl
            refine wpK_q (v := ?_) (a' := ?_) (by rfl) (fun w' hR => ?_) ?_ ?_
            rotate_left 2
            · go_simp; with_reducible rfl
            · simp only [Act.put, List.setIfInBounds_toArray, List.set_cons_zero, List.set_cons_succ]; rfl
            refine wpK_q (v := ?_) (a' := ?_) (by rfl) (fun w' hR => ?_) ?_ ?_
            rotate_left 2
            · go_simp; with_reducible rfl
            · simp only [Act.put, List.setIfInBounds_toArray, List.set_cons_zero, List.set_cons_succ]; rfl
            refine wpK_q (v := ?_) (a' := ?_) (by rfl) (fun w' hR => ?_) ?_ ?_
            rotate_left 2
            · go_simp; with_reducible rfl
            · simp only [Act.put, List.setIfInBounds_toArray, List.set_cons_zero, List.set_cons_succ]; rfl
            refine wpK_q (v := ?_) (a' := ?_) (by rfl) (fun w' hR => ?_) ?_ ?_
            rotate_left 2
            · go_simp; with_reducible rfl
            · simp only [Act.put, List.setIfInBounds_toArray, List.set_cons_zero, List.set_cons_succ]; rfl
            refine wpK_call Try.func57 (by kernel_rfl) rfl rfl (by rfl) #[.int .u8 (bits .or .u8 (c.toNat : Int) 1)] (by simp only [List.map_toArray, List.map_cons, List.map_nil]; rfl) ?_
            refine (full_or _ c).mono ?_
            rintro e wa ⟨va, rfl, hoa, hba⟩
            obtain ⟨ga, ca, rfl, ha1, ha2, -, -⟩ := drumKeeps.own256 hoa (fullPage_len (orb c))
            have hEa : Ext w6.drew wa := hba
            refine ⟨_, rfl, fun _ => hEa, ?_⟩
            have Sa := hid ((own_sees hoa).sl (Nat.zero_le m) (by omega))
            have ka : ∀ w', Ext wa w' → (convert 23 9 (sl (some ⟨ga, 0, none⟩) ca 0 m)).run Try.prog w' = .ok (.string (str (((pg2 c).take m).drop 0))) w' := fun w' h => run_str Try.underlying23 Try.underlying5 Try.underlying9 (Sa.out.below h)
            refine wpK_q (v := ?_) (a' := ?_) (by rfl) (fun w' hR => ?_) ?_ ?_
            rotate_left 2
            · have hh := val_of (run_sl_to (some ⟨ga, 0, none⟩) 256 ca m (by omega) w')
              exact hh
            · simp only [Act.put, List.setIfInBounds_toArray, List.set_cons_zero, List.set_cons_succ]; rfl
            refine wpK_q (v := ?_) (a' := ?_) (by rfl) (fun w' hR => ?_) ?_ ?_
            rotate_left 2
            · go_simp; with_reducible rfl
            · simp only [Act.put, List.setIfInBounds_toArray, List.set_cons_zero, List.set_cons_succ]; rfl
            refine wpK_call Try.func57 (by kernel_rfl) rfl rfl (by rfl) #[.int .u8 0] (by simp only [List.map_toArray, List.map_cons, List.map_nil]; rfl) ?_
            refine (full_any _ 0).mono ?_
            rintro e wb ⟨vb, rfl, hob, hbb⟩
            obtain ⟨gb, cb, rfl, hb1, hb2, -, -⟩ := drumKeeps.own256 hob (fullPage_len 0)
            have hEb : Ext wa wb := hbb
            refine ⟨_, rfl, fun _ => hEb, ?_⟩
            have Sb := hid ((own_sees hob).sl (lo := m) (hi := 256) (by omega) (by omega))
            have kb : ∀ w', Ext wb w' → (convert 23 9 (sl (some ⟨gb, 0, none⟩) cb m 256)).run Try.prog w' = .ok (.string (str (((fullPage 0).take 256).drop m))) w' := fun w' h => run_str Try.underlying23 Try.underlying5 Try.underlying9 (Sb.out.below h)
            have hsz : ¬ (9223372036854775807 < (str ((pg2 c).take m)).size + (str (((fullPage 0).take 256).drop m)).size) := by
              rw [str_size, str_size, List.length_take, List.length_drop, List.length_take, fullPage_len]
              omega
            have hcat : str ((pg2 c).take m) ++ str (((fullPage 0).take 256).drop m) = str (mixed c m) := by
              rw [List.take_of_length_le (show (fullPage 0).length ≤ 256 by rw [fullPage_len]; exact Nat.le_refl _)]
              unfold str mixed
              apply ByteArray.ext
              simp
            refine wpK_q (v := ?_) (a' := ?_) (by rfl) (fun w' hR => ?_) ?_ ?_
            rotate_left 2
            · have hh := val_of (run_sl_from (some ⟨gb, 0, none⟩) 256 cb m (by omega) w')
              exact hh
            · simp only [Act.put, List.setIfInBounds_toArray, List.set_cons_zero, List.set_cons_succ]; rfl
            refine wpK_q (v := ?_) (a' := ?_) (by rfl) (fun w' hR => ?_) ?_ ?_
            rotate_left 2
            · go_simp; with_reducible rfl
            · simp only [Act.put, List.setIfInBounds_toArray, List.set_cons_zero, List.set_cons_succ]; rfl
            refine wpK_q (v := ?_) (a' := ?_) (by rfl) (fun w' hR => ?_) ?_ ?_
            rotate_left 2
            · go_simp; with_reducible rfl
            · simp only [Act.put, List.setIfInBounds_toArray, List.set_cons_zero, List.set_cons_succ]; rfl
            refine wpK_q (v := ?_) (a' := ?_) (by rfl) (fun w' hR => ?_) ?_ ?_
            rotate_left 2
            · go_simp; with_reducible rfl
            · simp only [Act.put, List.setIfInBounds_toArray, List.set_cons_zero, List.set_cons_succ]; rfl
            refine wpK_q (v := ?_) (a' := ?_) (by rfl) (fun w' hR => ?_) ?_ ?_
            rotate_left 2
            · go_simp; with_reducible rfl
            · simp only [Act.put, List.setIfInBounds_toArray, List.set_cons_zero, List.set_cons_succ]; rfl
            refine wpK_done ?_
            have hbA : Below w6.heap.size w6 wb := Ext.trans _ _ _ (Ext.trans _ _ _ (Ext.drew w6) hEa) hEb
            replace H := hid (H.out.on hbA)
            clear k1 ka kb Sa Sb hcat hsz hoa hob hba hbb hEa hEb HS hbA
            go_wp2
            go_roundw
            case rel => exact ⟨j + 1, r - m, by omega, by go_num, by rw [HM2.out], hm4, HSTEP.out.symm, H⟩
            case measure => simp [intOf]; omega
          go_wp2
          go_ret
          exact ⟨rfl, BB.out.trans (H.out.below.mono BB.out.size)⟩
theorem walkAll (a0 : Option Addr) (cap0 : Nat) (first : List UInt8) {w : World} (h0 : Sees w (.slice a0 first.length cap0) first) (a1 : Option Addr) (cap1 : Nat) (thn : List UInt8) (h1 : Sees w (.slice a1 thn.length cap1) thn) (x y : Int)
    (hx : -9223372036854775808 ≤ x ∧ x ≤ 9223372036854775807) (hy : -9223372036854775808 ≤ y ∧ y ≤ 9223372036854775807) (w' : World) (e : w = w') :
    Calls Try.prog 10 #[.slice a0 first.length cap0, .slice a1 thn.length cap1, .agg #[.int .i64 x, .int .i64 y]] w' fun e w'' => e = .returned (.bool true) ∧ Below w'.heap.size w' w'' := by
  subst e
  exact walk first thn a0 a1 cap0 cap1 x y w h0 h1 hx hy
end Go.Proofs.Ytoaeapnkefjpaaa.drumSafe
