/-
  THE LAWS' OWN FUNCTIONS: wakes (7), heavy (8). Conditions: those that each contract names.
-/
import Derived.Test.YtnljmllkfmgclaaMpacPR
namespace Go.Proofs.Ytnljmllkfmgclaa
open Go.RowKit
set_option linter.unusedVariables false
set_option linter.unusedSimpArgs false

def P1 : Pk := { Pk.zero with kind := 4, id := 5 }
def P2 : Pk := { Pk.zero with kind := 3, flags := 2, id := 2, topic := [97], text := [104, 105] }
theorem enc_P1 : Mp.enc P1 = some [64, 2, 0, 5] := by decide +kernel
theorem enc_P2 : Mp.enc P2 = some [50, 7, 0, 1, 97, 0, 2, 104, 105] := by decide +kernel
theorem next_42 : Mp.next [66] = .proto := by rfl
theorem plain_pk (w : World) (P : Pk) (h1 : P.names = []) (h2 : P.codes = []) : PkV w (.agg (pkCells P nil0 nil0)) P :=
  ⟨⟨nil0, nil0, rfl, by rw [h1]; exact SeesV.nil w, by rw [h2]; exact SeesV.nil w⟩, by rw [h1]; simp, by rw [h2]; simp⟩
/-- A packet stored in a block just laid. -/
theorem stored25 (w : World) (P : Pk) (nv cv : Value) : PIn ((w.alloc (.cells (pkCells Pk.zero nil0 nil0) 25)).setCells w.heap.size 0 (pkCells P nv cv).toList) w.heap.size P nv cv ∧ Below w.heap.size w ((w.alloc (.cells (pkCells Pk.zero nil0 nil0) 25)).setCells w.heap.size 0 (pkCells P nv cv).toList) := by
  have hm : Mod (fun k => k = w.heap.size) w ((w.alloc (.cells (pkCells Pk.zero nil0 nil0) 25)).setCells w.heap.size 0 (pkCells P nv cv).toList) := (Mod.alloc _).trans (Mod.setCells (own := fun k => k = w.heap.size) rfl _ _ _)
  exact ⟨(pk_box (w := w) (P := Pk.zero) (nv := nil0) (cv := nil0)).stored P nv cv, hm.below (Nat.le_refl _) (fun i hi => by omega)⟩
set_option maxRecDepth 100000 in
set_option maxHeartbeats 6400000 in
theorem wakes_any (w : World) : Calls Try.prog 7 #[] w fun e w' => e = .returned (.bool true) ∧ Below w.heap.size w w' := by
  have h1 := enc_any w (.agg (pkCells P1 nil0 nil0)) P1 (plain_pk w P1 rfl rfl) (by decide) (by decide)
  rw [enc_P1] at h1
  have h2 := fun w => enc_any w (.agg (pkCells P2 nil0 nil0)) P2 (plain_pk w P2 rfl rfl) (by decide) (by decide)
  rw [enc_P2] at h2
  have h3 := fun w => next_any w [66] (by decide)
  rw [next_42] at h3
  have H1 := hid h1
  have H2 := hid h2
  have H3 := hid h3
  clear h1 h2 h3
  go_enter Try.func7, Try.ntmps7
  go_upto_region 4 with (first | (go_at_call 9; refine H1.out.mono ?_; clear H1; rintro e w1 ⟨hb1, v1, rfl, ho1⟩; obtain ⟨a1, n1, rfl⟩ := own_form ho1; have HB1 := hid hb1; have HO1 := hid ho1; clear hb1 ho1) | (go_at_call 9; refine (H2.out _).mono ?_; clear H2; rintro e w2 ⟨hb2, v2, rfl, ho2⟩; obtain ⟨a2, n2, rfl⟩ := own_form ho2; have HB2 := hid hb2; have HO2 := hid ho2; clear hb2 ho2) | (go_at_call 11; refine (H3.out _).mono ?_; rintro e w3 ⟨hb3, rfl⟩; have HB3 := hid hb3; clear hb3) | (show wpList _ _ _ ({ dst := none, op := Op.store _ (.tmp 5) _, type := _, pos := _, after := _, guard := _ } :: _) _ _; refine wpList_store_by rfl (.tmp 5) (.tmp 20) rfl rfl (.pointer (some ⟨w3.heap.size, 0, none⟩)) (.agg (pkCells Pk.zero nil0 nil0)) rfl rfl ((pk_box (w := w3) (P := Pk.zero) (nv := nil0) (cv := nil0)).store rfl rfl) ?_) | fail)
  have hb4 := (stored25 w3 Pk.zero nil0 nil0).2
  generalize (w3.alloc (.cells (pkCells Pk.zero nil0 nil0) 25)).setCells w3.heap.size 0 (pkCells Pk.zero nil0 nil0).toList = w4 at *
  have ho1 := own_sees' (own_below (own_below (own_below HO1.out HB2.out) HB3.out) hb4) rfl
  have ho2 := own_sees' (own_below (own_below HO2.out HB3.out) hb4) rfl
  have k1 : (convert 28 9 (.slice a1 4 n1)).run Try.prog w4 = .ok (.string (str [64, 2, 0, 5])) w4 := run_str Try.underlying28 Try.underlying5 Try.underlying9 ho1
  have k2 : (convert 28 9 (.slice a2 9 n2)).run Try.prog w4 = .ok (.string (str [50, 7, 0, 1, 97, 0, 2, 104, 105])) w4 := run_str Try.underlying28 Try.underlying5 Try.underlying9 ho2
  have HB : Hid (Below w.heap.size w w4) := hid (HB1.out.trans ((HB2.out.mono HB1.out.size).trans ((HB3.out.mono (Nat.le_trans HB1.out.size HB2.out.size)).trans (hb4.mono (Nat.le_trans (Nat.le_trans HB1.out.size HB2.out.size) HB3.out.size)))))
  clear ho1 ho2 hb4 HB1 HB2 HB3 HO1 HO2 H3
  have q1 : ((str [64, 2, 0, 5]).toList == ([64, 2, 0, 5] : List UInt8)) = true := by rw [str_toList]; rfl
  have q2 : ((str [50, 7, 0, 1, 97, 0, 2, 104, 105]).toList == ([50, 7, 0, 1, 97, 0, 2, 104, 105] : List UInt8)) = true := by rw [str_toList]; rfl
  go_wp2_with fail
  go_ret
  exact ⟨rfl, HB.out⟩
/-- A packet as a value, whatever its size. -/
def PkF (w : World) (v : Value) (P : Pk) : Prop := ∃ nv cv, v = .agg (pkCells P nv cv) ∧ SeesV w nv (P.names.map S) ∧ SeesV w cv (P.codes.map I)
theorem PkV.f {w : World} {v : Value} {P : Pk} (h : PkV w v P) : PkF w v P := h.form
theorem PkF.below {w w' : World} {v : Value} {P : Pk} (h : PkF w v P) (hb : Below w.heap.size w w') : PkF w' v P := by
  obtain ⟨nv, cv, rfl, h1, h2⟩ := h
  exact ⟨nv, cv, rfl, h1.below hb, h2.below hb⟩
theorem PkF.v {w : World} {v : Value} {P : Pk} (h : PkF w v P) (h1 : P.names.length ≤ 1000000000) (h2 : P.codes.length ≤ 1000000000) : PkV w v P := ⟨h, h1, h2⟩
/-- What heavy counts. -/
def Mp.weight (P : Pk) : Nat := P.name.length + P.text.length + P.topic.length + P.codes.length + P.names.length + Mp.sum P.names
theorem Mp.sum_take (ns : List Mp.Bs) (k : Nat) (h : k < ns.length) : Mp.sum (ns.take (k + 1)) = Mp.sum (ns.take k) + ns[k].length := by
  rw [List.take_succ_eq_append_getElem h]
  unfold Mp.sum
  rw [List.map_append, List.sum_append]
  simp only [List.map_cons, List.map_nil, List.sum_cons, List.sum_nil, Nat.add_zero]
/-- What heavy comes to. -/
def Weighed (w : World) (P : Pk) (e : Ending) (w' : World) : Prop := Below w.heap.size w w' ∧ ∃ H : Bool, e = .returned (.bool H) ∧ (H = false → Mp.weight P ≤ 65536)
set_option maxRecDepth 100000 in
set_option maxHeartbeats 6400000 in
theorem heavy_any (w : World) (v : Value) (P : Pk) (h : PkF w v P) (l1 : P.name.length ≤ 140737488355328) (l2 : P.text.length ≤ 140737488355328) (l3 : P.topic.length ≤ 140737488355328) (l4 : P.codes.length ≤ 140737488355328) (l5 : ∀ x ∈ P.names, x.length ≤ 140737488355328) :
    Calls Try.prog 8 #[v] w (Weighed w P) := by
  obtain ⟨nv, cv, rfl, hn, hc⟩ := h
  obtain ⟨an, cn, hnv, hnl⟩ := hn.form
  obtain ⟨ac, cc, hcv, -⟩ := hc.form
  rw [List.length_map] at hnv hcv hnl
  have hp : PIn (w.alloc (.cells (pkCells P nv cv) 25)) w.heap.size P nv cv := pk_box
  have hB : Below w.heap.size w (w.alloc (.cells (pkCells P nv cv) 25)) := (Below.refl _ _).alloc (Nat.le_refl _) _
  obtain ⟨w1, hw1⟩ : ∃ w1, w1 = w.alloc (.cells (pkCells P nv cv) 25) := ⟨_, rfl⟩
  rw [← hw1] at hp hB
  have c4 : w1.cell? ⟨w.heap.size, 4, none⟩ = some (S P.name) := hp.cell 4
  have c5 : w1.cell? ⟨w.heap.size, 5, none⟩ = some (S P.text) := hp.cell 5
  have c8 : w1.cell? ⟨w.heap.size, 8, none⟩ = some (S P.topic) := hp.cell 8
  have c10 : w1.cell? ⟨w.heap.size, 10, none⟩ = some (.slice an P.names.length cn) := (hp.cell 10).trans (by rw [← hnv]; rfl)
  have c11 : w1.cell? ⟨w.heap.size, 11, none⟩ = some (.slice ac P.codes.length cc) := (hp.cell 11).trans (by rw [← hcv]; rfl)
  have s4 := str_size P.name
  have s5 := str_size P.text
  have s8 := str_size P.topic
  have HW := hid hw1
  have HB := hid hB
  have hn1 := hn.below hB
  rw [hnv] at hn1
  have HN := hid hn1
  have HL5 := hid l5
  clear hw1 hB hnv hcv hn hc hp hn1 l5
  go_enter Try.func8, Try.ntmps8
  go_upto_region 1 with (fail)
  rw [← HW.out]
  clear HW
  go_wp2_with fail
  clear c4 c5 c8 c10 c11 s4 s5 s8
  obtain ⟨n0, hn0⟩ : ∃ n0, n0 = P.name.length + P.text.length + P.topic.length + P.codes.length := ⟨_, rfl⟩
  have hn0b : n0 ≤ 562949953421312 := by omega
  have hn0i : ((P.name.length : Int) + (P.text.length : Int) + (P.topic.length : Int) + (P.codes.length : Int)) = (n0 : Int) := by omega
  rw [hn0i]
  have HN0 := hid hn0
  clear hn0 hn0i l1 l2 l3 l4
  go_loop [3, 24] (fun x i => ∃ k : Nat, k ≤ P.names.length ∧ i = I k ∧ x = I ((n0 + k + Mp.sum (P.names.take k) : Nat) : Int) ∧ Hid (k = 0 ∨ n0 + k + Mp.sum (P.names.take k) ≤ 65536)) (fun _ i => P.names.length - (intOf i).toNat)
  case atStart => exact ⟨0, by omega, rfl, by simp [Mp.sum], hid (.inl rfl)⟩
  case round =>
    obtain ⟨k, hk, rfl, rfl, HK⟩ := hrel
    by_cases hlt : k < P.names.length
    · obtain ⟨ao, cp, hv, q1, q2, q3⟩ := HN.out
      simp only [Value.slice.injEq] at hv
      obtain ⟨rfl, -, rfl⟩ := hv
      rw [List.length_map] at q3
      obtain ⟨g, off, rfl, hcell⟩ := q3 (by omega)
      have cnk := hcell k (S P.names[k]) (by rw [List.getElem?_map, List.getElem?_eq_getElem hlt]; rfl)
      have hst := Mp.sum_take P.names k hlt
      have hle := HL5.out _ (List.getElem_mem hlt)
      have hkk := HK.out
      have hzk : k = 0 → Mp.sum (P.names.take k) = 0 := fun e => by rw [e]; simp [Mp.sum]
      have hsz := str_size P.names[k]
      generalize P.names[k] = nm at *
      obtain ⟨X, hX⟩ : ∃ X, X = n0 + k + Mp.sum (P.names.take k) := ⟨_, rfl⟩
      have hXb : X ≤ 562949953421312 := by omega
      have hnext : n0 + (k + 1) + Mp.sum (P.names.take (k + 1)) = X + (1 + nm.length) := by omega
      have HNEXT := hid hnext
      rw [← hX]
      clear hcell q1 q2 q3 hst hkk hzk hX hnext HK
      by_cases hbig : 65536 < X + (1 + nm.length)
      · have hd : decide (65536 < (X : Int) + (1 + (nm.length : Int))) = true := decide_eq_true (by omega)
        go_wp2_with fail
        go_ret
        exact ⟨HB.out, true, rfl, fun h => by cases h⟩
      · have hd : decide (65536 < (X : Int) + (1 + (nm.length : Int))) = false := decide_eq_false (by omega)
        go_wp2_with fail
        go_round
        case rel => exact ⟨k + 1, by omega, by go_num, by rw [HNEXT.out]; go_num, hid (.inr (by rw [HNEXT.out]; omega))⟩
        case measure => simp [intOf]; omega
    · have hkl : k = P.names.length := by omega
      obtain ⟨X, hX⟩ : ∃ X, X = n0 + k + Mp.sum (P.names.take k) := ⟨_, rfl⟩
      have hw : Mp.weight P = X := by
        rw [hX, hkl, List.take_length]
        unfold Mp.weight
        have := HN0.out
        omega
      rw [← hX] at HK ⊢
      have HWT := hid hw
      clear hX hw hkl
      go_wp2_with fail
      go_ret
      exact ⟨HB.out, _, rfl, fun h => by have := of_decide_eq_false h; have := HWT.out; omega⟩
end Go.Proofs.Ytnljmllkfmgclaa
