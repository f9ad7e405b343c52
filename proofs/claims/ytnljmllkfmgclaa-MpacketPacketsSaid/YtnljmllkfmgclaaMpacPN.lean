/-
  THE PROGRAM: rest (14), of the kind 3. Conditions: those that each contract names.
-/
import Derived.Test.YtnljmllkfmgclaaMpacPM
namespace Go.Proofs.Ytnljmllkfmgclaa
open Go.RowKit
set_option linter.unusedVariables false
set_option linter.unusedSimpArgs false

set_option maxRecDepth 100000 in
set_option maxHeartbeats 6400000 in
theorem rest_3 (w : World) (v : Value) (P : Pk) (f : Nat) (h : PkV w v P) (hk : P.kind = 3) (hf : P.flags = (f : Int)) (hf2 : f < 16) (hb : P.name.length + P.text.length + P.topic.length ≤ 100000000) : Calls Try.prog 14 #[v] w (Fresh w (Mp.rest P)) := by
  obtain ⟨⟨nv, cv, rfl, hn, hc⟩, bn, bc⟩ := h
  have hr : Mp.rest P = Mp.put P.topic ++ (if 0 < P.flags / 2 % 4 then Mp.be2 P.id else []) ++ P.text := by
    unfold Mp.rest
    rw [if_neg (by omega), if_neg (by omega), if_pos hk]
  obtain ⟨L, hL⟩ : ∃ L, L = Mp.rest P := ⟨_, rfl⟩
  rw [← hL]
  have HL := hid (hL.trans hr)
  clear hL hr
  rw [hf] at HL
  have hS := rest_start hn hc
  have e1 := b1_wrap (P.id / 256)
  have e2 := b1_wrap P.id
  generalize Mp.b1 (P.id / 256) = a at *
  generalize Mp.b1 P.id = c at *
  obtain ⟨w1, hw1⟩ : ∃ w1, w1 = w.alloc (.cells (pkCells P nv cv) 25) := ⟨_, rfl⟩
  obtain ⟨w2, hw2⟩ : ∃ w2, w2 = w1.alloc (.cells #[B a, B c] 5) := ⟨_, rfl⟩
  have c2 : w1.cell? ⟨w.heap.size, 2, none⟩ = some (I P.id) := by rw [hw1, cell_of_row _ _ _ _ _ _ (heap_alloc_new w _)]; rfl
  have hz : w1.heap.size = w.heap.size + 1 := by rw [hw1]; simp
  rw [← hw1, ← hw2] at hS
  have c0 : w2.cell? ⟨w.heap.size, 0, none⟩ = some (I P.kind) := hS.pk.cell 0
  have HW1 := hid hw1
  have HW2 := hid hw2
  have HS := hid hS
  clear hw1 hw2 hS
  have c8 : w2.cell? ⟨w.heap.size, 8, none⟩ = some (S P.topic) := HS.out.pk.cell 8
  rw [hk] at c0
  clear hk
  go_enter Try.func14, Try.ntmps14
  go_upto_region 2 with (fail)
  rw [← HW1.out]
  go_upto_region 3 with (fail)
  rw [← HW2.out]
  clear c2 e1 e2 hz HW1 HW2
  obtain ⟨b, hbb⟩ : ∃ b, b = w.heap.size := ⟨_, rfl⟩
  have hG := HS.out.grown
  have hidr := HS.out.idr
  have hsz := HS.out.size
  rw [← hbb] at hG hidr hsz c0 c8 ⊢
  have hsz2 := hG.lt
  have HG := hid hG
  have HI := hid hidr
  have HBB := hid hbb
  have HSZ := hid hsz
  clear hG hidr hsz hbb
  have hput := puts_any w2 w2.heap.size (.slice none 0 0) [] P.topic (World.ownsRow_nil _ _ _ _) (Nat.le_refl _) (by simp only [List.length_nil]; omega)
  have HPUT := hid hput
  clear hput
  go_upto_region 13 with (first | (go_at_call 26; refine HPUT.out.mono ?_; rintro e w3 ⟨v3, rfl, ho3, hb3⟩; have HO3 := hid ho3; have HB3 := hid hb3; clear ho3 hb3) | fail)
  have HG3 : Hid (Grown w w3 b P nv cv v3 ([] ++ Mp.put P.topic)) := hid (HG.out.keep (HB3.out.mono hsz2) (own_anew HO3.out (fun k hk => by have := (own_lt HO3.out k hk).1; omega)))
  have HS3 := hid ((own_sees' HI.out rfl).below HB3.out)
  have HLN : Hid (([] ++ Mp.put P.topic : List UInt8).length = 2 + P.topic.length) := hid (by rw [List.nil_append, Mp.put_len])
  obtain ⟨l3, hl3⟩ : ∃ l3 : List UInt8, l3 = [] ++ Mp.put P.topic := ⟨_, rfl⟩
  rw [← hl3] at HG3 HLN
  have HL3 := hid hl3
  clear hl3
  have c1 : w3.cell? ⟨b, 1, none⟩ = some (I f) := by rw [← hf]; exact HG3.out.pk.cell 1
  have c5 : w3.cell? ⟨b, 5, none⟩ = some (S P.text) := HG3.out.pk.cell 5
  have h3 := and3 f hf2
  have hlt3 := HG3.out.lt
  obtain ⟨i5, hi5, hz5, hs5, hb5⟩ := info_parts info5
  clear c0 c8 HO3 HB3 HPUT HI HG
  have hff : ((f : Int) / 2 % 4) = ((f / 2 % 4 : Nat) : Int) := by omega
  rw [hff] at HL
  clear hff
  generalize f / 2 % 4 = X at *
  by_cases hX : 0 < X
  · rw [if_pos (by omega)] at HL
    have hd : decide ((0 : Int) < (X : Int)) = true := decide_eq_true (by omega)
    have HX := hid hX
    clear hX
    go_wp2_with (at_builtin; go_must (refine wpList_app rfl (.tmp 63) (.tmp 64) 28 rfl (b + 1) 5 (.int .u8 0) 1 1 Try.underlying28 info5 rfl (by decide) _ _ 2 ((Mp.be2 P.id).map B) HG3.out.row HS3.out.src ?h63 ?hb ?hbase ?_))
    case h63 => have := HLN.out; unfold maxLen; omega
    case hb => have := HLN.out; omega
    case hbase => exact hlt3
    intro v4 w4 hown hgrow hat
    have HG4 : Hid (Grown w w4 b P nv cv v4 (l3 ++ Mp.be2 P.id)) := hid (HG3.out.keep (below_grown hgrow HG3.out.lt (fun k hk => (own_lt HG3.out.row k hk).1)) (own_len hown (by rw [List.length_append]; rfl) (by rw [List.map_append])))
    have HLN4 : Hid ((l3 ++ Mp.be2 P.id).length = 4 + P.topic.length) := hid (by rw [List.length_append, HLN.out]; show 2 + P.topic.length + 2 = _; omega)
    obtain ⟨l4, hl4⟩ : ∃ l4 : List UInt8, l4 = l3 ++ Mp.be2 P.id := ⟨_, rfl⟩
    rw [← hl4] at HG4 HLN4
    have HL4 := hid hl4
    clear hl4
    have c5' : w4.cell? ⟨b, 5, none⟩ = some (S P.text) := HG4.out.pk.cell 5
    clear hown hgrow hat c5 hlt3 HS3 HX hd h3 c1
    go_wp2_with (at_builtin; go_must (refine Lib.wpList_append_own_string _ rfl (.tmp 66) (.tmp 68) 28 9 rfl (b + 1) 5 i5 Try.underlying28 Try.underlying9 hi5 hz5 hs5 hb5 v4 l4.length (l4.map B) rfl HG4.out.row (str P.text) rfl ?h63 ?hb HG4.out.lt ?_))
    case h63 => rw [str_size]; have := HLN4.out; unfold maxLen; omega
    case hb => rw [str_size]; have := HLN4.out; omega
    intro v9 w9 hown hgrow hnn
    have HG9 : Hid (Grown w w9 b P nv cv v9 (l4 ++ P.text)) := hid (HG4.out.keep (below_grown hgrow HG4.out.lt (fun k hk => (own_lt HG4.out.row k hk).1)) (own_len hown (by rw [str_size, List.length_append]) (by rw [str_cells, List.map_append])))
    clear hown hgrow hnn
    go_wp2_with fail
    go_ret
    exact ⟨v9, rfl, HG9.out.fresh HBB.out (by rw [HL.out, HL4.out, HL3.out, List.nil_append])⟩
  · rw [if_neg (by omega)] at HL
    have hd : decide ((0 : Int) < (X : Int)) = false := decide_eq_false (by omega)
    have hX0 : ¬ (0 : Int) < (X : Int) := by omega
    clear hX
    go_wp2_with (at_builtin; go_must (refine Lib.wpList_append_own_string _ rfl (.tmp 66) (.tmp 68) 28 9 rfl (b + 1) 5 i5 Try.underlying28 Try.underlying9 hi5 hz5 hs5 hb5 v3 l3.length (l3.map B) rfl HG3.out.row (str P.text) rfl ?h63 ?hb HG3.out.lt ?_))
    case h63 => rw [str_size]; have := HLN.out; unfold maxLen; omega
    case hb => rw [str_size]; have := HLN.out; omega
    intro v9 w9 hown hgrow hnn
    have HG9 : Hid (Grown w w9 b P nv cv v9 (l3 ++ P.text)) := hid (HG3.out.keep (below_grown hgrow HG3.out.lt (fun k hk => (own_lt HG3.out.row k hk).1)) (own_len hown (by rw [str_size, List.length_append]) (by rw [str_cells, List.map_append])))
    clear hown hgrow hnn
    go_wp2_with fail
    go_ret
    exact ⟨v9, rfl, HG9.out.fresh HBB.out (by rw [HL.out, HL3.out, List.nil_append, List.append_nil])⟩
end Go.Proofs.Ytnljmllkfmgclaa
