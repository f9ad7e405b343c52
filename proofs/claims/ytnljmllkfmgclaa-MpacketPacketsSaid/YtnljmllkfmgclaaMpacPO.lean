/-
  THE PROGRAM: rest (14), of the kinds 8, 9, 10; of any kind. Conditions: those that each contract names.
-/
import Derived.Test.YtnljmllkfmgclaaMpacPN
namespace Go.Proofs.Ytnljmllkfmgclaa
open Go.RowKit
set_option linter.unusedVariables false
set_option linter.unusedSimpArgs false

theorem run_max {P : Program} (ats : Array TypeId) (ty : TypeId) (x y : Int) (w : World) : (Builtin.max_ ats ty #[.int .i64 x, .int .i64 y]).run P w = .ok (.int .i64 (max x y)) w := by
  by_cases h : x < y
  · have e : max x y = y := by omega
    simp [Builtin.max_, Builtin.max2, h, e]
  · have e : max x y = x := by omega
    simp [Builtin.max_, Builtin.max2, h, e]
def Mp.nameAt (ns : List Mp.Bs) (k : Nat) : Mp.Bs := match ns[k]? with | some n => Mp.put n | none => []
def Mp.codeAt (cs : List Int) (k : Nat) : Mp.Bs := match cs[k]? with | some c => [Mp.b1 c] | none => []
theorem Mp.pairs_nil_take : ∀ (k : Nat) (cs : List Int), Mp.pairs [] (cs.take (k + 1)) = Mp.pairs [] (cs.take k) ++ Mp.codeAt cs k
  | _, [] => by simp [Mp.pairs, Mp.codeAt]
  | 0, c :: cs => by simp [Mp.pairs, Mp.codeAt]
  | k + 1, c :: cs => by
    have := Mp.pairs_nil_take k cs
    simp only [Mp.codeAt, List.take_succ_cons, Mp.pairs, List.getElem?_cons_succ, List.cons_append] at this ⊢
    rw [this]
theorem Mp.pairs_take : ∀ (k : Nat) (ns : List Mp.Bs) (cs : List Int), Mp.pairs (ns.take (k + 1)) (cs.take (k + 1)) = Mp.pairs (ns.take k) (cs.take k) ++ Mp.nameAt ns k ++ Mp.codeAt cs k
  | k, [], cs => by
    have := Mp.pairs_nil_take k cs
    simpa [Mp.nameAt] using this
  | 0, n :: ns, [] => by simp [Mp.pairs, Mp.nameAt, Mp.codeAt]
  | 0, n :: ns, c :: cs => by simp [Mp.pairs, Mp.nameAt, Mp.codeAt]
  | k + 1, n :: ns, [] => by
    have := Mp.pairs_take k ns []
    simp only [Mp.nameAt, Mp.codeAt, List.take_nil, List.take_succ_cons, Mp.pairs, List.getElem?_cons_succ, List.getElem?_nil, List.append_nil, List.append_assoc] at this ⊢
    rw [this]
  | k + 1, n :: ns, c :: cs => by
    have := Mp.pairs_take k ns cs
    simp only [Mp.nameAt, Mp.codeAt, List.take_succ_cons, Mp.pairs, List.getElem?_cons_succ, List.append_assoc, List.cons_append] at this ⊢
    rw [this]
theorem Mp.pairs_len (M : Nat) : ∀ (ns : List Mp.Bs) (cs : List Int), (∀ x ∈ ns, x.length ≤ M) → (Mp.pairs ns cs).length ≤ ns.length * (M + 2) + cs.length
  | [], [], _ => by simp [Mp.pairs]
  | [], c :: cs, h => by
    have := Mp.pairs_len M [] cs h
    simp only [Mp.pairs, List.length_cons, List.length_nil] at this ⊢
    omega
  | n :: ns, [], h => by
    have h1 := Mp.pairs_len M ns [] (fun x hx => h x (List.mem_cons_of_mem _ hx))
    have h2 := h n (List.mem_cons_self)
    simp only [Mp.pairs, List.length_append, Mp.put_len, List.length_cons, List.length_nil] at h1 ⊢
    rw [Nat.add_mul]
    omega
  | n :: ns, c :: cs, h => by
    have h1 := Mp.pairs_len M ns cs (fun x hx => h x (List.mem_cons_of_mem _ hx))
    have h2 := h n (List.mem_cons_self)
    simp only [Mp.pairs, List.length_append, Mp.put_len, List.length_cons] at h1 ⊢
    rw [Nat.add_mul]
    omega
set_option maxRecDepth 100000 in
set_option maxHeartbeats 6400000 in
theorem rest_8 (w : World) (v : Value) (P : Pk) (h : PkV w v P) (hk : P.kind = 8 ∨ P.kind = 10 ∨ P.kind = 9) (hN : P.names.length ≤ 32) (hC : P.codes.length ≤ 32) (hM : ∀ x ∈ P.names, x.length ≤ 100000) : Calls Try.prog 14 #[v] w (Fresh w (Mp.rest P)) := by
  obtain ⟨⟨nv, cv, rfl, hn, hc⟩, bn, bc⟩ := h
  have hr : Mp.rest P = Mp.be2 P.id ++ Mp.pairs P.names P.codes := by
    unfold Mp.rest
    rw [if_neg (by omega), if_neg (by omega), if_neg (by omega), if_neg (by omega), if_pos hk]
  obtain ⟨L, hL⟩ : ∃ L, L = Mp.rest P := ⟨_, rfl⟩
  rw [← hL]
  have HL := hid (hL.trans hr)
  clear hL hr
  obtain ⟨an, cn, hnv, hnl⟩ := hn.form
  obtain ⟨ac, cc, hcv, hcl⟩ := hc.form
  have HN := hid hn
  have HC := hid hc
  rw [List.length_map] at hnv hcv
  have hS := rest_start hn hc
  have e1 := b1_wrap (P.id / 256)
  have e2 := b1_wrap P.id
  generalize Mp.b1 (P.id / 256) = a at *
  generalize Mp.b1 P.id = c at *
  obtain ⟨w1, hw1⟩ : ∃ w1, w1 = w.alloc (.cells (pkCells P nv cv) 25) := ⟨_, rfl⟩
  obtain ⟨w2, hw2⟩ : ∃ w2, w2 = w1.alloc (.cells #[B a, B c] 5) := ⟨_, rfl⟩
  have c2 : w1.cell? ⟨w.heap.size, 2, none⟩ = some (I P.id) := by rw [hw1, cell_of_row _ _ _ _ _ _ (heap_alloc_new w _)]; rfl
  have hz : w1.heap.size = w.heap.size + 1 := by rw [hw1]; simp
  rw [← hw1, ← hw2] at hS
  have c0 : w2.cell? ⟨w.heap.size, 0, none⟩ = some (I P.kind) := hS.pk.cell 0
  have HW1 := hid hw1
  have HW2 := hid hw2
  have HS := hid hS
  clear hw1 hw2 hS hn hc hnl hcl
  have kM : ∀ (ats : Array TypeId) (ty : TypeId) (w : World), (Builtin.max_ ats ty #[.int .i64 (P.names.length : Int), .int .i64 (P.codes.length : Int)]).run Try.prog w = .ok (.int .i64 ((max P.names.length P.codes.length : Nat) : Int)) w := fun ats ty w => by rw [run_max]; congr 2; omega
  have c10 : w2.cell? ⟨w.heap.size, 10, none⟩ = some (.slice an P.names.length cn) := (HS.out.pk.cell 10).trans (by rw [← hnv]; rfl)
  have c11 : w2.cell? ⟨w.heap.size, 11, none⟩ = some (.slice ac P.codes.length cc) := (HS.out.pk.cell 11).trans (by rw [← hcv]; rfl)
  have HG := hid HS.out.id
  obtain ⟨M, hMM⟩ : ∃ M, M = max P.names.length P.codes.length := ⟨_, rfl⟩
  rw [← hMM] at kM
  have hM1 : P.names.length ≤ M := by omega
  have hM2 : P.codes.length ≤ M := by omega
  have hM3 : M ≤ 32 := by omega
  have HMM := hid hM
  have HNV := hid hnv
  have HCV := hid hcv
  clear hMM hM hnv hcv
  rcases hk with hk | hk | hk
  all_goals
    rw [hk] at c0
    clear hk
    go_enter Try.func14, Try.ntmps14
    go_upto_region 2 with (fail)
    rw [← HW1.out]
    go_upto_region 3 with (fail)
    rw [← HW2.out]
    clear c2 e1 e2 hz HW1 HW2
    obtain ⟨b, hbb⟩ : ∃ b, b = w.heap.size := ⟨_, rfl⟩
    rw [← hbb] at HG c0 c10 c11 ⊢
    have HBB := hid hbb
    clear hbb
    go_wp2_with fail
    clear c10 c11 kM
    go_loopw [3, 89] (fun v i wr => ∃ k : Nat, k ≤ M ∧ i = I k ∧ Hid (Grown w wr b P nv cv v (Mp.be2 P.id ++ Mp.pairs (P.names.take k) (P.codes.take k)))) (fun _ i _ => M - (intOf i).toNat)
    case atStart => exact ⟨0, by omega, rfl, hid (by have h9 := HG.out; rw [List.take_zero, List.take_zero, show Mp.pairs [] [] = [] by simp [Mp.pairs], List.append_nil]; exact h9)⟩
    case round =>
      clear HG
      obtain ⟨k, hk, rfl, HK⟩ := hrel
      by_cases hlt : k < M
      · obtain ⟨lk, hlk⟩ : ∃ lk, lk = Mp.be2 P.id ++ Mp.pairs (P.names.take k) (P.codes.take k) := ⟨_, rfl⟩
        rw [← hlk] at HK
        have HLK : Hid (lk.length ≤ 10000000) := hid (by
          have h1 := Mp.pairs_len 100000 (P.names.take k) (P.codes.take k) (fun x hx => HMM.out x (List.mem_of_mem_take hx))
          rw [hlk, List.length_append]
          rw [List.length_take, List.length_take] at h1
          have h2 : (Mp.be2 P.id).length = 2 := rfl
          have h3 : min k P.names.length * (100000 + 2) ≤ 32 * (100000 + 2) := Nat.mul_le_mul_right _ (by omega)
          omega)
        have HLQ := hid hlk
        clear hlk
        have c10 : wr.cell? ⟨b, 10, none⟩ = some (.slice an P.names.length cn) := (HK.out.pk.cell 10).trans (by rw [← HNV.out]; rfl)
        by_cases hkn : k < P.names.length
        · have hns := HN.out
          rw [HNV.out] at hns
          obtain ⟨ao, cp, hv, q1, q2, q3⟩ := hns.below (HBB.out ▸ HK.out.below)
          simp only [Value.slice.injEq] at hv
          obtain ⟨rfl, -, rfl⟩ := hv
          rw [List.length_map] at q3
          obtain ⟨g, off, rfl, hcell⟩ := q3 (by omega)
          have cnk := hcell k (S P.names[k]) (by rw [List.getElem?_map, List.getElem?_eq_getElem hkn]; rfl)
          have hna : Mp.nameAt P.names k = Mp.put P.names[k] := by unfold Mp.nameAt; rw [List.getElem?_eq_getElem hkn]
          have hnm : P.names[k].length ≤ 100000 := HMM.out _ (List.getElem_mem hkn)
          generalize P.names[k] = nm at *
          have HNA := hid hna
          have HNM := hid hnm
          have HPUT := hid (HK.out.put nm (by have := HLK.out; omega))
          clear hcell q1 q2 q3 hna hns hnm
          go_upto_region 31 with (first | (go_at_call 26; refine HPUT.out.mono ?_; rintro e w4 ⟨v4, rfl, hg4, -⟩; have HG4 := hid hg4; clear hg4) | fail)
          obtain ⟨lx, hlx⟩ : ∃ lx, lx = lk ++ Mp.put nm := ⟨_, rfl⟩
          rw [← hlx] at HG4
          have HLX : Hid (lx.length ≤ 20000000) := hid (by rw [hlx, List.length_append, Mp.put_len]; have := HLK.out; have := HNM.out; omega)
          have HLY : Hid (lx = Mp.be2 P.id ++ (Mp.pairs (P.names.take k) (P.codes.take k) ++ Mp.nameAt P.names k)) := hid (by rw [hlx, HNA.out, HLQ.out, List.append_assoc])
          clear hlx cnk c10 HPUT HK
          -- the code
          have c11 : w4.cell? ⟨b, 11, none⟩ = some (.slice ac P.codes.length cc) := (HG4.out.pk.cell 11).trans (by rw [← HCV.out]; rfl)
          have hltx := HG4.out.lt
          by_cases hkc : k < P.codes.length
          · have hcs := HC.out
            rw [HCV.out] at hcs
            obtain ⟨ao, cp, hv, q1, q2, q3⟩ := hcs.below (HBB.out ▸ HG4.out.below)
            simp only [Value.slice.injEq] at hv
            obtain ⟨rfl, -, rfl⟩ := hv
            rw [List.length_map] at q3
            obtain ⟨g, off, rfl, hcell⟩ := q3 (by omega)
            have cck := hcell k (I P.codes[k]) (by rw [List.getElem?_map, List.getElem?_eq_getElem hkc]; rfl)
            have e6 := b1_wrap P.codes[k]
            have hca : Mp.codeAt P.codes k = [Mp.b1 P.codes[k]] := by unfold Mp.codeAt; rw [List.getElem?_eq_getElem hkc]
            generalize P.codes[k] = cd at *
            have HCA := hid hca
            have HGA := hid (HG4.out.alloc (.cells #[.int .u8 ((Mp.b1 cd).toNat : Int)] 5))
            have HSA := hid (show Sees (w4.alloc (.cells #[.int .u8 ((Mp.b1 cd).toNat : Int)] 5)) (.slice (some ⟨w4.heap.size, 0, none⟩) 1 1) [Mp.b1 cd] from Sees.lit w4 [Mp.b1 cd] (0, 0) (by simp [maxLen]))
            clear hcell q1 q2 q3 hca hcs
            go_wp2_with (at_builtin; go_must (refine wpList_app rfl (.tmp 109) (.tmp 116) 28 rfl (b + 1) 5 (.int .u8 0) 1 1 Try.underlying28 info5 rfl (by decide) _ _ 1 ([Mp.b1 cd].map B) HGA.out.row HSA.out.src ?h63 ?hb ?hbase ?_))
            case h63 => have := HLX.out; unfold maxLen; omega
            case hb => have := HLX.out; omega
            case hbase => simp; omega
            intro v5 w5 hown hgrow hat
            have HG5 : Hid (Grown w w5 b P nv cv v5 (lx ++ [Mp.b1 cd])) := hid (HGA.out.keep (below_grown hgrow HGA.out.lt (fun k hk => (own_lt HGA.out.row k hk).1)) (own_len hown (by rw [List.length_append]; rfl) (by rw [List.map_append]; rfl)))
            clear hown hgrow hat HGA HSA cck e6 c11
            go_wp2_with fail
            go_roundw
            case rel => exact ⟨k + 1, by omega, by go_num, hid (by have h9 := HG5.out; rw [← HCA.out, HLY.out, List.append_assoc, ← Mp.pairs_take] at h9; exact h9)⟩
            case measure => simp [intOf]; omega
          · have hca : Mp.codeAt P.codes k = [] := by unfold Mp.codeAt; rw [List.getElem?_eq_none (by omega)]
            have HCA := hid hca
            clear hca
            go_wp2_with fail
            go_roundw
            case rel => exact ⟨k + 1, by omega, by go_num, hid (by have h9 := HG4.out; rw [HLY.out] at h9; have h8 := Mp.pairs_take k P.names P.codes; rw [HCA.out, List.append_nil] at h8; rw [h8]; exact h9)⟩
            case measure => simp [intOf]; omega
        · have hna : Mp.nameAt P.names k = [] := by unfold Mp.nameAt; rw [List.getElem?_eq_none (by omega)]
          go_upto_region 31 with (fail)
          obtain ⟨lx, hlx⟩ : ∃ lx, lx = lk := ⟨_, rfl⟩
          rw [← hlx] at HK
          have HLX : Hid (lx.length ≤ 20000000) := hid (by rw [hlx]; have := HLK.out; omega)
          have HLY : Hid (lx = Mp.be2 P.id ++ (Mp.pairs (P.names.take k) (P.codes.take k) ++ Mp.nameAt P.names k)) := hid (by rw [hlx, hna, HLQ.out, List.append_nil])
          clear hlx c10 hna
          -- the code
          have c11 : wr.cell? ⟨b, 11, none⟩ = some (.slice ac P.codes.length cc) := (HK.out.pk.cell 11).trans (by rw [← HCV.out]; rfl)
          have hltx := HK.out.lt
          by_cases hkc : k < P.codes.length
          · have hcs := HC.out
            rw [HCV.out] at hcs
            obtain ⟨ao, cp, hv, q1, q2, q3⟩ := hcs.below (HBB.out ▸ HK.out.below)
            simp only [Value.slice.injEq] at hv
            obtain ⟨rfl, -, rfl⟩ := hv
            rw [List.length_map] at q3
            obtain ⟨g, off, rfl, hcell⟩ := q3 (by omega)
            have cck := hcell k (I P.codes[k]) (by rw [List.getElem?_map, List.getElem?_eq_getElem hkc]; rfl)
            have e6 := b1_wrap P.codes[k]
            have hca : Mp.codeAt P.codes k = [Mp.b1 P.codes[k]] := by unfold Mp.codeAt; rw [List.getElem?_eq_getElem hkc]
            generalize P.codes[k] = cd at *
            have HCA := hid hca
            have HGA := hid (HK.out.alloc (.cells #[.int .u8 ((Mp.b1 cd).toNat : Int)] 5))
            have HSA := hid (show Sees (wr.alloc (.cells #[.int .u8 ((Mp.b1 cd).toNat : Int)] 5)) (.slice (some ⟨wr.heap.size, 0, none⟩) 1 1) [Mp.b1 cd] from Sees.lit wr [Mp.b1 cd] (0, 0) (by simp [maxLen]))
            clear hcell q1 q2 q3 hca hcs
            go_wp2_with (at_builtin; go_must (refine wpList_app rfl (.tmp 109) (.tmp 116) 28 rfl (b + 1) 5 (.int .u8 0) 1 1 Try.underlying28 info5 rfl (by decide) _ _ 1 ([Mp.b1 cd].map B) HGA.out.row HSA.out.src ?h63 ?hb ?hbase ?_))
            case h63 => have := HLX.out; unfold maxLen; omega
            case hb => have := HLX.out; omega
            case hbase => simp; omega
            intro v5 w5 hown hgrow hat
            have HG5 : Hid (Grown w w5 b P nv cv v5 (lx ++ [Mp.b1 cd])) := hid (HGA.out.keep (below_grown hgrow HGA.out.lt (fun k hk => (own_lt HGA.out.row k hk).1)) (own_len hown (by rw [List.length_append]; rfl) (by rw [List.map_append]; rfl)))
            clear hown hgrow hat HGA HSA cck e6 c11
            go_wp2_with fail
            go_roundw
            case rel => exact ⟨k + 1, by omega, by go_num, hid (by have h9 := HG5.out; rw [← HCA.out, HLY.out, List.append_assoc, ← Mp.pairs_take] at h9; exact h9)⟩
            case measure => simp [intOf]; omega
          · have hca : Mp.codeAt P.codes k = [] := by unfold Mp.codeAt; rw [List.getElem?_eq_none (by omega)]
            have HCA := hid hca
            clear hca
            go_wp2_with fail
            go_roundw
            case rel => exact ⟨k + 1, by omega, by go_num, hid (by have h9 := HK.out; rw [HLY.out] at h9; have h8 := Mp.pairs_take k P.names P.codes; rw [HCA.out, List.append_nil] at h8; rw [h8]; exact h9)⟩
            case measure => simp [intOf]; omega
      · have hkM : k = M := by omega
        have HKM := hid hkM
        clear hkM
        go_wp2_with fail
        go_ret
        exact ⟨_, rfl, HK.out.fresh HBB.out (by rw [HL.out, List.take_of_length_le (by have := HKM.out; omega), List.take_of_length_le (by have := HKM.out; omega)])⟩
/-- Of any kind. -/
theorem rest_any (w : World) (v : Value) (P : Pk) (h : PkV w v P) (hk : 1 ≤ P.kind ∧ P.kind ≤ 14) (hf : 0 ≤ P.flags ∧ P.flags ≤ 15) (hb : P.name.length + P.text.length + P.topic.length ≤ 100000000) (hN : P.names.length ≤ 32) (hC : P.codes.length ≤ 32) (hM : ∀ x ∈ P.names, x.length ≤ 100000) : Calls Try.prog 14 #[v] w (Fresh w (Mp.rest P)) := by
  have : P.kind = 1 ∨ P.kind = 2 ∨ P.kind = 3 ∨ (P.kind = 4 ∨ P.kind = 5 ∨ P.kind = 6 ∨ P.kind = 7 ∨ P.kind = 11) ∨ (P.kind = 8 ∨ P.kind = 10 ∨ P.kind = 9) ∨ (P.kind = 12 ∨ P.kind = 13 ∨ P.kind = 14) := by omega
  rcases this with h1 | h1 | h1 | h1 | h1 | h1
  · exact rest_1 w v P h h1 hb
  · exact rest_2 w v P h h1
  · exact rest_3 w v P P.flags.toNat h h1 (by omega) (by omega) hb
  · exact rest_4 w v P h h1
  · exact rest_8 w v P h h1 hN hC hM
  · exact rest_0 w v P h h1
end Go.Proofs.Ytnljmllkfmgclaa
