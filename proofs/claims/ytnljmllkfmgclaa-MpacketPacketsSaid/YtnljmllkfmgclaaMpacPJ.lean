/-
  THE LIBRARY'S slices.Equal (27, 28). Conditions: those that each contract names.
-/
import Derived.Test.YtnljmllkfmgclaaMpacPI
namespace Go.Proofs.Ytnljmllkfmgclaa
open Go.RowKit
set_option linter.unusedVariables false
set_option linter.unusedSimpArgs false

set_option maxRecDepth 100000 in
set_option maxHeartbeats 1600000 in
theorem eq27_any (w : World) (v1 v2 : Value) (l1 l2 : List (List UInt8)) (h1 : SeesV w v1 (l1.map S)) (h2 : SeesV w v2 (l2.map S)) (hb1 : l1.length ≤ 1000000000) (hb2 : l2.length ≤ 1000000000) :
    Calls Try.prog 27 #[v1, v2] w fun e w' => e = .returned (.bool (decide (l1 = l2))) ∧ ∃ m, w' = w.drewN m := by
  obtain ⟨a1, c1, rfl, q1, q2, q3⟩ := h1
  obtain ⟨a2, c2, rfl, p1, p2, p3⟩ := h2
  rw [List.length_map] at q1 q3 p1 p3 ⊢
  rw [List.length_map]
  have H1 := hid q3
  have H2 := hid p3
  clear q1 q2 q3 p1 p2 p3
  by_cases hl : l1.length = l2.length
  rotate_left
  · have hne : ((l1.length : Int) != (l2.length : Int)) = true := by rw [bne_iff_ne]; omega
    have hd : decide (l1 = l2) = false := decide_eq_false (fun e => hl (by rw [e]))
    rw [hd]
    clear hl hd
    go_enter Try.func27, Try.ntmps27
    go_wp2
    go_ret
    exact ⟨rfl, 0, rfl⟩
  · have hne : ((l1.length : Int) != (l2.length : Int)) = false := by rw [bne_eq_false_iff_eq]; omega
    have HL := hid hl
    clear hl
    go_enter Try.func27, Try.ntmps27
    go_wp2
    clear hne
    go_loopw [13] (fun i wr => ∃ k m : Nat, k ≤ l1.length ∧ i = I k ∧ Hid (l1.take k = l2.take k ∧ wr = w.drewN m)) (fun i _ => l1.length - (intOf i).toNat)
    case atStart => exact ⟨0, 0, by omega, rfl, hid ⟨rfl, rfl⟩⟩
    case round =>
      obtain ⟨k, m, hk, rfl, HR⟩ := hrel
      obtain ⟨htk, rfl⟩ := HR.out
      have HTK := hid htk
      clear htk HR
      by_cases hlt : k < l1.length
      · have hlt2 : k < l2.length := by have := HL.out; omega
        obtain ⟨g1, o1, rfl, r1⟩ := H1.out (by omega)
        obtain ⟨g2, o2, rfl, r2⟩ := H2.out (by omega)
        have k1 := r1 k (S l1[k]) (by rw [List.getElem?_map, List.getElem?_eq_getElem hlt]; rfl)
        have k2 := r2 k (S l2[k]) (by rw [List.getElem?_map, List.getElem?_eq_getElem hlt2]; rfl)
        have t1 : l1.take (k + 1) = l1.take k ++ [l1[k]] := List.take_succ_eq_append_getElem hlt
        have t2 : l2.take (k + 1) = l2.take k ++ [l2[k]] := List.take_succ_eq_append_getElem hlt2
        have e1 : l1[k]? = some l1[k] := List.getElem?_eq_getElem hlt
        have e2 : l2[k]? = some l2[k] := List.getElem?_eq_getElem hlt2
        generalize l1[k] = x at *
        generalize l2[k] = y at *
        have T1 := hid t1
        have T2 := hid t2
        have E1 := hid e1
        have E2 := hid e2
        clear r1 r2 t1 t2 e1 e2
        by_cases hxy : x = y
        · have hq : ((str x).toList == (str y).toList) = true := by rw [hxy]; simp
          have HXY := hid hxy
          clear hxy
          go_wp2
          go_quiet (fail)
          go_wp2
          go_roundw
          case rel => exact ⟨k + 1, m + nq, by omega, by go_num, hid ⟨by rw [T1.out, T2.out, HTK.out, HXY.out], by first | rfl | rw [World.drewN_drewN]⟩⟩
          case measure => simp [intOf]; omega
        · have hq : ((str x).toList == (str y).toList) = false := by rw [str_toList, str_toList, beq_eq_false_iff_ne]; exact hxy
          have hd : decide (l1 = l2) = false := decide_eq_false (fun e => hxy (by have h1 := E1.out; rw [e, E2.out] at h1; exact (Option.some.inj h1).symm))
          have HD := hid hd
          clear hxy hd
          go_wp2
          go_quiet (fail)
          go_wp2
          go_ret
          exact ⟨by rw [HD.out]; rfl, m + nq, by first | rfl | rw [World.drewN_drewN]⟩
      · have hlt2 : k = l1.length := by omega
        have hd : decide (l1 = l2) = true := decide_eq_true (by have h1 := HTK.out; rw [hlt2, List.take_length, HL.out, List.take_length] at h1; exact h1)
        have HD := hid hd
        clear hd hlt2
        go_wp2
        go_ret
        exact ⟨by rw [HD.out]; rfl, m, rfl⟩

set_option maxRecDepth 100000 in
set_option maxHeartbeats 1600000 in
theorem eq28_any (w : World) (v1 v2 : Value) (l1 l2 : List (Int)) (h1 : SeesV w v1 (l1.map I)) (h2 : SeesV w v2 (l2.map I)) (hb1 : l1.length ≤ 1000000000) (hb2 : l2.length ≤ 1000000000) :
    Calls Try.prog 28 #[v1, v2] w fun e w' => e = .returned (.bool (decide (l1 = l2))) ∧ ∃ m, w' = w.drewN m := by
  obtain ⟨a1, c1, rfl, q1, q2, q3⟩ := h1
  obtain ⟨a2, c2, rfl, p1, p2, p3⟩ := h2
  rw [List.length_map] at q1 q3 p1 p3 ⊢
  rw [List.length_map]
  have H1 := hid q3
  have H2 := hid p3
  clear q1 q2 q3 p1 p2 p3
  by_cases hl : l1.length = l2.length
  rotate_left
  · have hne : ((l1.length : Int) != (l2.length : Int)) = true := by rw [bne_iff_ne]; omega
    have hd : decide (l1 = l2) = false := decide_eq_false (fun e => hl (by rw [e]))
    rw [hd]
    clear hl hd
    go_enter Try.func28, Try.ntmps28
    go_wp2
    go_ret
    exact ⟨rfl, 0, rfl⟩
  · have hne : ((l1.length : Int) != (l2.length : Int)) = false := by rw [bne_eq_false_iff_eq]; omega
    have HL := hid hl
    clear hl
    go_enter Try.func28, Try.ntmps28
    go_wp2
    clear hne
    go_loopw [13] (fun i wr => ∃ k m : Nat, k ≤ l1.length ∧ i = I k ∧ Hid (l1.take k = l2.take k ∧ wr = w.drewN m)) (fun i _ => l1.length - (intOf i).toNat)
    case atStart => exact ⟨0, 0, by omega, rfl, hid ⟨rfl, rfl⟩⟩
    case round =>
      obtain ⟨k, m, hk, rfl, HR⟩ := hrel
      obtain ⟨htk, rfl⟩ := HR.out
      have HTK := hid htk
      clear htk HR
      by_cases hlt : k < l1.length
      · have hlt2 : k < l2.length := by have := HL.out; omega
        obtain ⟨g1, o1, rfl, r1⟩ := H1.out (by omega)
        obtain ⟨g2, o2, rfl, r2⟩ := H2.out (by omega)
        have k1 := r1 k (I l1[k]) (by rw [List.getElem?_map, List.getElem?_eq_getElem hlt]; rfl)
        have k2 := r2 k (I l2[k]) (by rw [List.getElem?_map, List.getElem?_eq_getElem hlt2]; rfl)
        have t1 : l1.take (k + 1) = l1.take k ++ [l1[k]] := List.take_succ_eq_append_getElem hlt
        have t2 : l2.take (k + 1) = l2.take k ++ [l2[k]] := List.take_succ_eq_append_getElem hlt2
        have e1 : l1[k]? = some l1[k] := List.getElem?_eq_getElem hlt
        have e2 : l2[k]? = some l2[k] := List.getElem?_eq_getElem hlt2
        generalize l1[k] = x at *
        generalize l2[k] = y at *
        have T1 := hid t1
        have T2 := hid t2
        have E1 := hid e1
        have E2 := hid e2
        clear r1 r2 t1 t2 e1 e2
        by_cases hxy : x = y
        · have hq : ((x : Int) == y) = true := by rw [hxy]; simp
          have HXY := hid hxy
          clear hxy
          go_wp2
          go_quiet (fail)
          go_wp2
          go_roundw
          case rel => exact ⟨k + 1, m + nq, by omega, by go_num, hid ⟨by rw [T1.out, T2.out, HTK.out, HXY.out], by first | rfl | rw [World.drewN_drewN]⟩⟩
          case measure => simp [intOf]; omega
        · have hq : ((x : Int) == y) = false := by rw [beq_eq_false_iff_ne]; exact hxy
          have hd : decide (l1 = l2) = false := decide_eq_false (fun e => hxy (by have h1 := E1.out; rw [e, E2.out] at h1; exact (Option.some.inj h1).symm))
          have HD := hid hd
          clear hxy hd
          go_wp2
          go_quiet (fail)
          go_wp2
          go_ret
          exact ⟨by rw [HD.out]; rfl, m + nq, by first | rfl | rw [World.drewN_drewN]⟩
      · have hlt2 : k = l1.length := by omega
        have hd : decide (l1 = l2) = true := decide_eq_true (by have h1 := HTK.out; rw [hlt2, List.take_length, HL.out, List.take_length] at h1; exact h1)
        have HD := hid hd
        clear hd hlt2
        go_wp2
        go_ret
        exact ⟨by rw [HD.out]; rfl, m, rfl⟩

end Go.Proofs.Ytnljmllkfmgclaa
