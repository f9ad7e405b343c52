/-
  THE PROGRAM: whether a code is none (closure 35, IndexFunc 40, ContainsFunc 34). Conditions: those that each contract names.
-/
import Derived.Test.YtnljmllkfmgclaaMpacP3
namespace Go.Proofs.Ytnljmllkfmgclaa
open Go.RowKit
set_option linter.unusedVariables false
set_option linter.unusedSimpArgs false

/-- A box that holds the packet's pointer. -/
def BoxIn (w : World) (b p : Nat) : Prop := w.heap[b]? = some (.cells #[.pointer (some ⟨p, 0, none⟩)] 53 (0, 0))
theorem BoxIn.cell {w : World} {b p : Nat} (h : BoxIn w b p) : w.cell? ⟨b, 0, none⟩ = some (.pointer (some ⟨p, 0, none⟩)) := by rw [cell_of_row w b _ _ _ _ h]; rfl
theorem BoxIn.lt {w : World} {b p : Nat} (h : BoxIn w b p) : b < w.heap.size := (Array.getElem?_eq_some_iff.1 h).1
theorem BoxIn.keep {w w' : World} {b p : Nat} (h : BoxIn w b p) (hb : w'.heap[b]? = w.heap[b]?) : BoxIn w' b p := hb.trans h
theorem BoxIn.mod {own : Nat → Prop} {w w' : World} {b p : Nat} (h : BoxIn w b p) (hm : Mod own w w') (ho : ¬ own b) : BoxIn w' b p := h.keep (hm.block b h.lt ho)
set_option maxRecDepth 100000 in
theorem code_any (w : World) (b p k : Nat) (c : Int) (hb : BoxIn w b p) (hk : w.cell? ⟨p, 0, none⟩ = some (I k)) : Calls Try.prog 35 #[I c, .pointer (some ⟨b, 0, none⟩)] w fun e w' => e = .returned (.bool (!Mp.codeOk k c)) ∧ w = w' := by
  have c0 := hb.cell
  clear hb
  by_cases h2 : c ≤ 2
  · have hd : decide (2 < c) = false := decide_eq_false (by omega)
    have hr : Mp.codeOk k c = true := decide_eq_true (.inl h2)
    clear h2
    go_enter Try.func35, Try.ntmps35
    go_wp2
    go_ret
    exact ⟨by rw [hr]; rfl, rfl⟩
  · have hd : decide (2 < c) = true := decide_eq_true (by omega)
    by_cases h9 : k = 9
    · by_cases hc : c = 128
      · subst h9 hc
        go_enter Try.func35, Try.ntmps35
        go_wp2
        go_ret
        exact ⟨rfl, rfl⟩
      · have hn : (c != 128) = true := by rw [bne_iff_ne]; exact hc
        have hr : Mp.codeOk k c = false := decide_eq_false (by omega)
        subst h9
        clear h2 hc
        go_enter Try.func35, Try.ntmps35
        go_wp2
        go_ret
        exact ⟨by rw [hr]; rfl, rfl⟩
    · have hn : ((k : Int) != 9) = true := by rw [bne_iff_ne]; omega
      have hr : Mp.codeOk k c = false := decide_eq_false (by omega)
      clear h2 h9
      go_enter Try.func35, Try.ntmps35
      go_wp2
      go_ret
      exact ⟨by rw [hr]; rfl, rfl⟩
abbrev clo (b : Nat) : Value := .func (.func 35) #[] #[.pointer (some ⟨b, 0, none⟩)]
set_option maxRecDepth 100000 in
set_option maxHeartbeats 800000 in
theorem index_any (w : World) (v : Value) (l : List Int) (hv : SeesV w v (l.map I)) (hl : l.length ≤ 1000) (b p k : Nat) (hb : BoxIn w b p) (hk : w.cell? ⟨p, 0, none⟩ = some (I k)) :
    Calls Try.prog 40 #[v, clo b] w fun e w' => w = w' ∧ ((∃ x : Nat, x ≤ 1000 ∧ e = .returned (I x) ∧ l.all (Mp.codeOk k) = false) ∨ (e = .returned (I (-1)) ∧ l.all (Mp.codeOk k) = true)) := by
  obtain ⟨ao, cap, rfl, h1, h2, h3⟩ := hv
  rw [List.length_map] at h1 h3 ⊢
  have H3 := hid h3
  have H1 := hid h1
  have HC := hid (fun c => code_any w b p k c hb hk)
  clear h3 h1 hb hk
  go_enter Try.func40, Try.ntmps40
  go_wp2
  go_loop [8] (fun i => ∃ j : Nat, j ≤ l.length ∧ i = .int .i64 j ∧ Hid (∀ c ∈ l.take j, Mp.codeOk k c = true)) (fun i => l.length - (intOf i).toNat)
  case atStart => exact ⟨0, Nat.zero_le _, rfl, hid (by simp)⟩
  case round =>
    obtain ⟨j, hj, rfl, HK⟩ := hrel
    by_cases hlt : j < l.length
    · obtain ⟨g, off, rfl, hc⟩ := H3.out (by omega)
      have hck := hc j (I l[j]) (by rw [List.getElem?_map, List.getElem?_eq_getElem hlt]; rfl)
      have hin : l[j] ∈ l := List.getElem_mem hlt
      have htk : l.take (j + 1) = l.take j ++ [l[j]] := List.take_succ_eq_append_getElem hlt
      generalize l[j] = c at *
      have HIN := hid hin
      have HTK := hid htk
      clear hc hin htk
      cases hz : Mp.codeOk k c with
      | true =>
        have HZ := hid hz
        have hC := HC.out c
        rw [hz] at hC
        have HCC := hid hC
        clear hz hC
        go_wp2_with (go_at_call 35; refine HCC.out.mono ?_; rintro e w1 ⟨rfl, rfl⟩)
        go_round
        case rel => exact ⟨j + 1, by omega, by go_num, hid (fun x hx => by rw [HTK.out] at hx; rcases List.mem_append.1 hx with h | h; exact HK.out x h; rw [List.mem_singleton.1 h]; exact HZ.out)⟩
        case measure => simp [intOf]; omega
      | false =>
        have HZ := hid hz
        have hC := HC.out c
        rw [hz] at hC
        have HCC := hid hC
        clear hz hC
        go_wp2_with (go_at_call 35; refine HCC.out.mono ?_; rintro e w1 ⟨rfl, rfl⟩)
        go_ret
        exact ⟨rfl, .inl ⟨j, by omega, rfl, by
          cases ha : l.all (Mp.codeOk k) with
          | false => rfl
          | true => exact absurd (List.all_eq_true.1 ha c HIN.out) (by rw [HZ.out]; simp)⟩⟩
    · have e : j = l.length := by omega
      go_wp2
      go_ret
      subst e
      exact ⟨rfl, .inr ⟨rfl, by first | (intro x hx; exact HK.out x (by rw [List.take_length]; exact hx)) | (rw [List.all_eq_true]; intro x hx; exact HK.out x (by rw [List.take_length]; exact hx))⟩⟩
set_option maxRecDepth 100000 in
theorem contains_any (w : World) (v : Value) (l : List Int) (hv : SeesV w v (l.map I)) (hl : l.length ≤ 1000) (b p k : Nat) (hb : BoxIn w b p) (hk : w.cell? ⟨p, 0, none⟩ = some (I k)) :
    Calls Try.prog 34 #[v, clo b] w fun e w' => e = .returned (.bool (!l.all (Mp.codeOk k))) ∧ w = w' := by
  have hi := index_any w v l hv hl b p k hb hk
  cases hz : l.all (Mp.codeOk k) with
  | true =>
    have hi2 : Calls Try.prog 40 #[v, clo b] w fun e w' => e = .returned (I (-1)) ∧ w = w' := hi.mono fun e w' h => ⟨by
      rcases h.2 with ⟨x, -, -, h3⟩ | ⟨h2, -⟩
      · rw [hz] at h3; cases h3
      · exact h2, h.1⟩
    have HI := hid hi2
    clear hi hi2 hv hz hb hk
    go_enter Try.func34, Try.ntmps34
    go_wp2_with (go_at_call 40; refine HI.out.mono ?_; rintro e w1 ⟨rfl, rfl⟩)
    go_ret
    exact ⟨rfl, rfl⟩
  | false =>
    have hi2 : Calls Try.prog 40 #[v, clo b] w fun e w' => w = w' ∧ ∃ x : Nat, x ≤ 1000 ∧ e = .returned (I x) := hi.mono fun e w' h => ⟨h.1, by
      rcases h.2 with ⟨x, h1, h2, -⟩ | ⟨-, h2⟩
      · exact ⟨x, h1, h2⟩
      · rw [hz] at h2; cases h2⟩
    have HI := hid hi2
    clear hi hi2 hv hz hb hk
    go_enter Try.func34, Try.ntmps34
    go_wp2_with (go_at_call 40; refine HI.out.mono ?_; rintro e w1 ⟨rfl, x, hx, rfl⟩)
    go_ret
    first | exact ⟨rfl, rfl⟩ | exact ⟨by simp, rfl⟩
end Go.Proofs.Ytnljmllkfmgclaa
