/-
  THE DOCUMENT'S DRUM: what each function comes to (Arm, Look, Read). Conditions: those that each contract names.
-/
import Derived.Test.YtoaeapnkefjpaaaRefM
namespace Go.Proofs.Ytoaeapnkefjpaaa
open Go.RowKit
set_option linter.unusedVariables false
set_option linter.unusedSimpArgs false

/-- What a call leaves of the document's drum. -/
def Reffed (own : Nat → Prop) (p : Nat) (w : World) (D : DS) (w' : World) : Prop := RefAt w' p own D ∧ Mod own w w'
def Reffed' (own : Nat → Prop) (p : Nat) (w : World) (D : DS) (w' : World) : Prop := ∃ own', RefAt w' p own' D ∧ (∀ k, own' k → own k ∨ w.heap.size ≤ k) ∧ Mod own w w'
theorem Reffed.more {own : Nat → Prop} {p : Nat} {w w' : World} {D : DS} (h : Reffed own p w D w') : Reffed' own p w D w' := ⟨own, h.1, fun _ hk => .inl hk, h.2⟩

set_option maxRecDepth 100000 in
set_option maxHeartbeats 800000 in
theorem rarm_any (w : World) (p : Nat) (own : Nat → Prop) (D : DS) (n k : Int) (h : RefAt w p own D) (hn : -9223372036854775808 ≤ n ∧ n ≤ 9223372036854775807) (hk : -9223372036854775808 ≤ k ∧ k ≤ 9223372036854775807) :
    Calls Try.prog 45 #[.pointer (some ⟨p, 0, none⟩), I n, I k] w fun e w' => e = .returned (.tuple #[]) ∧ Reffed own p w (D.Arm n k) w' := by
  obtain ⟨sv, wv, xv, ss, xs, pb, h⟩ := h
  have c5 := h.c5
  have c6 := h.c6
  have fr := h.fr
  have H := hid h
  clear h
  by_cases h0 : n < 0
  · go_enter Try.func45, Try.ntmps45
    go_wp2
    ((try simp only [Exit.inBlock, Exit.then]); first | refine bodyPost_end (results_none rfl _ _ _) rfl ?_ | refine bodyPost_ret (results_none rfl _ _ _) rfl ?_)
    have h1 := H.out
    have r1 := heap_setCell_same w p 5 _ _ (I n) h1.hp
    have r2 := heap_setCell_same (w.setCell ⟨p, 5, none⟩ (I n)) p 5 _ _ (I 0) r1
    have r3 := heap_setCell_same _ p 6 _ _ (I k) r2
    refine ⟨rfl, ⟨sv, wv, xv, ss, xs, pb, h1.at (D.Arm n k) (h1.ok.Arm hn.2 hk) rfl rfl (fun i hi => ?_) (by simp) ?_⟩, ((Mod.set h1.op).trans (Mod.set h1.op)).trans (Mod.set h1.op)⟩
    · rw [heap_setCell_other _ ⟨p, 6, none⟩ i _ hi, heap_setCell_other _ ⟨p, 5, none⟩ i _ hi, heap_setCell_other _ ⟨p, 5, none⟩ i _ hi]
    · refine r3.trans ?_
      have : max n 0 = 0 := by omega
      show _ = some (Obj.cells #[sv, wv, xv, .bool (!D.off), I D.ops, I (max n 0), I k] 59 (0, 0))
      rw [this]
      rfl
  · go_enter Try.func45, Try.ntmps45
    go_wp2
    ((try simp only [Exit.inBlock, Exit.then]); first | refine bodyPost_end (results_none rfl _ _ _) rfl ?_ | refine bodyPost_ret (results_none rfl _ _ _) rfl ?_)
    have h1 := H.out
    have ha := h1.setp 5 (I n) { D with armed := n } (h1.ok.armed' (by omega)) rfl rfl rfl
    have hb := ha.setp 6 (I k) (D.Arm n k) (h1.ok.Arm hn.2 hk) rfl rfl (by have : max n 0 = n := by omega
                                                                           show _ = #[sv, wv, xv, .bool (!D.off), I D.ops, I (max n 0), I k]; rw [this]; rfl)
    exact ⟨rfl, ⟨sv, wv, xv, ss, xs, pb, hb⟩, (Mod.set h1.op).trans (Mod.set h1.op)⟩
theorem own_room {w : World} {base : Nat} {e : TypeId} {size n : Nat} {v : Value} {xs : List Value} (h : w.ownsRow base e size v n xs) : n ≤ 9223372036854775807 := by
  rcases h.2 with ⟨_, rfl⟩ | ⟨g, cap, cur, _, _, _, h1, h2, _⟩
  · omega
  · unfold maxLen at h2; omega
set_option maxRecDepth 100000 in
set_option maxHeartbeats 1600000 in
theorem look_in (w : World) (p : Nat) (sv wv xv : Value) (ss xs : List Value) (pb own : Nat → Prop) (D : DS) (a : Nat) (h : RefIn w p sv wv xv ss xs pb own D) (ha : a < D.safe.length) :
    Calls Try.prog 84 #[.pointer (some ⟨p, 0, none⟩), I a] w fun e w' => w = w' ∧ ∃ v, e = .returned v ∧ Sees w v (DS.look D.safe D.waits a) ∧ ∀ k, v.ownBlock = some k → pb k := by
  have c0 := h.c0
  have c1 := h.c1
  have c2 := h.c2
  have hn := h.ok.n2
  have hroom := own_room h.hw
  obtain ⟨gs, cs, rfl, hs1, hs2, -, -⟩ := own_slice h.hs (by omega)
  obtain ⟨aw, cw, rfl⟩ := own_form h.hw
  obtain ⟨ax, cx, rfl⟩ := own_form h.hx
  obtain ⟨v0, hv0, hsee, hblk⟩ := h.ps.get (DS.safe_len h.ok.page ha).1
  have hcell := own_cell h.hs (i := a) hv0
  have hlook : DS.look D.safe D.waits a = DS.seen (D.safe.getD a []) D.waits a := rfl
  rw [hlook]
  clear hlook
  generalize D.safe.getD a [] = pg0 at *
  have HS := hid hsee
  have HB := hid hblk
  have H := hid h
  clear h hsee hblk hv0
  go_enter Try.func84, Try.ntmps84
  go_wp2
  go_loop [19, 5] (fun i pg => ∃ j : Nat, j ≤ D.waits.length ∧ i = I j ∧ Hid (Sees w pg (DS.seen pg0 (D.waits.take j) a)) ∧ Hid (∀ k, pg.ownBlock = some k → pb k)) (fun i _ => D.waits.length - (intOf i).toNat)
  case atStart => exact ⟨0, Nat.zero_le _, rfl, HS, HB⟩
  case round =>
    obtain ⟨j, hj, rfl, hS, hB⟩ := hrel
    by_cases hlt : j < D.waits.length
    · have h := H.out
      obtain ⟨gw, cw', hv, -, -, -, -⟩ := own_slice h.hw (by omega)
      simp only [Value.slice.injEq] at hv
      obtain ⟨rfl, -, rfl⟩ := hv
      obtain ⟨gx, cx', hv, -, -, -, -⟩ := own_slice h.hx (by omega)
      simp only [Value.slice.injEq] at hv
      obtain ⟨rfl, -, rfl⟩ := hv
      obtain ⟨x0, hx0⟩ : ∃ x0, D.waits[j]? = some x0 := ⟨_, List.getElem?_eq_getElem hlt⟩
      obtain ⟨a0, q⟩ := x0
      have hcw := own_cell h.hw (i := j) (u := I a0) (by rw [List.getElem?_map, hx0]; rfl)
      obtain ⟨v1, hv1, hs1', hb1⟩ := h.px.get (i := j) (q := q) (by rw [List.getElem?_map, hx0]; rfl)
      have hcx := own_cell h.hx (i := j) hv1
      have HX0 := hid hx0
      have HS1 := hid hs1'
      have HB1 := hid hb1
      clear h hx0 hv1 hs1' hb1
      by_cases hat : a0 = a
      · subst hat
        go_wp2
        go_round
        case rel =>
          refine ⟨j + 1, by omega, by go_num, ?_, HB1⟩
          rw [List.take_add_one, HX0.out, Option.toList_some, DS.seen_snoc, if_pos rfl]
          exact HS1
        case measure => simp [intOf]; omega
      · have hat' : ¬ (a0 : Int) = (a : Int) := by omega
        go_wp2
        go_round
        case rel =>
          refine ⟨j + 1, by omega, by go_num, ?_, hB⟩
          rw [List.take_add_one, HX0.out, Option.toList_some, DS.seen_snoc, if_neg hat]
          exact hS
        case measure => simp [intOf]; omega
    · go_wp2
      go_ret
      obtain rfl : j = D.waits.length := by omega
      have := hS.out
      rw [List.take_length] at this
      exact ⟨rfl, _, rfl, this, hB.out⟩
set_option maxRecDepth 100000 in
set_option maxHeartbeats 800000 in
theorem rread_bad (w : World) (p : Nat) (own : Nat → Prop) (D : DS) (a : Int) (h : RefAt w p own D) (ha : -9223372036854775808 ≤ a ∧ a ≤ 9223372036854775807) (hb : a < 0 ∨ (D.safe.length : Int) ≤ a) :
    Calls Try.prog 63 #[.pointer (some ⟨p, 0, none⟩), I a] w (Fresh2 w [] 1) := by
  obtain ⟨sv, wv, xv, ss, xs, pb, h⟩ := h
  have c0 := h.c0
  have hn := h.ok.n2
  obtain ⟨gs, cs, rfl⟩ := own_form h.hs
  clear h
  by_cases h1 : a < 0
  · clear hb
    go_enter Try.func63, Try.ntmps63
    go_wp2
    go_ret2
    exact Fresh2.none w 1
  have h2 : (D.safe.length : Int) ≤ a := by omega
  clear hb
  go_enter Try.func63, Try.ntmps63
  go_wp2
  go_ret2
  exact Fresh2.none w 1
set_option maxRecDepth 100000 in
set_option maxHeartbeats 800000 in
theorem rread_off (w : World) (p : Nat) (own : Nat → Prop) (D : DS) (a : Nat) (h : RefAt w p own D) (ha : a < D.safe.length) (ho : D.off = true) :
    Calls Try.prog 63 #[.pointer (some ⟨p, 0, none⟩), I a] w (Fresh2 w [] 20) := by
  obtain ⟨sv, wv, xv, ss, xs, pb, h⟩ := h
  have c0 := h.c0
  have c3 : w.cell? ⟨p, 3, none⟩ = some (.bool false) := by have := h.c3; rw [ho] at this; exact this
  have hn := h.ok.n2
  obtain ⟨gs, cs, rfl⟩ := own_form h.hs
  clear h
  go_enter Try.func63, Try.ntmps63
  go_wp2
  go_ret2
  exact Fresh2.none w 20
set_option maxRecDepth 100000 in
set_option maxHeartbeats 800000 in
theorem rread_on (w : World) (p : Nat) (own : Nat → Prop) (D : DS) (a : Nat) (h : RefAt w p own D) (ha : a < D.safe.length) (ho : D.off = false) :
    Calls Try.prog 63 #[.pointer (some ⟨p, 0, none⟩), I a] w (Fresh2 w (DS.look D.safe D.waits a) 0) := by
  obtain ⟨sv, wv, xv, ss, xs, pb, h⟩ := h
  have c0 := h.c0
  have c3 : w.cell? ⟨p, 3, none⟩ = some (.bool true) := by have := h.c3; rw [ho] at this; exact this
  have hn := h.ok.n2
  have hlen := DS.look_len h.ok.page h.ok.wait ha
  have HL := hid hlen
  have hb0 : Below w.heap.size w (w.alloc (.cells #[] 5)) := (Below.refl _ _).alloc (Nat.le_refl _) _
  have HK := hid (look_in (w.alloc (.cells #[] 5)) p sv wv xv ss xs pb own D a (h.keep (fun k hk => hb0.block k (h.lt k hk)) hb0.size) ha)
  obtain ⟨gs, cs, rfl⟩ := own_form h.hs
  clear h hlen hb0
  generalize DS.look D.safe D.waits a = pg at *
  go_enter Try.func63, Try.ntmps63
  go_wp2_with (first | (go_at_call 84; refine HK.out.mono ?_; rintro e w2 ⟨rfl, v, rfl, hs, hb⟩; have HS := hid hs; clear hs hb HK) | (at_builtin; refine wpList_app rfl (.tmp 22) (.tmp 25) 23 rfl w.heap.size 5 (.int .u8 0) 1 1 Try.underlying23 info5 rfl (by decide) 0 [] pg.length (pg.map B) ?own ?src ?h63 ?hb (by simp) ?_))
  case own => exact World.ownsRow_made w #[] 0 (Nat.le_refl _) (Nat.zero_le _) rfl
  case src => exact HS.out.src
  case h63 => have := HL.out; unfold maxLen; omega
  case hb => have := HL.out; omega
  intro v1 w1 hown hgrow hat
  go_wp2
  go_ret2
  exact ⟨v1, rfl, by simpa using hown, ((Below.refl _ _).alloc (Nat.le_refl _) _).grown hgrow (by simp) (fun k hk => by cases hk; exact Nat.le_refl _)⟩
theorem rread_any (w : World) (p : Nat) (own : Nat → Prop) (D : DS) (a : Int) (h : RefAt w p own D) (ha : -9223372036854775808 ≤ a ∧ a ≤ 9223372036854775807) :
    Calls Try.prog 63 #[.pointer (some ⟨p, 0, none⟩), I a] w (Fresh2 w (D.read a).2 (D.read a).1) := by
  unfold DS.read
  by_cases hb : a < 0 ∨ (D.safe.length : Int) ≤ a
  · rw [if_pos hb]
    exact rread_bad w p own D a h ha hb
  · rw [if_neg hb]
    obtain ⟨n, rfl⟩ : ∃ n : Nat, a = n := ⟨a.toNat, by omega⟩
    by_cases ho : D.off = true
    · rw [if_pos ho]
      exact rread_off w p own D n h (by omega) ho
    · rw [if_neg ho, Int.toNat_natCast]
      exact rread_on w p own D n h (by omega) (by simpa using ho)
end Go.Proofs.Ytoaeapnkefjpaaa
