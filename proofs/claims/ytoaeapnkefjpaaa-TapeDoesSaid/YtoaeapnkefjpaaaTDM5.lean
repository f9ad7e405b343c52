/-
  Part 5 of what TapeDoes leans on: contracts of the functions it reaches, and plain lemmas. Conditions: those that each lemma names.
-/
import Derived.Test.YtoaeapnkefjpaaaRows
import Derived.WalkKit
import Derived.ProofKit
import Derived.OpenShut
import Derived.ShutString
import Derived.ChangeOld
import Derived.Below
import Derived.Deep.Slices
import Derived.SizedLaws
import Derived.Test.YtoaeapnkefjpaaaTDM4
import Derived.Test.YtoaeapnkefjpaaaTDM1
import Derived.Test.YtoaeapnkefjpaaaTDM3
namespace Go.Proofs.Ytoaeapnkefjpaaa
open Go.RowKit
set_option linter.unusedVariables false
set_option linter.unusedSimpArgs false
abbrev Bd (x : Int) : Prop := -9223372036854775808 ≤ x ∧ x ≤ 9223372036854775807
theorem ptr_nil (ty : TypeId) (hty : ty = 86 ∨ ty = 65) (v : Value) (h : v = .pointer none ∨ ∃ t, v = .pointer (some ⟨t, 0, none⟩)) (b : Bool) (hb : b = true ↔ v = .pointer none) (x y : Operand) (w : World) :
    (eqGuard BinOp.eql ty x y v (.pointer none)).run Try.prog w = .ok () w ∧ (binOp BinOp.eql ty v (.pointer none)).run Try.prog w = .ok (.bool b) w := by
  rcases hty with rfl | rfl <;> rcases h with rfl | ⟨t, rfl⟩
  · obtain rfl : b = true := hb.2 rfl
    constructor <;> go_simp
  · obtain rfl : b = false := by cases b with | false => rfl | true => exact absurd (hb.1 rfl) (by simp)
    constructor <;> go_simp
  · obtain rfl : b = true := hb.2 rfl
    constructor <;> go_simp
  · obtain rfl : b = false := by cases b with | false => rfl | true => exact absurd (hb.1 rfl) (by simp)
    constructor <;> go_simp
theorem nil_both {X : Int} {tv uv : Value} {F G : Nat → Prop} (ht : (X ≠ 0 ∧ tv = .pointer none) ∨ (X = 0 ∧ ∃ t, tv = .pointer (some ⟨t, 0, none⟩) ∧ F t)) (hu : (X ≠ 0 ∧ uv = .pointer none) ∨ (X = 0 ∧ ∃ t, uv = .pointer (some ⟨t, 0, none⟩) ∧ G t)) :
    ∃ bn : Bool, ((tv = .pointer none ∨ ∃ t, tv = .pointer (some ⟨t, 0, none⟩)) ∧ (bn = true ↔ tv = .pointer none)) ∧ ((uv = .pointer none ∨ ∃ t, uv = .pointer (some ⟨t, 0, none⟩)) ∧ (bn = true ↔ uv = .pointer none)) := by
  refine ⟨decide (X ≠ 0), ?_, ?_⟩
  · rcases ht with ⟨h1, rfl⟩ | ⟨h1, t, rfl, -⟩
    · exact ⟨.inl rfl, by rw [decide_eq_true h1]; simp⟩
    · exact ⟨.inr ⟨t, rfl⟩, by simp [h1]⟩
  · rcases hu with ⟨h1, rfl⟩ | ⟨h1, t, rfl, -⟩
    · exact ⟨.inl rfl, by rw [decide_eq_true h1]; simp⟩
    · exact ⟨.inr ⟨t, rfl⟩, by simp [h1]⟩
set_option maxRecDepth 100000 in
theorem TD.append {w wr : World} {bp p pm n t u : Nat} {cs : Array Value} {od om : Nat → Prop} {D : DS} {T : TS} {j : Nat} {tv uv : Value} (h : TD w wr bp p pm n cs od om D T tv uv j) (htv : tv = .pointer (some ⟨t, 0, none⟩)) (huv : uv = .pointer (some ⟨u, 0, none⟩)) {v : Value} {r : List UInt8} (hv : Sees wr v r) (hvw : Sees w v r) (hj : j ≤ 100) :
    Calls Try.prog 66 #[.pointer (some ⟨t, 0, none⟩), v] wr fun e w' => e = .returned (I (TS.append D T r).1) ∧ (∀ b cs' ty, ty ≠ 132 → ty ≠ 64 → Held od om wr b (.cells cs' ty (0, 0)) → w'.heap[b]? = some (.cells cs' ty (0, 0))) ∧ wr.heap.size ≤ w'.heap.size ∧
      Calls Try.prog 73 #[.pointer (some ⟨u, 0, none⟩), v] w' fun e w'' => e = .returned (I (TS.append D T r).1) ∧ (∀ b cs' ty, ty ≠ 132 → ty ≠ 64 → Held od om wr b (.cells cs' ty (0, 0)) → w''.heap[b]? = some (.cells cs' ty (0, 0))) ∧ w'.heap.size ≤ w''.heap.size ∧ ∃ od' om', TD w w'' bp p pm n cs od' om' (TS.append D T r).2.1 (TS.append D T r).2.2 tv uv (j + 1) := by
  rcases h.tapes with ⟨k, -⟩ | ⟨t', u', k1, k2, ht, hu, hot, hou, htu, hz1, hz2⟩
  · rw [htv] at k; cases k
  rw [htv] at k1
  rw [huv] at k2
  simp only [Value.pointer.injEq, Option.some.injEq, Addr.mk.injEq, and_true] at k1 k2
  subst k1 k2
  have hwt := h.waits
  have hne1 : ∀ b cs' ty, ty ≠ 132 → Held od om wr b (.cells cs' ty (0, 0)) → b ≠ t := fun b cs' ty hty hb e => by
    subst e
    have h1 := hb.1
    rw [ht.ht] at h1
    simp only [Option.some.injEq, Obj.cells.injEq] at h1
    exact hty h1.2.1.symm
  have hne2 : ∀ b cs' ty, ty ≠ 64 → Held od om wr b (.cells cs' ty (0, 0)) → b ≠ u := fun b cs' ty hty hb e => by
    subst e
    have h1 := hb.1
    rw [hu.ht] at h1
    simp only [Option.some.injEq, Obj.cells.injEq] at h1
    exact hty h1.2.1.symm
  have ht' := ht
  rw [← h.len] at ht'
  refine (both_append h.both ht' hot hz1 hv (by omega)).mono fun e w' hx => ?_
  obtain ⟨a1, od', a2, a3, a4, a5, a6⟩ := hx
  have hu5 := a5 u _ (fun e => htu e.symm) ⟨hu.ht, hou⟩
  have hu' : RTapeIn w' u pm D.safe.length T := by rw [h.len]; exact hu.keep (hu5.1.trans hu.ht.symm)
  have hsee : Sees w' v r := hvw.below (h.both.below.trans a6)
  refine ⟨a1, fun b cs' ty hty hty2 hb => (a5 b _ (hne1 b cs' ty hty hb) hb).1, a6.size, (both_rappend a2 hu' ⟨hu5.2.1, hou.2⟩ hz2 hsee (by omega)).mono fun e w'' hy => ?_⟩
  obtain ⟨b1, om', b2, b3, b4, b5, b6⟩ := hy
  have hlen := TS.append_len D T r
  have hwts := TS.append_waits D T r
  have hbp1 := a5 bp _ (hne1 bp _ _ (by decide) h.held) h.held
  have hbp2 := b5 bp _ (hne2 bp _ _ (by decide) h.held) hbp1
  have ht5 := b5 t _ htu ⟨a3.ht, a4⟩
  refine ⟨b1, fun b cs' ty hty hty2 hb => (b5 b _ (hne2 b cs' ty hty2 hb) (a5 b _ (hne1 b cs' ty hty hb) hb)).1, b6.size, od', om', b2, hbp2, .inr ⟨t, u, htv, huv, ?_, ?_, ht5.2, b4, htu, hz1, hz2⟩, hlen.trans h.len, by omega⟩
  · rw [← h.len]; exact a3.keep (ht5.1.trans a3.ht.symm)
  · rw [← h.len]; exact b3
theorem TD.clear {w wr : World} {bp p pm n : Nat} {cs : Array Value} {od om : Nat → Prop} {D : DS} {T : TS} {tv uv : Value} {j : Nat} (h : TD w wr bp p pm n cs od om D T tv uv j) (lo : Int) (hlo : Bd lo) (hj : j ≤ 100) :
    Calls Try.prog 68 #[.pointer (some ⟨p, 0, none⟩), I lo] wr fun e w' => e = .returned (I (D.write lo page0).1) ∧ ∃ od', Both w od' p om pm (D.write lo page0).2 D w' ∧ Stay od om od' om wr w' :=
  both_clear h.both lo hlo (by have := h.waits; omega)
theorem TD.clear2 {w wr wx : World} {bp p pm n : Nat} {cs : Array Value} {od om od' : Nat → Prop} {D D' : DS} {T : TS} {tv uv : Value} {j : Nat} (h : TD w wr bp p pm n cs od om D T tv uv j) {lo : Int} (hlo : Bd lo) (hj : j ≤ 100) (hb : Both w od' p om pm D' D wx) (hs : Stay od om od' om wr wx) (he : D' = (D.write lo page0).2) {g : Nat} (hg : Sees wx (.slice (some ⟨g, 0, none⟩) 256 256) page0) (hgo : ¬ om g) :
    Calls Try.prog 51 #[.pointer (some ⟨pm, 0, none⟩), I lo, .slice (some ⟨g, 0, none⟩) 256 256] wx fun e w' => e = .returned (I (D.write lo page0).1) ∧ ∃ om', TD w w' bp p pm n cs od' om' (D.write lo page0).2 T tv uv (j + 1) ∧ Stay od om od' om' wr w' := by
  subst he
  refine (both_rwrite hb lo hlo hg (fun q hq => by have e : g = q := Option.some.inj hq; subst e; exact hgo) (by have := h.waits; omega)).mono fun e w' hx => ?_
  obtain ⟨h1, om', h2, h3⟩ := hx
  exact ⟨h1, om', h.stay h2 (hs.trans h3) (DS.write_len D lo page0) (by have := DS.write_waits' D lo page0; have := h.waits; omega), hs.trans h3⟩
theorem TD.nj {w wr : World} {bp p pm n : Nat} {cs : Array Value} {od om : Nat → Prop} {D : DS} {T : TS} {tv uv : Value} {j j' : Nat} (h : TD w wr bp p pm n cs od om D T tv uv j) (hj : j ≤ j') : TD w wr bp p pm n cs od om D T tv uv j' := ⟨h.both, h.held, h.tapes, h.len, by have := h.waits; omega⟩
theorem TD.arm {w wr : World} {bp p pm n : Nat} {cs : Array Value} {od om : Nat → Prop} {D : DS} {T : TS} {tv uv : Value} {j : Nat} (h : TD w wr bp p pm n cs od om D T tv uv j) (a k : Int) (ha : Bd a) (hk : Bd k) :
    Calls Try.prog 44 #[.pointer (some ⟨p, 0, none⟩), I a, I k] wr fun e w' => e = .returned (.tuple #[]) ∧ (∀ b o, Held od om wr b o → w'.heap[b]? = some o) ∧ Calls Try.prog 45 #[.pointer (some ⟨pm, 0, none⟩), I a, I k] w' fun e w'' => e = .returned (.tuple #[]) ∧ ∃ od' om', TD w w'' bp p pm n cs od' om' (D.Arm a k) T tv uv j :=
  (both_arm h.both a k ha hk).mono fun e w' ⟨h1, od', h2, h3⟩ => ⟨h1, fun b o hb => (h3 b o hb).1, (both_rarm h2 a k ha hk).mono fun e w'' ⟨k1, om', k2, k3⟩ => ⟨k1, od', om', h.stay k2 (Stay.trans h3 k3) rfl h.waits⟩⟩
theorem TD.off {w wr : World} {bp p pm n : Nat} {cs : Array Value} {od om : Nat → Prop} {D : DS} {T : TS} {tv uv : Value} {j : Nat} (h : TD w wr bp p pm n cs od om D T tv uv j) (k : Int) (hk : Bd k) :
    Calls Try.prog 46 #[.pointer (some ⟨p, 0, none⟩), I k] wr fun e w' => e = .returned (.tuple #[]) ∧ (∀ b o, Held od om wr b o → w'.heap[b]? = some o) ∧ Calls Try.prog 47 #[.pointer (some ⟨pm, 0, none⟩), I k] w' fun e w'' => e = .returned (.tuple #[]) ∧ ∃ od' om', TD w w'' bp p pm n cs od' om' (D.Off k) T tv uv j :=
  (both_off h.both k hk).mono fun e w' ⟨h1, od', h2, h3⟩ => ⟨h1, fun b o hb => (h3 b o hb).1, (both_roff h2 k hk).mono fun e w'' ⟨k1, om', k2, k3⟩ => ⟨k1, od', om', h.stay k2 (Stay.trans h3 k3) (DS.Off_len D k) (Nat.le_trans (DS.Off_waits' D k) h.waits)⟩⟩
theorem TD.on' {w wr : World} {bp p pm n : Nat} {cs : Array Value} {od om : Nat → Prop} {D : DS} {T : TS} {tv uv : Value} {j : Nat} (h : TD w wr bp p pm n cs od om D T tv uv j) :
    Calls Try.prog 48 #[.pointer (some ⟨p, 0, none⟩)] wr fun e w' => e = .returned (.tuple #[]) ∧ (∃ x, w'.cell? ⟨pm, 3, none⟩ = some (.bool x)) ∧ w'.frozen? ⟨pm, 3, none⟩ = false ∧ ∃ od' om', TD w (w'.setCell ⟨pm, 3, none⟩ (.bool true)) bp p pm n cs od' om' D.On T tv uv j ∧ Stay od om od' om' wr (w'.setCell ⟨pm, 3, none⟩ (.bool true)) :=
  (both_on h.both).mono fun e w' ⟨h1, od', h2, h3⟩ => by
    obtain ⟨as0, cs0, d0, d3, d4, dfr⟩ := h2.m.cells
    obtain ⟨om', k2, k3⟩ := h2.mstep h2.m.on
    exact ⟨h1, ⟨_, d3⟩, dfr 3, od', om', h.stay k2 (Stay.trans h3 k3) rfl h.waits, Stay.trans h3 k3⟩
set_option maxRecDepth 100000 in
set_option maxHeartbeats 40000000 in
theorem tdoes_walk (w : World) (pg lo hi sp : Int) (hpg : Bd pg) (hlo : Bd lo) (hhi : Bd hi) (hsp : Bd sp) (fv : Value) (first : List UInt8) (hf : Sees w fv first) (hfl : first.length ≤ 140737488355328) (a1 : Option Addr) (cap : Nat) (L : List Cl) (hs : IsScr w a1 L) (hok : ScrOk L) :
    Calls Try.prog 19 #[.agg #[I pg, I lo, I hi, fv, I sp], .slice a1 L.length cap] w fun e w' => e = .returned (.bool true) ∧ Below w.heap.size w w' := by
  obtain ⟨CS, hCS⟩ : ∃ CS, CS = #[I pg, I lo, I hi, fv, I sp] := ⟨_, rfl⟩
  have hb0 : Below w.heap.size w (w.alloc (.cells #[I pg, I lo, I hi, fv, I sp] 94)) := (Below.refl _ _).alloc (Nat.le_refl _) _
  have hp0 : (w.alloc (.cells #[I pg, I lo, I hi, fv, I sp] 94)).heap[w.heap.size]? = some (.cells #[I pg, I lo, I hi, fv, I sp] 94 (0, 0)) := heap_alloc_new _ _
  have HF := hid hf
  have HS := hid hs
  have HP := hid hp0
  have HB0 := hid hb0
  have HOK := hid hok
  have hll := hok.l
  have HCS := hid hCS
  clear hb0 hp0 hs hok hf hCS
  go_enter Try.func19, Try.ntmps19
  have HZ := hid (show (w.alloc (.cells #[I pg, I lo, I hi, fv, I sp] 94)).heap.size = w.heap.size + 1 by simp)
  go_wp2_with (go_at_call 64; refine (wakes4_any _).mono ?_; rintro e w1 ⟨rfl, hb⟩; have HB1 := hid (HB0.out.trans (hb.mono HB0.out.size)); have HP1 := hid ((hb.block w.heap.size (by rw [HZ.out]; omega)).trans HP.out); clear hb; have c0 : w1.cell? ⟨w.heap.size, 0, none⟩ = some (I pg) := (by rw [cell_of_row _ _ _ _ _ _ HP1.out]; rfl); have c1 : w1.cell? ⟨w.heap.size, 1, none⟩ = some (I lo) := (by rw [cell_of_row _ _ _ _ _ _ HP1.out]; rfl); have c2 : w1.cell? ⟨w.heap.size, 2, none⟩ = some (I hi) := (by rw [cell_of_row _ _ _ _ _ _ HP1.out]; rfl); have c3 : w1.cell? ⟨w.heap.size, 3, none⟩ = some fv := (by rw [cell_of_row _ _ _ _ _ _ HP1.out]; rfl); have c4 : w1.cell? ⟨w.heap.size, 4, none⟩ = some (I sp) := (by rw [cell_of_row _ _ _ _ _ _ HP1.out]; rfl))
  clear HP HB0
  refine (tlong_any w1 pg lo hi sp fv first (HF.out.below HB1.out) hfl a1 cap L (HS.out.below HB1.out) HOK.out).mono ?_
  rintro e w2 ⟨b, rfl, hbf, hb⟩
  have HB2 := hid (HB1.out.trans (hb.mono HB1.out.size))
  cases b with
  | true =>
    clear c0 c1 c2 c3 c4 hb hbf
    go_wp2_with fail
    go_ret
    exact ⟨rfl, HB2.out⟩
  | false =>
  obtain ⟨l1, l2, l3, l4⟩ := hbf rfl
  have HP2 := hid ((hb.block w.heap.size (by have := (Array.getElem?_eq_some_iff.1 HP1.out).1; omega)).trans HP1.out)
  have c0' := cell_on hb c0
  have c1' := cell_on hb c1
  have c2' := cell_on hb c2
  have c3' := cell_on hb c3
  have c4' := cell_on hb c4
  have HL4 := hid l4
  clear c0 c1 c2 c3 c4 hb hbf HP1 HB1 l4
  go_wp2_with fail
  refine (begun_any w2 pg lo hi sp hpg hsp fv first (HF.out.below HB2.out) l3).mono ?_
  rintro e w3 ⟨p, pm, od, om, D, rfl, hbo, hwt⟩
  have hbp : w.heap.size < w2.heap.size := (Array.getElem?_eq_some_iff.1 HP2.out).1
  have HTD0 : Hid (∀ tv uv T, Tapes w w3 od om p pm D.safe.length T tv uv → TD w w3 w.heap.size p pm D.safe.length CS od om D T tv uv 0) := hid (fun tv uv T ht => ⟨hbo.back HB2.out, by rw [HCS.out]; exact ⟨(hbo.below.block _ hbp).trans HP2.out, fun h => by have := hbo.fd _ h; omega, fun h => by have := hbo.fm _ h; omega⟩, ht, rfl, by omega⟩)
  have HBO := hid (hbo.back HB2.out)
  have d1 := cell_on (hbo.below.mono (Nat.le_refl _)) c1'
  have d2 := cell_on (hbo.below.mono (Nat.le_refl _)) c2'
  clear c0' c1' c2' c3' c4' hbo hwt hbp HP2
  go_wp2_with fail
  refine (both_open HBO.out lo hi hlo hhi).mono ?_
  rintro e w4 ⟨tv, v, rfl, hb4, hs4, ht4⟩
  obtain ⟨av, cv, rfl, hav⟩ := hs4.len
  have e1 := cell_on hb4 d1
  have e2 := cell_on hb4 d2
  have HB4 := hid hb4
  have HS4 := hid hs4
  have HT4 := hid ht4
  clear d1 d2 hb4 hs4 ht4
  go_wp2_with fail
  refine (both_ropen (HBO.out.on HB4.out) lo hi hlo hhi).mono ?_
  rintro e w5 ⟨uv, v5, rfl, hb5, hs5, ht5⟩
  obtain ⟨av5, cv5, rfl, hav5⟩ := hs5.len
  have HTD5 : Hid (TD w w5 w.heap.size p pm D.safe.length CS od om D (openTape D lo hi) tv uv 0) := hid ((HTD0.out (.pointer none) (.pointer none) (openTape D lo hi) (.inl ⟨rfl, rfl⟩)).opened HB4.out hb5 HT4.out ht5)
  have hal := alike_any w5 _ _ _ _ (HS4.out.below hb5) hs5
  rw [decide_eq_true rfl] at hal
  have HAL := hid hal
  obtain ⟨bn, hq1, hq2⟩ := nil_both HT4.out ht5
  have g1 := fun w' => (ptr_nil 86 (.inl rfl) tv hq1.1 bn hq1.2 (.tmp 57) (.const (.pointer none)) w').1
  have g2 := fun w' => (ptr_nil 86 (.inl rfl) tv hq1.1 bn hq1.2 (.tmp 57) (.const (.pointer none)) w').2
  have g3 := fun w' => (ptr_nil 65 (.inr rfl) uv hq2.1 bn hq2.2 (.tmp 59) (.const (.pointer none)) w').1
  have g4 := fun w' => (ptr_nil 65 (.inr rfl) uv hq2.1 bn hq2.2 (.tmp 59) (.const (.pointer none)) w').2
  clear e1 e2 hal hs5 hb5 ht5 HTD0 HBO HB4 HS4 HT4 hq1 hq2
  go_wp2_with (first | (go_at_call 67; refine HAL.out.mono ?_; rintro e w6 ⟨rfl, m6, hw6⟩; have HTD6 := hid (show TD w w6 w.heap.size p pm D.safe.length CS od om D (openTape D lo hi) tv uv 0 from hw6 ▸ HTD5.out.on (below_drewN w5 m6)); clear hw6) | (go_at_call 72; refine HTD6.out.same.mono ?_; rintro e w7 ⟨rfl, htd7, -⟩; have HTD7 := hid htd7; clear htd7))
  clear g1 g2 g3 g4 HAL HTD5 HTD6 hav hav5
  generalize hnn : D.safe.length = n at *
  clear hnn
  generalize openTape D lo hi = T at *
  go_loopw [7, 10, 71] (fun tv uv i wr => ∃ (j : Nat) (od om : Nat → Prop) (D : DS) (T : TS), j ≤ L.length ∧ i = I j ∧ Hid (TD w wr w.heap.size p pm n CS od om D T tv uv j)) (fun _ _ i _ => L.length - (intOf i).toNat)
  case atStart => exact ⟨0, od, om, D, T, by omega, rfl, HTD7⟩
  case round =>
    clear HTD7
    obtain ⟨j, od, om, D, T, hj, rfl, HT⟩ := hrel
    by_cases hlt : j < L.length
    rotate_left
    · have f1 : decide ((j : Int) < (L.length : Int)) = false := decide_eq_false (by omega)
      have HBW := hid HT.out.both.below
      go_wp2_with (first | (go_at_call 65; refine (open_nil _ 0 1).mono ?_; rintro e wz ⟨rfl, hb⟩; have HBZ := hid (HBW.out.trans (hb.mono HBW.out.size)); clear hb) | (go_at_call 66; refine (tappend_nil _ _).mono ?_; rintro e wy ⟨rfl, rfl⟩) | (go_at_call 74; refine (tcount_nil _).mono ?_; rintro e wx ⟨rfl, rfl⟩))
      go_ret
      exact ⟨rfl, HBZ.out⟩
    · have f1 : decide ((j : Int) < (L.length : Int)) = true := decide_eq_true (by omega)
      obtain ⟨x, hx⟩ : ∃ x, L[j]? = some x := ⟨_, List.getElem?_eq_getElem hlt⟩
      obtain ⟨g, off, rfl, hc0⟩ := HS.out (by omega)
      have hc := hc0 j x hx
      obtain ⟨e0', e1', e2', u, e3', hu0⟩ := hc
      have e0 := cell_on HT.out.both.below e0'
      have e1 := cell_on HT.out.both.below e1'
      have e2 := cell_on HT.out.both.below e2'
      have e3 := cell_on HT.out.both.below e3'
      have hu := hu0.below HT.out.both.below
      have hxn := HOK.out.n x (List.mem_of_getElem? hx)
      have hxj := HOK.out.k x (List.mem_of_getElem? hx)
      have hxb := HL4.out x (List.mem_of_getElem? hx)
      obtain ⟨xk, xn, xj, xb⟩ := x
      simp only at e0 e1 e2 hu hxb hxn hxj
      obtain ⟨au, cu, rfl, hul⟩ := hu.form0
      have hba : Below wr.heap.size wr (wr.alloc (.cells #[I xk, I xn, I xj, .slice au xb.length cu] 101)) := (Below.refl _ _).alloc (Nat.le_refl _) _
      have HTA := hid (HT.out.on hba)
      have HU := hid (hu.below hba)
      have HU3 : Hid (Sees w (.slice au xb.length cu) xb) := hid hu0
      have HC : Hid (Held od om (wr.alloc (.cells #[I xk, I xn, I xj, .slice au xb.length cu] 101)) wr.heap.size (.cells #[I xk, I xn, I xj, .slice au xb.length cu] 101 (0, 0))) := hid ⟨heap_alloc_new _ _, fun hk => by have := HT.out.both.d.lt _ hk; omega, fun hk => by have := HT.out.both.m.lt _ hk; omega⟩
      have hbl : w.heap.size < wr.heap.size := HT.out.held.lt
      have hkk : xk = 0 ∨ xk = 1 ∨ xk = 2 ∨ xk = 3 ∨ xk = 4 ∨ xk = 5 ∨ ((xk == 0) = false ∧ (xk == 1) = false ∧ (xk == 2) = false ∧ (xk == 3) = false ∧ (xk == 4) = false ∧ (xk == 5) = false) := by
        simp only [beq_eq_false_iff_ne]; omega
      clear hc0 hu hu0 hx hba HT e0' e1' e2' e3'
      rcases hkk with rfl | rfl | rfl | rfl | rfl | rfl | ⟨q0, q1, q2, q3, q4, q5⟩
      rotate_left
      -- 1: the power will go
      · as_aux_lemma =>
          obtain ⟨wa, hwa⟩ : ∃ wa, wa = wr.alloc (.cells #[I 1, I xn, I xj, .slice au xb.length cu] 101) := ⟨_, rfl⟩
          obtain ⟨bc, hbc⟩ : ∃ bc, bc = wr.heap.size := ⟨_, rfl⟩
          rw [← hwa] at HTA HU HC
          rw [← hbc] at HC
          go_upto_region 22 with (fail)
          rw [← hwa, ← hbc]
          clear e0 e1 e2 e3 hwa hbc
          have c1 := HC.out.cell 1 (I xn) rfl
          have c2 := HC.out.cell 2 (I xj) rfl
          go_upto_region 36 with (first | (go_at_call 44; go_must (refine (HTA.out.arm xn xj hxn hxj).mono ?_); rintro e wb ⟨rfl, hst, hnx⟩; have HNX := hid hnx; have c1' := (show wb.cell? ⟨bc, 1, none⟩ = some (I xn) from by rw [cell_of_row _ _ _ _ _ _ (hst bc _ HC.out)]; rfl); have c2' := (show wb.cell? ⟨bc, 2, none⟩ = some (I xj) from by rw [cell_of_row _ _ _ _ _ _ (hst bc _ HC.out)]; rfl); clear hst hnx) | (go_at_call 45; go_must (refine HNX.out.mono ?_); rintro e wz ⟨rfl, od', om', htz⟩; have HTZ := hid (TD.nj htz (Nat.le_succ j)); clear htz HNX))
          clear c1 c2 c1' c2' HTA HU HC
          rcases HTZ.out.tapes with ⟨rfl, rfl⟩ | ⟨t, u, rfl, rfl, ht, hu, hot, hou, htu, hz1, hz2⟩
          · go_wp2_with (first | (go_at_call 72; refine HTZ.out.same.mono ?_; rintro e w8 ⟨rfl, htd, -⟩; have HT8 := hid htd; clear htd) | (go_at_call 74; refine (tcount_nil _).mono ?_; rintro e wx ⟨rfl, rfl⟩))
            go_roundw
            case rel => exact ⟨j + 1, _, _, _, _, by omega, by go_num, HT8⟩
            case measure => simp [intOf]; omega
          · have d4 := hu.c4
            have HTP := hid ht
            clear ht hu hot hou htu hz1 hz2
            go_wp2_with (first | (go_at_call 72; refine HTZ.out.same.mono ?_; rintro e w8 ⟨rfl, htd, hb8⟩; have HT8 := hid htd; have HTP8 := hid (HTP.out.below hb8); clear htd hb8) | (go_at_call 74; refine (tcount_any _ t p _ _ HTP8.out).mono ?_; rintro e wx ⟨rfl, rfl⟩))
            go_roundw
            case rel => exact ⟨j + 1, _, _, _, _, by omega, by go_num, HT8⟩
            case measure => simp [intOf]; omega
      -- 2: the power goes
      · as_aux_lemma =>
          obtain ⟨wa, hwa⟩ : ∃ wa, wa = wr.alloc (.cells #[I 2, I xn, I xj, .slice au xb.length cu] 101) := ⟨_, rfl⟩
          obtain ⟨bc, hbc⟩ : ∃ bc, bc = wr.heap.size := ⟨_, rfl⟩
          rw [← hwa] at HTA HU HC
          rw [← hbc] at HC
          go_upto_region 25 with (fail)
          rw [← hwa, ← hbc]
          clear e0 e1 e2 e3 hwa hbc
          have c2 := HC.out.cell 2 (I xj) rfl
          go_upto_region 36 with (first | (go_at_call 46; go_must (refine (HTA.out.off xj hxj).mono ?_); rintro e wb ⟨rfl, hst, hnx⟩; have HNX := hid hnx; have c2' := (show wb.cell? ⟨bc, 2, none⟩ = some (I xj) from by rw [cell_of_row _ _ _ _ _ _ (hst bc _ HC.out)]; rfl); clear hst hnx) | (go_at_call 47; go_must (refine HNX.out.mono ?_); rintro e wz ⟨rfl, od', om', htz⟩; have HTZ := hid (TD.nj htz (Nat.le_succ j)); clear htz HNX))
          clear c2 c2' HTA HU HC
          rcases HTZ.out.tapes with ⟨rfl, rfl⟩ | ⟨t, u, rfl, rfl, ht, hu, hot, hou, htu, hz1, hz2⟩
          · go_wp2_with (first | (go_at_call 72; refine HTZ.out.same.mono ?_; rintro e w8 ⟨rfl, htd, -⟩; have HT8 := hid htd; clear htd) | (go_at_call 74; refine (tcount_nil _).mono ?_; rintro e wx ⟨rfl, rfl⟩))
            go_roundw
            case rel => exact ⟨j + 1, _, _, _, _, by omega, by go_num, HT8⟩
            case measure => simp [intOf]; omega
          · have d4 := hu.c4
            have HTP := hid ht
            clear ht hu hot hou htu hz1 hz2
            go_wp2_with (first | (go_at_call 72; refine HTZ.out.same.mono ?_; rintro e w8 ⟨rfl, htd, hb8⟩; have HT8 := hid htd; have HTP8 := hid (HTP.out.below hb8); clear htd hb8) | (go_at_call 74; refine (tcount_any _ t p _ _ HTP8.out).mono ?_; rintro e wx ⟨rfl, rfl⟩))
            go_roundw
            case rel => exact ⟨j + 1, _, _, _, _, by omega, by go_num, HT8⟩
            case measure => simp [intOf]; omega
      -- 3: the power is back
      · as_aux_lemma =>
          obtain ⟨wa, hwa⟩ : ∃ wa, wa = wr.alloc (.cells #[I 3, I xn, I xj, .slice au xb.length cu] 101) := ⟨_, rfl⟩
          obtain ⟨bc, hbc⟩ : ∃ bc, bc = wr.heap.size := ⟨_, rfl⟩
          rw [← hwa] at HTA HU HC
          rw [← hbc] at HC
          go_upto_region 14 with (fail)
          rw [← hwa, ← hbc]
          clear e0 e1 e2 e3 hwa hbc
          go_wp2_with (go_at_call 48; go_must (refine HTA.out.on'.mono ?_); rintro e wb ⟨rfl, ⟨x3, hx3⟩, hfz, od', om', htz, hst⟩; have HTY := hid (TD.nj htz (Nat.le_succ j)); have hc9 := (hst bc _ HC.out); have HC' := hid hc9; have c0' := hc9.cell 0 (I 3) rfl; clear htz hst hc9)
          have HTYd := hid (HTY.out.on (Ext.drew _))
          have k0 : ∀ w', KeepTwo bc w.heap.size (wb.setCell ⟨pm, 3, none⟩ (.bool true)).drew w' → w'.cell? ⟨bc, 0, none⟩ = some (I 3) := fun w' hh => by rw [cell_of_row _ _ _ _ _ _ (hh.1.trans HC'.out.1)]; rfl
          refine wp_region_fork (KeepTwo bc w.heap.size) [] [(0,0),(1,0),(2,0),(3,0),(4,0),(5,0),(6,0),(8,0),(9,0),(10,0)] (7,0) (11,0) [(11,1),(12,1),(13,0),(14,0)] [(7,1),(12,1),(13,0),(14,0)] _ _ _ _ _ (by kernel_rfl) KeepTwo.refl KeepTwo.trans (by kernel_rfl) (by simp only [pick, List.getElem?_toArray, List.getElem?_cons_zero, List.getElem?_cons_succ]; rfl) rfl rfl (by simp only [pick, List.getElem?_toArray, List.getElem?_cons_zero, List.getElem?_cons_succ]; rfl) (by simp only [pick, List.getElem?_toArray, List.getElem?_cons_zero, List.getElem?_cons_succ]; rfl) (fun c a d v w h => by cases d <;> exact h) ?_
          refine wpK_q (v := ?_) (a' := ?_) (by rfl) (fun w' hR => ?_) ?_ ?_
          rotate_left 2
          · go_simp; with_reducible rfl
          · simp only [Act.put, List.setIfInBounds_toArray, List.set_cons_zero, List.set_cons_succ]; rfl
          refine wpK_q (v := ?_) (a' := ?_) (by rfl) (fun w' hR => ?_) ?_ ?_
          rotate_left 2
          · go_simp; with_reducible rfl
          · simp only [Act.put, List.setIfInBounds_toArray, List.set_cons_zero, List.set_cons_succ]; rfl
          refine wpK_q (v := ?_) (a' := ?_) (by rfl) (fun w' hR => ?_) ?_ ?_
          rotate_left 2
          · go_simp; with_reducible rfl
          · simp only [Act.put, List.setIfInBounds_toArray, List.set_cons_zero, List.set_cons_succ]; rfl
          refine wpK_q (v := ?_) (a' := ?_) (by rfl) (fun w' hR => ?_) ?_ ?_
          rotate_left 2
          · go_simp; with_reducible rfl
          · simp only [Act.put, List.setIfInBounds_toArray, List.set_cons_zero, List.set_cons_succ]; rfl
          refine wpK_off (a' := ?_) (by rfl) ?_ ?_
          rotate_left
          · simp only [Act.put, List.setIfInBounds_toArray, List.set_cons_zero, List.set_cons_succ]; rfl
          refine wpK_off (a' := ?_) (by rfl) ?_ ?_
          rotate_left
          · simp only [Act.put, List.setIfInBounds_toArray, List.set_cons_zero, List.set_cons_succ]; rfl
          refine wpK_off (a' := ?_) (by rfl) ?_ ?_
          rotate_left
          · simp only [Act.put, List.setIfInBounds_toArray, List.set_cons_zero, List.set_cons_succ]; rfl
          refine wpK_off (a' := ?_) (by rfl) ?_ ?_
          rotate_left
          · simp only [Act.put, List.setIfInBounds_toArray, List.set_cons_zero, List.set_cons_succ]; rfl
          refine wpK_off (a' := ?_) (by rfl) ?_ ?_
          rotate_left
          · simp only [Act.put, List.setIfInBounds_toArray, List.set_cons_zero, List.set_cons_succ]; rfl
          refine wpK_off (a' := ?_) (by rfl) ?_ ?_
          rotate_left
          · simp only [Act.put, List.setIfInBounds_toArray, List.set_cons_zero, List.set_cons_succ]; rfl
          refine wpK_done (thenQ_normal ⟨?_, ?_⟩)
          all_goals
            as_aux_lemma =>
              refine wpK_off (a' := ?_) (by rfl) ?_ ?_
              rotate_left
              · simp only [Act.put, List.setIfInBounds_toArray, List.set_cons_zero, List.set_cons_succ]; rfl
              refine wpK_off (a' := ?_) (by rfl) ?_ ?_
              rotate_left
              · simp only [Act.put, List.setIfInBounds_toArray, List.set_cons_zero, List.set_cons_succ]; rfl
              refine wpK_off (a' := ?_) (by rfl) ?_ ?_
              rotate_left
              · simp only [Act.put, List.setIfInBounds_toArray, List.set_cons_zero, List.set_cons_succ]; rfl
              refine wpK_off (a' := ?_) (by rfl) ?_ ?_
              rotate_left
              · simp only [Act.put, List.setIfInBounds_toArray, List.set_cons_zero, List.set_cons_succ]; rfl
              refine wpK_q (v := ?_) (a' := ?_) (by rfl) (fun w' hR => ?_) ?_ ?_
              rotate_left 2
              · go_simp; with_reducible rfl
              · simp only [Act.put, List.setIfInBounds_toArray, List.set_cons_zero, List.set_cons_succ]; rfl
              refine wpK_done ?_
              clear k0 hx3 hfz c0' HTY HTA HU HC HC'
              generalize (wb.setCell ⟨pm, 3, none⟩ (.bool true)).drew = wy at *
              have HTY := HTYd
              clear HTYd
              have d1 := HTY.out.held.cell 1 (I lo) (by rw [HCS.out]; rfl)
              have d2 := HTY.out.held.cell 2 (I hi) (by rw [HCS.out]; rfl)
              go_wp2_with fail
              refine (both_open HTY.out.both lo hi hlo hhi).mono ?_
              rintro e w4 ⟨tv4, v4, rfl, hb4, hs4, ht4⟩
              obtain ⟨av, cv, rfl, hav⟩ := hs4.len
              have e1 := cell_on hb4 d1
              have e2 := cell_on hb4 d2
              have HB4 := hid hb4
              have HS4 := hid hs4
              have HT4 := hid ht4
              clear d1 d2 hb4 hs4 ht4
              go_wp2_with fail
              refine (both_ropen (HTY.out.both.on HB4.out) lo hi hlo hhi).mono ?_
              rintro e w5 ⟨uv5, v5, rfl, hb5, hs5, ht5⟩
              obtain ⟨av5, cv5, rfl, hav5⟩ := hs5.len
              have HTZ5 := hid (HTY.out.opened HB4.out hb5 HT4.out ht5)
              have hal := alike_any w5 _ _ _ _ (HS4.out.below hb5) hs5
              rw [decide_eq_true rfl] at hal
              have HAL := hid hal
              obtain ⟨bn, hq1, hq2⟩ := nil_both HT4.out ht5
              have g1 := fun w' => (ptr_nil 86 (.inl rfl) tv4 hq1.1 bn hq1.2 (.tmp 175) (.const (.pointer none)) w').1
              have g2 := fun w' => (ptr_nil 86 (.inl rfl) tv4 hq1.1 bn hq1.2 (.tmp 175) (.const (.pointer none)) w').2
              have g3 := fun w' => (ptr_nil 65 (.inr rfl) uv5 hq2.1 bn hq2.2 (.tmp 177) (.const (.pointer none)) w').1
              have g4 := fun w' => (ptr_nil 65 (.inr rfl) uv5 hq2.1 bn hq2.2 (.tmp 177) (.const (.pointer none)) w').2
              clear e1 e2 hal hs5 hb5 ht5 HB4 HS4 HT4 hq1 hq2 HTY
              go_upto_region 36 with (go_at_call 67; refine HAL.out.mono ?_; rintro e w6 ⟨rfl, m6, rfl⟩; have HTZ := hid (HTZ5.out.on (below_drewN w5 m6)))
              clear g1 g2 g3 g4 HAL HTZ5 hav hav5
              generalize w5.drewN m6 = wz at *
              rcases HTZ.out.tapes with ⟨rfl, rfl⟩ | ⟨t, u, rfl, rfl, ht, hu, hot, hou, htu, hz1, hz2⟩
              · go_wp2_with (first | (go_at_call 72; refine HTZ.out.same.mono ?_; rintro e w8 ⟨rfl, htd, -⟩; have HT8 := hid htd; clear htd) | (go_at_call 74; refine (tcount_nil _).mono ?_; rintro e wx ⟨rfl, rfl⟩))
                go_roundw
                case rel => exact ⟨j + 1, _, _, _, _, by omega, by go_num, HT8⟩
                case measure => simp [intOf]; omega
              · have d4 := hu.c4
                have HTP := hid ht
                clear ht hu hot hou htu hz1 hz2
                go_wp2_with (first | (go_at_call 72; refine HTZ.out.same.mono ?_; rintro e w8 ⟨rfl, htd, hb8⟩; have HT8 := hid htd; have HTP8 := hid (HTP.out.below hb8); clear htd hb8) | (go_at_call 74; refine (tcount_any _ t p _ _ HTP8.out).mono ?_; rintro e wx ⟨rfl, rfl⟩))
                go_roundw
                case rel => exact ⟨j + 1, _, _, _, _, by omega, by go_num, HT8⟩
                case measure => simp [intOf]; omega
      -- 4: opened anew
      · as_aux_lemma =>
          obtain ⟨wa, hwa⟩ : ∃ wa, wa = wr.alloc (.cells #[I 4, I xn, I xj, .slice au xb.length cu] 101) := ⟨_, rfl⟩
          obtain ⟨bc, hbc⟩ : ∃ bc, bc = wr.heap.size := ⟨_, rfl⟩
          rw [← hwa] at HTA HU HC
          rw [← hbc] at HC
          go_upto_region 30 with (fail)
          rw [← hwa, ← hbc]
          clear e0 e1 e2 e3 hwa hbc
          have HTYd := hid ((HTA.out.nj (Nat.le_succ j)).on (Ext.drew _))
          have k0 : ∀ w', KeepTwo bc w.heap.size wa.drew w' → w'.cell? ⟨bc, 0, none⟩ = some (I 4) := fun w' hh => by rw [cell_of_row _ _ _ _ _ _ (hh.1.trans HC.out.1)]; rfl
          refine wp_region_fork (KeepTwo bc w.heap.size) [] [(0,0),(1,0),(2,0),(3,0),(4,0),(5,0),(6,0),(8,0),(9,0),(10,0)] (7,0) (11,0) [(11,1),(12,1),(13,0),(14,0)] [(7,1),(12,1),(13,0),(14,0)] _ _ _ _ _ (by kernel_rfl) KeepTwo.refl KeepTwo.trans (by kernel_rfl) (by simp only [pick, List.getElem?_toArray, List.getElem?_cons_zero, List.getElem?_cons_succ]; rfl) rfl rfl (by simp only [pick, List.getElem?_toArray, List.getElem?_cons_zero, List.getElem?_cons_succ]; rfl) (by simp only [pick, List.getElem?_toArray, List.getElem?_cons_zero, List.getElem?_cons_succ]; rfl) (fun c a d v w h => by cases d <;> exact h) ?_
          refine wpK_q (v := ?_) (a' := ?_) (by rfl) (fun w' hR => ?_) ?_ ?_
          rotate_left 2
          · go_simp; with_reducible rfl
          · simp only [Act.put, List.setIfInBounds_toArray, List.set_cons_zero, List.set_cons_succ]; rfl
          refine wpK_q (v := ?_) (a' := ?_) (by rfl) (fun w' hR => ?_) ?_ ?_
          rotate_left 2
          · go_simp; with_reducible rfl
          · simp only [Act.put, List.setIfInBounds_toArray, List.set_cons_zero, List.set_cons_succ]; rfl
          refine wpK_q (v := ?_) (a' := ?_) (by rfl) (fun w' hR => ?_) ?_ ?_
          rotate_left 2
          · go_simp; with_reducible rfl
          · simp only [Act.put, List.setIfInBounds_toArray, List.set_cons_zero, List.set_cons_succ]; rfl
          refine wpK_q (v := ?_) (a' := ?_) (by rfl) (fun w' hR => ?_) ?_ ?_
          rotate_left 2
          · go_simp; with_reducible rfl
          · simp only [Act.put, List.setIfInBounds_toArray, List.set_cons_zero, List.set_cons_succ]; rfl
          refine wpK_off (a' := ?_) (by rfl) ?_ ?_
          rotate_left
          · simp only [Act.put, List.setIfInBounds_toArray, List.set_cons_zero, List.set_cons_succ]; rfl
          refine wpK_off (a' := ?_) (by rfl) ?_ ?_
          rotate_left
          · simp only [Act.put, List.setIfInBounds_toArray, List.set_cons_zero, List.set_cons_succ]; rfl
          refine wpK_off (a' := ?_) (by rfl) ?_ ?_
          rotate_left
          · simp only [Act.put, List.setIfInBounds_toArray, List.set_cons_zero, List.set_cons_succ]; rfl
          refine wpK_off (a' := ?_) (by rfl) ?_ ?_
          rotate_left
          · simp only [Act.put, List.setIfInBounds_toArray, List.set_cons_zero, List.set_cons_succ]; rfl
          refine wpK_off (a' := ?_) (by rfl) ?_ ?_
          rotate_left
          · simp only [Act.put, List.setIfInBounds_toArray, List.set_cons_zero, List.set_cons_succ]; rfl
          refine wpK_off (a' := ?_) (by rfl) ?_ ?_
          rotate_left
          · simp only [Act.put, List.setIfInBounds_toArray, List.set_cons_zero, List.set_cons_succ]; rfl
          refine wpK_done (thenQ_normal ⟨?_, ?_⟩)
          all_goals
            as_aux_lemma =>
              refine wpK_off (a' := ?_) (by rfl) ?_ ?_
              rotate_left
              · simp only [Act.put, List.setIfInBounds_toArray, List.set_cons_zero, List.set_cons_succ]; rfl
              refine wpK_off (a' := ?_) (by rfl) ?_ ?_
              rotate_left
              · simp only [Act.put, List.setIfInBounds_toArray, List.set_cons_zero, List.set_cons_succ]; rfl
              refine wpK_off (a' := ?_) (by rfl) ?_ ?_
              rotate_left
              · simp only [Act.put, List.setIfInBounds_toArray, List.set_cons_zero, List.set_cons_succ]; rfl
              refine wpK_off (a' := ?_) (by rfl) ?_ ?_
              rotate_left
              · simp only [Act.put, List.setIfInBounds_toArray, List.set_cons_zero, List.set_cons_succ]; rfl
              refine wpK_q (v := ?_) (a' := ?_) (by rfl) (fun w' hR => ?_) ?_ ?_
              rotate_left 2
              · go_simp; with_reducible rfl
              · simp only [Act.put, List.setIfInBounds_toArray, List.set_cons_zero, List.set_cons_succ]; rfl
              refine wpK_done ?_
              clear k0 HTA HU HC
              generalize wa.drew = wy at *
              have HTY := HTYd
              clear HTYd
              have d1 := HTY.out.held.cell 1 (I lo) (by rw [HCS.out]; rfl)
              have d2 := HTY.out.held.cell 2 (I hi) (by rw [HCS.out]; rfl)
              go_wp2_with fail
              refine (both_open HTY.out.both lo hi hlo hhi).mono ?_
              rintro e w4 ⟨tv4, v4, rfl, hb4, hs4, ht4⟩
              obtain ⟨av, cv, rfl, hav⟩ := hs4.len
              have e1 := cell_on hb4 d1
              have e2 := cell_on hb4 d2
              have HB4 := hid hb4
              have HS4 := hid hs4
              have HT4 := hid ht4
              clear d1 d2 hb4 hs4 ht4
              go_wp2_with fail
              refine (both_ropen (HTY.out.both.on HB4.out) lo hi hlo hhi).mono ?_
              rintro e w5 ⟨uv5, v5, rfl, hb5, hs5, ht5⟩
              obtain ⟨av5, cv5, rfl, hav5⟩ := hs5.len
              have HTZ5 := hid (HTY.out.opened HB4.out hb5 HT4.out ht5)
              have hal := alike_any w5 _ _ _ _ (HS4.out.below hb5) hs5
              rw [decide_eq_true rfl] at hal
              have HAL := hid hal
              obtain ⟨bn, hq1, hq2⟩ := nil_both HT4.out ht5
              have g1 := fun w' => (ptr_nil 86 (.inl rfl) tv4 hq1.1 bn hq1.2 (.tmp 175) (.const (.pointer none)) w').1
              have g2 := fun w' => (ptr_nil 86 (.inl rfl) tv4 hq1.1 bn hq1.2 (.tmp 175) (.const (.pointer none)) w').2
              have g3 := fun w' => (ptr_nil 65 (.inr rfl) uv5 hq2.1 bn hq2.2 (.tmp 177) (.const (.pointer none)) w').1
              have g4 := fun w' => (ptr_nil 65 (.inr rfl) uv5 hq2.1 bn hq2.2 (.tmp 177) (.const (.pointer none)) w').2
              clear e1 e2 hal hs5 hb5 ht5 HB4 HS4 HT4 hq1 hq2 HTY
              go_upto_region 36 with (go_at_call 67; refine HAL.out.mono ?_; rintro e w6 ⟨rfl, m6, rfl⟩; have HTZ := hid (HTZ5.out.on (below_drewN w5 m6)))
              clear g1 g2 g3 g4 HAL HTZ5 hav hav5
              generalize w5.drewN m6 = wz at *
              rcases HTZ.out.tapes with ⟨rfl, rfl⟩ | ⟨t, u, rfl, rfl, ht, hu, hot, hou, htu, hz1, hz2⟩
              · go_wp2_with (first | (go_at_call 72; refine HTZ.out.same.mono ?_; rintro e w8 ⟨rfl, htd, -⟩; have HT8 := hid htd; clear htd) | (go_at_call 74; refine (tcount_nil _).mono ?_; rintro e wx ⟨rfl, rfl⟩))
                go_roundw
                case rel => exact ⟨j + 1, _, _, _, _, by omega, by go_num, HT8⟩
                case measure => simp [intOf]; omega
              · have d4 := hu.c4
                have HTP := hid ht
                clear ht hu hot hou htu hz1 hz2
                go_wp2_with (first | (go_at_call 72; refine HTZ.out.same.mono ?_; rintro e w8 ⟨rfl, htd, hb8⟩; have HT8 := hid htd; have HTP8 := hid (HTP.out.below hb8); clear htd hb8) | (go_at_call 74; refine (tcount_any _ t p _ _ HTP8.out).mono ?_; rintro e wx ⟨rfl, rfl⟩))
                go_roundw
                case rel => exact ⟨j + 1, _, _, _, _, by omega, by go_num, HT8⟩
                case measure => simp [intOf]; omega
      -- 5: cleared, and opened anew
      · as_aux_lemma =>
          obtain ⟨wa, hwa⟩ : ∃ wa, wa = wr.alloc (.cells #[I 5, I xn, I xj, .slice au xb.length cu] 101) := ⟨_, rfl⟩
          obtain ⟨bc, hbc⟩ : ∃ bc, bc = wr.heap.size := ⟨_, rfl⟩
          rw [← hwa] at HTA HU HC
          rw [← hbc] at HC
          go_upto_region 30 with (fail)
          rw [← hwa, ← hbc]
          clear e0 e1 e2 e3 hwa hbc
          have HTd := hid (HTA.out.on (Ext.drew wa))
          have HCd : Hid (Held od om wa.drew bc (.cells #[I 5, I xn, I xj, .slice au xb.length cu] 101 (0, 0))) := hid (HC.out.on (Ext.drew wa))
          have k0 : ∀ w', KeepTwo bc w.heap.size wa.drew w' → w'.cell? ⟨bc, 0, none⟩ = some (I 5) := fun w' hh => by rw [cell_of_row _ _ _ _ _ _ (hh.1.trans HC.out.1)]; rfl
          have k1 : ∀ w', KeepTwo bc w.heap.size wa.drew w' → w'.cell? ⟨w.heap.size, 1, none⟩ = some (I lo) := fun w' hh => by rw [cell_of_row _ _ _ _ _ _ (hh.2.trans HTA.out.held.1), HCS.out]; rfl
          refine wp_region_fork (KeepTwo bc w.heap.size) [] [(0,0),(1,0),(2,0),(3,0),(4,0),(5,0),(6,0),(8,0),(9,0),(10,0)] (7,0) (11,0) [(11,1),(12,1),(13,0),(14,0)] [(7,1),(12,1),(13,0),(14,0)] _ _ _ _ _ (by kernel_rfl) KeepTwo.refl KeepTwo.trans (by kernel_rfl) (by simp only [pick, List.getElem?_toArray, List.getElem?_cons_zero, List.getElem?_cons_succ]; rfl) rfl rfl (by simp only [pick, List.getElem?_toArray, List.getElem?_cons_zero, List.getElem?_cons_succ]; rfl) (by simp only [pick, List.getElem?_toArray, List.getElem?_cons_zero, List.getElem?_cons_succ]; rfl) (fun c a d v w h => by cases d <;> exact h) ?_
          refine wpK_q (v := ?_) (a' := ?_) (by rfl) (fun w' hR => ?_) ?_ ?_
          rotate_left 2
          · go_simp; with_reducible rfl
          · simp only [Act.put, List.setIfInBounds_toArray, List.set_cons_zero, List.set_cons_succ]; rfl
          refine wpK_q (v := ?_) (a' := ?_) (by rfl) (fun w' hR => ?_) ?_ ?_
          rotate_left 2
          · go_simp; with_reducible rfl
          · simp only [Act.put, List.setIfInBounds_toArray, List.set_cons_zero, List.set_cons_succ]; rfl
          refine wpK_q (v := ?_) (a' := ?_) (by rfl) (fun w' hR => ?_) ?_ ?_
          rotate_left 2
          · go_simp; with_reducible rfl
          · simp only [Act.put, List.setIfInBounds_toArray, List.set_cons_zero, List.set_cons_succ]; rfl
          refine wpK_q (v := ?_) (a' := ?_) (by rfl) (fun w' hR => ?_) ?_ ?_
          rotate_left 2
          · go_simp; with_reducible rfl
          · simp only [Act.put, List.setIfInBounds_toArray, List.set_cons_zero, List.set_cons_succ]; rfl
          refine wpK_q (v := ?_) (a' := ?_) (by rfl) (fun w' hR => ?_) ?_ ?_
          rotate_left 2
          · go_simp; with_reducible rfl
          · simp only [Act.put, List.setIfInBounds_toArray, List.set_cons_zero, List.set_cons_succ]; rfl
          refine wpK_q (v := ?_) (a' := ?_) (by rfl) (fun w' hR => ?_) ?_ ?_
          rotate_left 2
          · go_simp; with_reducible rfl
          · simp only [Act.put, List.setIfInBounds_toArray, List.set_cons_zero, List.set_cons_succ]; rfl
          refine wpK_q (v := ?_) (a' := ?_) (by rfl) (fun w' hR => ?_) ?_ ?_
          rotate_left 2
          · go_simp; with_reducible rfl
          · simp only [Act.put, List.setIfInBounds_toArray, List.set_cons_zero, List.set_cons_succ]; rfl
          refine wpK_q (v := ?_) (a' := ?_) (by rfl) (fun w' hR => ?_) ?_ ?_
          rotate_left 2
          · go_simp; with_reducible rfl
          · simp only [Act.put, List.setIfInBounds_toArray, List.set_cons_zero, List.set_cons_succ]; rfl
          refine wpK_q (v := ?_) (a' := ?_) (by rfl) (fun w' hR => ?_) ?_ ?_
          rotate_left 2
          · go_simp; with_reducible rfl
          · simp only [Act.put, List.setIfInBounds_toArray, List.set_cons_zero, List.set_cons_succ]; rfl
          refine wpK_q (v := ?_) (a' := ?_) (by rfl) (fun w' hR => ?_) ?_ ?_
          rotate_left 2
          · go_simp; with_reducible rfl
          · simp only [Act.put, List.setIfInBounds_toArray, List.set_cons_zero, List.set_cons_succ]; rfl
          refine wpK_done (thenQ_normal ⟨?_, ?_⟩)
          focus
            refine wpK_call Try.func68 (by kernel_rfl) rfl rfl (by rfl) #[.pointer (some ⟨p, 0, none⟩), .int .i64 lo] (by simp only [List.map_toArray, List.map_cons, List.map_nil]; rfl) ?_
            refine (HTd.out.clear lo hlo (by omega)).mono ?_
            rintro e w2 ⟨rfl, od2, hb2, hs2⟩
            refine ⟨_, rfl, fun _ => ⟨(hs2 bc _ HCd.out).1.trans HCd.out.1.symm, (hs2 _ _ HTd.out.held).1.trans HTd.out.held.1.symm⟩, ?_⟩
            have hba2 : Below w2.heap.size w2 (w2.alloc (.cells (page0.map B).toArray 5)) := (Below.refl _ _).alloc (Nat.le_refl _) _
            refine wpK_v (v := .slice (some ⟨w2.heap.size, 0, none⟩) 256 256) (w' := w2.alloc (.cells (page0.map B).toArray 5)) (by rfl) (by have hh := val_of (page_made w2); exact hh) (fun _ => ⟨hba2.block bc (hs2 bc _ HCd.out).lt, hba2.block _ (hs2 _ _ HTd.out.held).lt⟩) (by simp only [Act.put, List.setIfInBounds_toArray, List.set_cons_zero, List.set_cons_succ]; rfl) ?_
            refine wpK_call Try.func51 (by kernel_rfl) rfl rfl (by rfl) #[.pointer (some ⟨pm, 0, none⟩), .int .i64 lo, .slice (some ⟨w2.heap.size, 0, none⟩) 256 256] (by simp only [List.map_toArray, List.map_cons, List.map_nil]; rfl) ?_
            refine (HTd.out.clear2 hlo (by omega) (hb2.on hba2) (hs2.trans (Stay.below hba2)) rfl (page0_sees w2) (fun hk => by have := hb2.m.lt _ hk; omega)).mono ?_
            rintro e w3 ⟨rfl, om2, htd, hst⟩
            refine ⟨_, rfl, fun _ => ⟨(hst bc _ HCd.out).1.trans ((hba2.block bc (hs2 bc _ HCd.out).lt).trans (hs2 bc _ HCd.out).1).symm, (hst _ _ HTd.out.held).1.trans ((hba2.block _ (hs2 _ _ HTd.out.held).lt).trans (hs2 _ _ HTd.out.held).1).symm⟩, ?_⟩
            refine wpK_q (v := ?_) (a' := ?_) (by rfl) (fun w' hR => ?_) ?_ ?_
            rotate_left 2
            · go_simp; with_reducible rfl
            · simp only [Act.put, List.setIfInBounds_toArray, List.set_cons_zero, List.set_cons_succ]; rfl
            refine wpK_q (v := ?_) (a' := ?_) (by rfl) (fun w' hR => ?_) ?_ ?_
            rotate_left 2
            · go_simp; with_reducible rfl
            · simp only [Act.put, List.setIfInBounds_toArray, List.set_cons_zero, List.set_cons_succ]; rfl
            refine wpK_done ?_
            have HTY := hid htd
            clear hb2 hs2 hba2 htd hst
            generalize w3 = wy at *
          rotate_left
          focus
            have hba2 : Below wa.drew.heap.size wa.drew (wa.drew.alloc (.cells (page0.map B).toArray 5)) := (Below.refl _ _).alloc (Nat.le_refl _) _
            refine wpK_v (v := .slice (some ⟨wa.drew.heap.size, 0, none⟩) 256 256) (w' := wa.drew.alloc (.cells (page0.map B).toArray 5)) (by rfl) (by have hh := val_of (page_made wa.drew); exact hh) (fun _ => ⟨hba2.block bc HCd.out.lt, hba2.block _ HTd.out.held.lt⟩) (by simp only [Act.put, List.setIfInBounds_toArray, List.set_cons_zero, List.set_cons_succ]; rfl) ?_
            have HTe := hid (HTd.out.on hba2)
            have HCe := hid (HCd.out.on hba2)
            have HPe : Hid (Held od om (wa.drew.alloc (.cells (page0.map B).toArray 5)) wa.drew.heap.size (.cells (page0.map B).toArray 5 (0, 0))) := hid ⟨heap_alloc_new _ _, fun hk => by have := HTd.out.both.d.lt _ hk; omega, fun hk => by have := HTd.out.both.m.lt _ hk; omega⟩
            have HSe := hid (page0_sees wa.drew)
            have HBe := hid (And.intro (hba2.block bc HCd.out.lt) (hba2.block _ HTd.out.held.lt))
            generalize wa.drew.heap.size = gp at *
            generalize wa.drew.alloc (.cells (page0.map B).toArray 5) = we at *
            refine wpK_call Try.func68 (by kernel_rfl) rfl rfl (by rfl) #[.pointer (some ⟨p, 0, none⟩), .int .i64 lo] (by simp only [List.map_toArray, List.map_cons, List.map_nil]; rfl) ?_
            refine (HTe.out.clear lo hlo (by omega)).mono ?_
            rintro e w2 ⟨rfl, od2, hb2, hs2⟩
            refine ⟨_, rfl, fun _ => ⟨(hs2 bc _ HCe.out).1.trans HCe.out.1.symm, (hs2 _ _ HTe.out.held).1.trans HTe.out.held.1.symm⟩, ?_⟩
            refine wpK_call Try.func51 (by kernel_rfl) rfl rfl (by rfl) #[.pointer (some ⟨pm, 0, none⟩), .int .i64 lo, .slice (some ⟨gp, 0, none⟩) 256 256] (by simp only [List.map_toArray, List.map_cons, List.map_nil]; rfl) ?_
            have hp2 := hs2 gp _ HPe.out
            refine (HTe.out.clear2 hlo (by omega) hb2 hs2 rfl (HSe.out.keep (fun q hq => by have e : gp = q := Option.some.inj hq; subst e; exact hp2.1.trans HPe.out.1.symm)) hp2.2.2).mono ?_
            rintro e w3 ⟨rfl, om2, htd, hst⟩
            refine ⟨_, rfl, fun _ => ⟨(hst bc _ HCe.out).1.trans (hs2 bc _ HCe.out).1.symm, (hst _ _ HTe.out.held).1.trans (hs2 _ _ HTe.out.held).1.symm⟩, ?_⟩
            refine wpK_q (v := ?_) (a' := ?_) (by rfl) (fun w' hR => ?_) ?_ ?_
            rotate_left 2
            · go_simp; with_reducible rfl
            · simp only [Act.put, List.setIfInBounds_toArray, List.set_cons_zero, List.set_cons_succ]; rfl
            refine wpK_q (v := ?_) (a' := ?_) (by rfl) (fun w' hR => ?_) ?_ ?_
            rotate_left 2
            · go_simp; with_reducible rfl
            · simp only [Act.put, List.setIfInBounds_toArray, List.set_cons_zero, List.set_cons_succ]; rfl
            refine wpK_done ?_
            have HTY := hid htd
            clear hb2 hs2 hba2 htd hst HTe HCe HPe HSe HBe hp2
            generalize w3 = wy at *
          rotate_left
          all_goals
            as_aux_lemma =>
              clear k0 k1 HTA HU HC HTd HCd
              have d1 := HTY.out.held.cell 1 (I lo) (by rw [HCS.out]; rfl)
              have d2 := HTY.out.held.cell 2 (I hi) (by rw [HCS.out]; rfl)
              go_wp2_with fail
              refine (both_open HTY.out.both lo hi hlo hhi).mono ?_
              rintro e w4 ⟨tv4, v4, rfl, hb4, hs4, ht4⟩
              obtain ⟨av, cv, rfl, hav⟩ := hs4.len
              have e1 := cell_on hb4 d1
              have e2 := cell_on hb4 d2
              have HB4 := hid hb4
              have HS4 := hid hs4
              have HT4 := hid ht4
              clear d1 d2 hb4 hs4 ht4
              go_wp2_with fail
              refine (both_ropen (HTY.out.both.on HB4.out) lo hi hlo hhi).mono ?_
              rintro e w5 ⟨uv5, v5, rfl, hb5, hs5, ht5⟩
              obtain ⟨av5, cv5, rfl, hav5⟩ := hs5.len
              have HTZ5 := hid (HTY.out.opened HB4.out hb5 HT4.out ht5)
              have hal := alike_any w5 _ _ _ _ (HS4.out.below hb5) hs5
              rw [decide_eq_true rfl] at hal
              have HAL := hid hal
              obtain ⟨bn, hq1, hq2⟩ := nil_both HT4.out ht5
              have g1 := fun w' => (ptr_nil 86 (.inl rfl) tv4 hq1.1 bn hq1.2 (.tmp 175) (.const (.pointer none)) w').1
              have g2 := fun w' => (ptr_nil 86 (.inl rfl) tv4 hq1.1 bn hq1.2 (.tmp 175) (.const (.pointer none)) w').2
              have g3 := fun w' => (ptr_nil 65 (.inr rfl) uv5 hq2.1 bn hq2.2 (.tmp 177) (.const (.pointer none)) w').1
              have g4 := fun w' => (ptr_nil 65 (.inr rfl) uv5 hq2.1 bn hq2.2 (.tmp 177) (.const (.pointer none)) w').2
              clear e1 e2 hal hs5 hb5 ht5 HB4 HS4 HT4 hq1 hq2 HTY
              go_upto_region 36 with (go_at_call 67; refine HAL.out.mono ?_; rintro e w6 ⟨rfl, m6, rfl⟩; have HTZ := hid (HTZ5.out.on (below_drewN w5 m6)))
              clear g1 g2 g3 g4 HAL HTZ5 hav hav5
              generalize w5.drewN m6 = wz at *
              rcases HTZ.out.tapes with ⟨rfl, rfl⟩ | ⟨t, u, rfl, rfl, ht, hu, hot, hou, htu, hz1, hz2⟩
              · go_wp2_with (first | (go_at_call 72; refine HTZ.out.same.mono ?_; rintro e w8 ⟨rfl, htd, -⟩; have HT8 := hid htd; clear htd) | (go_at_call 74; refine (tcount_nil _).mono ?_; rintro e wx ⟨rfl, rfl⟩))
                go_roundw
                case rel => exact ⟨j + 1, _, _, _, _, by omega, by go_num, HT8⟩
                case measure => simp [intOf]; omega
              · have d4 := hu.c4
                have HTP := hid ht
                clear ht hu hot hou htu hz1 hz2
                go_wp2_with (first | (go_at_call 72; refine HTZ.out.same.mono ?_; rintro e w8 ⟨rfl, htd, hb8⟩; have HT8 := hid htd; have HTP8 := hid (HTP.out.below hb8); clear htd hb8) | (go_at_call 74; refine (tcount_any _ t p _ _ HTP8.out).mono ?_; rintro e wx ⟨rfl, rfl⟩))
                go_roundw
                case rel => exact ⟨j + 1, _, _, _, _, by omega, by go_num, HT8⟩
                case measure => simp [intOf]; omega
      -- others
      · as_aux_lemma =>
          obtain ⟨wa, hwa⟩ : ∃ wa, wa = wr.alloc (.cells #[I xk, I xn, I xj, .slice au xb.length cu] 101) := ⟨_, rfl⟩
          rw [← hwa] at HTA HU HC
          go_upto_region 36 with (fail)
          rw [← hwa]
          clear e0 e1 e2 e3 hwa
          have HTZ := hid (HTA.out.nj (Nat.le_succ j))
          clear HTA HU HC
          generalize wa = wz at *
          rcases HTZ.out.tapes with ⟨rfl, rfl⟩ | ⟨t, u, rfl, rfl, ht, hu, hot, hou, htu, hz1, hz2⟩
          · go_wp2_with (first | (go_at_call 72; refine HTZ.out.same.mono ?_; rintro e w8 ⟨rfl, htd, -⟩; have HT8 := hid htd; clear htd) | (go_at_call 74; refine (tcount_nil _).mono ?_; rintro e wx ⟨rfl, rfl⟩))
            go_roundw
            case rel => exact ⟨j + 1, _, _, _, _, by omega, by go_num, HT8⟩
            case measure => simp [intOf]; omega
          · have d4 := hu.c4
            have HTP := hid ht
            clear ht hu hot hou htu hz1 hz2
            go_wp2_with (first | (go_at_call 72; refine HTZ.out.same.mono ?_; rintro e w8 ⟨rfl, htd, hb8⟩; have HT8 := hid htd; have HTP8 := hid (HTP.out.below hb8); clear htd hb8) | (go_at_call 74; refine (tcount_any _ t p _ _ HTP8.out).mono ?_; rintro e wx ⟨rfl, rfl⟩))
            go_roundw
            case rel => exact ⟨j + 1, _, _, _, _, by omega, by go_num, HT8⟩
            case measure => simp [intOf]; omega
      -- 0: a record
      · as_aux_lemma =>
          obtain ⟨wa, hwa⟩ : ∃ wa, wa = wr.alloc (.cells #[I 0, I xn, I xj, .slice au xb.length cu] 101) := ⟨_, rfl⟩
          obtain ⟨bc, hbc⟩ : ∃ bc, bc = wr.heap.size := ⟨_, rfl⟩
          rw [← hwa] at HTA HU HC
          rw [← hbc] at HC
          go_upto_region 18 with (fail)
          rw [← hwa, ← hbc]
          clear e0 e1 e2 e3 hwa hbc
          rcases HTA.out.tapes with ⟨rfl, rfl⟩ | ⟨t, u, rfl, rfl, -, -, -, -, -, hz1, hz2⟩
          · have HNX := hid (HTA.out.nj (Nat.le_succ j))
            go_wp2_with fail
            go_roundw
            case rel => exact ⟨j + 1, _, _, _, _, by omega, by go_num, HNX⟩
            case measure => simp [intOf]; omega
          go_upto_region 19 with (fail)
          have HTd := hid (HTA.out.on (Ext.drew wa))
          have HCd : Hid (Held od om wa.drew bc (.cells #[I 0, I xn, I xj, .slice au xb.length cu] 101 (0, 0))) := hid (HC.out.on (Ext.drew wa))
          have k3 : ∀ w', KeepAt bc wa.drew w' → w'.cell? ⟨bc, 3, none⟩ = some (.slice au xb.length cu) := fun w' hh => by rw [cell_of_row _ _ _ _ _ _ (hh.1.trans HC.out.1)]; rfl
          have happ := HTd.out.append rfl rfl (HU.out.below (Ext.drew wa)) HU3.out (by omega)
          refine wp_region_order (KeepAt bc) [] [(0,0),(1,0),(2,0),(4,0),(5,0),(6,0),(3,1),(7,1),(8,0)] _ (by kernel_rfl) rfl KeepAt.refl KeepAt.trans (by kernel_rfl) (by simp only [pick, List.getElem?_toArray, List.getElem?_cons_zero, List.getElem?_cons_succ]; rfl) (fun c a d v w h => by cases d <;> exact h) ?_
          refine wpK_q (v := ?_) (a' := ?_) (by rfl) (fun w' hR => ?_) ?_ ?_
          rotate_left 2
          · go_simp; with_reducible rfl
          · simp only [Act.put, List.setIfInBounds_toArray, List.set_cons_zero, List.set_cons_succ]; rfl
          refine wpK_q (v := ?_) (a' := ?_) (by rfl) (fun w' hR => ?_) ?_ ?_
          rotate_left 2
          · go_simp; with_reducible rfl
          · simp only [Act.put, List.setIfInBounds_toArray, List.set_cons_zero, List.set_cons_succ]; rfl
          refine wpK_q (v := ?_) (a' := ?_) (by rfl) (fun w' hR => ?_) ?_ ?_
          rotate_left 2
          · go_simp; with_reducible rfl
          · simp only [Act.put, List.setIfInBounds_toArray, List.set_cons_zero, List.set_cons_succ]; rfl
          refine wpK_q (v := ?_) (a' := ?_) (by rfl) (fun w' hR => ?_) ?_ ?_
          rotate_left 2
          · go_simp; with_reducible rfl
          · simp only [Act.put, List.setIfInBounds_toArray, List.set_cons_zero, List.set_cons_succ]; rfl
          refine wpK_q (v := ?_) (a' := ?_) (by rfl) (fun w' hR => ?_) ?_ ?_
          rotate_left 2
          · go_simp; with_reducible rfl
          · simp only [Act.put, List.setIfInBounds_toArray, List.set_cons_zero, List.set_cons_succ]; rfl
          refine wpK_q (v := ?_) (a' := ?_) (by rfl) (fun w' hR => ?_) ?_ ?_
          rotate_left 2
          · go_simp; with_reducible rfl
          · simp only [Act.put, List.setIfInBounds_toArray, List.set_cons_zero, List.set_cons_succ]; rfl
          refine wpK_call Try.func66 (by kernel_rfl) rfl rfl (by rfl) #[.pointer (some ⟨t, 0, none⟩), .slice au xb.length cu] (by simp only [List.map_toArray, List.map_cons, List.map_nil]; rfl) ?_
          refine happ.mono ?_
          rintro e w2 ⟨rfl, hst, hsz, hnx⟩
          refine ⟨_, rfl, fun _ => ⟨(hst bc _ _ (by decide) (by decide) HCd.out).trans HCd.out.1.symm, hsz⟩, ?_⟩
          refine wpK_call Try.func73 (by kernel_rfl) rfl rfl (by rfl) #[.pointer (some ⟨u, 0, none⟩), .slice au xb.length cu] (by simp only [List.map_toArray, List.map_cons, List.map_nil]; rfl) ?_
          refine hnx.mono ?_
          rintro e w3 ⟨rfl, hst2, hsz2, od2, om2, htd⟩
          refine ⟨_, rfl, fun _ => ⟨(hst2 bc _ _ (by decide) (by decide) HCd.out).trans (hst bc _ _ (by decide) (by decide) HCd.out).symm, hsz2⟩, ?_⟩
          refine wpK_q (v := ?_) (a' := ?_) (by rfl) (fun w' hR => ?_) ?_ ?_
          rotate_left 2
          · go_simp; with_reducible rfl
          · simp only [Act.put, List.setIfInBounds_toArray, List.set_cons_zero, List.set_cons_succ]; rfl
          refine wpK_done ?_
          have HTZ := hid htd
          clear k3 happ hst hsz hst2 hsz2 htd HTA HU HC HTd HCd hz1 hz2
          generalize w3 = wz at *
          go_upto_region 36 with (fail)
          generalize (Value.pointer (some ⟨t, 0, none⟩)) = tv0 at *
          generalize (Value.pointer (some ⟨u, 0, none⟩)) = uv0 at *
          rcases HTZ.out.tapes with ⟨rfl, rfl⟩ | ⟨t, u, rfl, rfl, ht, hu, hot, hou, htu, hz1, hz2⟩
          · go_wp2_with (first | (go_at_call 72; refine HTZ.out.same.mono ?_; rintro e w8 ⟨rfl, htd, -⟩; have HT8 := hid htd; clear htd) | (go_at_call 74; refine (tcount_nil _).mono ?_; rintro e wx ⟨rfl, rfl⟩))
            go_roundw
            case rel => exact ⟨j + 1, _, _, _, _, by omega, by go_num, HT8⟩
            case measure => simp [intOf]; omega
          · have d4 := hu.c4
            have HTP := hid ht
            clear ht hu hot hou htu hz1 hz2
            go_wp2_with (first | (go_at_call 72; refine HTZ.out.same.mono ?_; rintro e w8 ⟨rfl, htd, hb8⟩; have HT8 := hid htd; have HTP8 := hid (HTP.out.below hb8); clear htd hb8) | (go_at_call 74; refine (tcount_any _ t p _ _ HTP8.out).mono ?_; rintro e wx ⟨rfl, rfl⟩))
            go_roundw
            case rel => exact ⟨j + 1, _, _, _, _, by omega, by go_num, HT8⟩
            case measure => simp [intOf]; omega
namespace tapeDoes
theorem walkAll (w : World) (pg lo hi sp : Int) (hpg : Bd pg) (hlo : Bd lo) (hhi : Bd hi) (hsp : Bd sp) (fv : Value) (first : List UInt8) (hf : Sees w fv first) (hfl : first.length ≤ 140737488355328) (a1 : Option Addr) (cap : Nat) (L : List Cl) (hs : IsScr w a1 L) (hok : ScrOk L) :
    Calls Try.prog 19 #[.agg #[I pg, I lo, I hi, fv, I sp], .slice a1 L.length cap] w fun e w' => e = .returned (.bool true) ∧ Below w.heap.size w w' := tdoes_walk w pg lo hi sp hpg hlo hhi hsp fv first hf hfl a1 cap L hs hok
end tapeDoes
end Go.Proofs.Ytoaeapnkefjpaaa

namespace Go.Proofs.Ytoaeapnkefjpaaa.tapeDoes
open Go.RowKit
theorem walkRow (pg lo hi sp : Int) (fv : Value) (first : List UInt8) (hpg : Bd pg) (hlo : Bd lo) (hhi : Bd hi) (hsp : Bd sp) {w : World} (hf : Sees w fv first) (hfl : first.length ≤ 140737488355328) (a1 : Option Addr) (cap : Nat) (L : List Cl) (hs : IsScr w a1 L) (hok : ScrOk L) (w' : World) (e : w = w') :
    Calls Try.prog 19 #[.agg #[.int .i64 pg, .int .i64 lo, .int .i64 hi, fv, .int .i64 sp], .slice a1 L.length cap] w' fun e w'' => e = .returned (.bool true) ∧ Below w'.heap.size w' w'' := by
  subst e
  exact tdoes_walk w pg lo hi sp hpg hlo hhi hsp fv first hf hfl a1 cap L hs hok
end Go.Proofs.Ytoaeapnkefjpaaa.tapeDoes

namespace Go.Proofs.Ytoaeapnkefjpaaa
open Go.ChangeShapes Go.WideShapes Go.ChangeAt Go.RowKit
open Go.ChangeMaps (open_string shut_string)
set_option linter.unusedVariables false
set_option linter.unusedSimpArgs false
theorem arr2 {cs : Array Value} (h : cs.size = 2) : ∃ a b, cs = #[a, b] := by
  obtain ⟨l⟩ := cs
  match l, h with
  | [a, b], _ => exact ⟨a, b, rfl⟩
set_option maxRecDepth 100000 in
/-- Two ints in an array, by value. -/
theorem open_two {H : Type} {enc : TypeId × Value → H} {W : World} {base : Nat} {sp : Nat → Bool} {held : Bool} {r : Reach} {b0 : Nat} {v : Value} {d : DataW H} {p : List MemPlace} (hv : Value.okWide Try.prog W r b0 29 v) (h : DataW.Trod enc Try.prog W base sp held 29 v d p) :
    ∃ x y : Int, v = .agg #[.int .i64 x, .int .i64 y] ∧ (Lit.int .i64 x).wf = true ∧ (Lit.int .i64 y).wf = true := by
  simp only [Value.okWide, Try.underlying29] at hv
  obtain ⟨cs, rfl, hs, -⟩ := hv
  have h2 : Try.prog.cellsOf 29 = 2 := by kernel_rfl
  have h1 : Try.prog.cellsOf 3 = 1 := by kernel_rfl
  obtain ⟨c0, c1, rfl⟩ := arr2 (hs.trans h2)
  obtain ⟨fuel, hf⟩ := h
  obtain ⟨xs, m, -, -, -, hxl, hx⟩ := DataW.trod_array Try.underlying29 hf
  have hx0 := hx 0 (by omega)
  have hx1 := hx 1 (by omega)
  rw [h1] at hx0 hx1
  obtain ⟨y0, e0⟩ : ∃ y, xs[0]? = some y := ⟨_, List.getElem?_eq_getElem (by omega)⟩
  obtain ⟨y1, e1⟩ : ∃ y, xs[1]? = some y := ⟨_, List.getElem?_eq_getElem (by omega)⟩
  rw [e0] at hx0
  rw [e1] at hx1
  simp [Value.cells] at hx0 hx1
  obtain ⟨a, ea, -, wa⟩ := DataW.trod_int Try.underlying3 hx0
  obtain ⟨b, eb, -, wb⟩ := DataW.trod_int Try.underlying3 hx1
  simp at ea eb
  subst ea eb
  exact ⟨a, b, rfl, wa, wb⟩
end Go.Proofs.Ytoaeapnkefjpaaa

namespace Go.Proofs.Ytoaeapnkefjpaaa
open Go.ChangeShapes Go.WideShapes Go.ChangeAt Go.RowKit
set_option linter.unusedVariables false
set_option linter.unusedSimpArgs false
set_option maxRecDepth 100000 in
theorem in_elems {H : Type} {enc : TypeId × Value → H} {W : World} {base : Nat} {sp : Nat → Bool} {held : Bool} {t e : TypeId} {n : Nat} {a : Option Addr} {len cap : Nat} {d : DataW H} {p : List MemPlace} (ht : Try.prog.underlying t = some (.slice e)) (hc : Try.prog.cellsOf e = n) (hn : 0 < n)
    (h : DataW.Trod enc Try.prog W base sp held t (Value.slice a len cap) d p) :
    (len ≤ cap ∧ cap ≤ maxLen) ∧ (0 < len → ∃ g off, a = some ⟨g, off, none⟩ ∧ ∀ i, i < len → ∃ (cs : List Value) (fuel : Nat) (y : DataW H × List MemPlace), cs.length = n ∧ (∀ j v, cs[j]? = some v → W.cell? ⟨g, off + i * n + j, none⟩ = some v) ∧ DataW.trod enc Try.prog W base sp held fuel e cs = some y) := by
  obtain ⟨fuel, hf⟩ := h
  rcases Deep.open_slice ht hf with ⟨hcs, _⟩ | ⟨x, l, c, m, k, D, Pl, hcs, _, hl, hm, hmm, _, hx⟩
  · simp [Value.cells] at hcs
    obtain ⟨rfl, rfl, rfl⟩ := hcs
    exact ⟨⟨Nat.le_refl _, Nat.zero_le _⟩, fun h => absurd h (by omega)⟩
  · simp [Value.cells] at hcs
    obtain ⟨rfl, rfl, rfl⟩ := hcs
    refine ⟨⟨hl, hm⟩, fun h0 => ?_⟩
    have hlm : len ≤ m := by rw [hmm]; split <;> omega
    have key : ∀ i, i < len → ∃ (cs : List Value) (fuel : Nat) (y : DataW H × List MemPlace), cs.length = n ∧ (∀ j, (hj : j < cs.length) → W.cell? ((x.add (i * n)).add j) = some cs[j]) ∧ DataW.trod enc Try.prog W base sp held fuel e cs = some y := by
      intro i hi
      obtain ⟨cs', h1, h2⟩ := hx i (by omega)
      rw [hc] at h1
      obtain ⟨_, hlen, hcell⟩ := World.cells?_some h1
      exact ⟨cs', k, _, hlen, fun j hj => (hcell j (by omega)).trans (List.getElem?_eq_getElem hj), h2⟩
    obtain ⟨g, off, spot⟩ := x
    obtain ⟨cs, _, _, hlen, h1, -⟩ := key 0 h0
    have hs : spot = none := by simpa [Addr.add] using World.cell?_spot (h1 0 (by omega))
    subst hs
    refine ⟨g, off, rfl, fun i hi => ?_⟩
    obtain ⟨cs, fu, y, hlen, h1, h2⟩ := key i hi
    refine ⟨cs, fu, y, hlen, fun j v hj => ?_, h2⟩
    have hjl := (List.getElem?_eq_some_iff.1 hj).1
    have := h1 j hjl
    rw [add_off, add_off] at this
    rw [this, ← hj, List.getElem?_eq_getElem hjl]
/-- A struct of five fields of one cell each. -/
theorem list5 {cs : List Value} (h : cs.length = 5) : ∃ a b c d e, cs = [a, b, c, d, e] := by
  match cs, h with
  | [a, b, c, d, e], _ => exact ⟨a, b, c, d, e, rfl⟩
theorem list4 {cs : List Value} (h : cs.length = 4) : ∃ a b c d, cs = [a, b, c, d] := by
  match cs, h with
  | [a, b, c, d], _ => exact ⟨a, b, c, d, rfl⟩
theorem list1 {cs : List Value} (h : cs.length = 1) : ∃ a, cs = [a] := by
  match cs, h with
  | [a], _ => exact ⟨a, rfl⟩
/-- A byte that came in. -/
theorem byte_of {n : Int} (h : (Lit.int .u8 n).wf = true) : ∃ c : UInt8, n = (c.toNat : Int) := by
  simp only [Lit.wf, IntKind.min, IntKind.max, IntKind.signed, IntKind.bits, Bool.and_eq_true, decide_eq_true_eq] at h
  have h1 : 0 ≤ n ∧ n ≤ 255 := by simpa using h
  exact ⟨UInt8.ofNat n.toNat, by rw [UInt8.toNat_ofNat_of_lt' (by simp [UInt8.size]; omega)]; omega⟩
set_option maxRecDepth 100000 in
/-- A script of the drum's that came in. -/
theorem in_calls3 {H : Type} {enc : TypeId × Value → H} {W : World} {base : Nat} {sp : Nat → Bool} {held : Bool} {a : Option Addr} {len cap : Nat} {d : DataW H} {p : List MemPlace} (h : DataW.Trod enc Try.prog W base sp held 81 (Value.slice a len cap) d p) :
    len ≤ 9223372036854775807 ∧ (0 < len → ∃ g off, a = some ⟨g, off, none⟩ ∧ ∀ i, i < len → ∃ (k a n : Int) (c : UInt8) (s : Bool), W.cell? ⟨g, off + i * 5, none⟩ = some (.int .i64 k) ∧ W.cell? ⟨g, off + i * 5 + 1, none⟩ = some (.int .i64 a) ∧ W.cell? ⟨g, off + i * 5 + 2, none⟩ = some (.int .i64 n) ∧ W.cell? ⟨g, off + i * 5 + 3, none⟩ = some (B c) ∧ W.cell? ⟨g, off + i * 5 + 4, none⟩ = some (.bool s) ∧
    (-9223372036854775808 ≤ a ∧ a ≤ 9223372036854775807) ∧ (-9223372036854775808 ≤ n ∧ n ≤ 9223372036854775807)) := by
  have c3 : Try.prog.cellsOf 3 = 1 := by kernel_rfl
  have c4 : Try.prog.cellsOf 4 = 1 := by kernel_rfl
  have c5 : Try.prog.cellsOf 5 = 1 := by kernel_rfl
  obtain ⟨⟨h1, h2⟩, h3⟩ := in_elems (n := 5) Try.underlying81 (by kernel_rfl) (by omega) h
  refine ⟨by unfold maxLen at h2; omega, fun h0 => ?_⟩
  obtain ⟨g, off, rfl, hx⟩ := h3 h0
  refine ⟨g, off, rfl, fun i hi => ?_⟩
  obtain ⟨cs, fu, y, hlen, hcell, hy⟩ := hx i hi
  obtain ⟨v0, v1, v2, v3, v4, rfl⟩ := list5 hlen
  obtain ⟨xs, k, -, -, -, hxl, hxx⟩ := DataW.trod_struct Try.underlying83 hy
  have g0 : DataW.trod enc Try.prog W base sp held k 3 (([v0, v1, v2, v3, v4].drop 0).take (Try.prog.cellsOf 3)) = xs[0]? := hxx 0 _ rfl
  have g1 : DataW.trod enc Try.prog W base sp held k 3 (([v0, v1, v2, v3, v4].drop 1).take (Try.prog.cellsOf 3)) = xs[1]? := hxx 1 _ rfl
  have g2 : DataW.trod enc Try.prog W base sp held k 3 (([v0, v1, v2, v3, v4].drop 2).take (Try.prog.cellsOf 3)) = xs[2]? := hxx 2 _ rfl
  have g3 : DataW.trod enc Try.prog W base sp held k 5 (([v0, v1, v2, v3, v4].drop 3).take (Try.prog.cellsOf 5)) = xs[3]? := hxx 3 _ rfl
  have g4 : DataW.trod enc Try.prog W base sp held k 4 (([v0, v1, v2, v3, v4].drop 4).take (Try.prog.cellsOf 4)) = xs[4]? := hxx 4 _ rfl
  replace hxl : xs.length = 5 := hxl
  simp only [c3, c4, c5] at g0 g1 g2 g3 g4
  rw [List.getElem?_eq_getElem (by omega)] at g0 g1 g2 g3 g4
  simp at g0 g1 g2 g3 g4
  obtain ⟨n0, e0, -, w0⟩ := DataW.trod_int Try.underlying3 g0
  obtain ⟨n1, e1, -, w1⟩ := DataW.trod_int Try.underlying3 g1
  obtain ⟨n2, e2, -, w2⟩ := DataW.trod_int Try.underlying3 g2
  obtain ⟨n3, e3, -, w3⟩ := DataW.trod_int Try.underlying5 g3
  obtain ⟨n4, e4, -⟩ := DataW.trod_bool Try.underlying4 g4
  simp at e0 e1 e2 e3 e4
  subst e0 e1 e2 e3 e4
  obtain ⟨c, rfl⟩ := byte_of w3
  exact ⟨n0, n1, n2, c, n4, hcell 0 _ rfl, hcell 1 _ rfl, hcell 2 _ rfl, hcell 3 _ rfl, hcell 4 _ rfl, bounds_i64 w1, bounds_i64 w2⟩
end Go.Proofs.Ytoaeapnkefjpaaa

namespace Go.Proofs.Ytoaeapnkefjpaaa
open Go.ChangeShapes Go.WideShapes Go.ChangeAt Go.RowKit
set_option linter.unusedVariables false
set_option linter.unusedSimpArgs false
theorem list_of {α : Type} {P : Nat → α → Prop} : ∀ (n : Nat), (∀ i, i < n → ∃ x, P i x) → ∃ L : List α, L.length = n ∧ ∀ i x, L[i]? = some x → P i x
  | 0, _ => ⟨[], rfl, fun i x h => by simp at h⟩
  | n + 1, h => by
    obtain ⟨L, hl, hp⟩ := list_of n (fun i hi => h i (by omega))
    obtain ⟨x, hx⟩ := h n (by omega)
    refine ⟨L ++ [x], by simp [hl], fun i y hy => ?_⟩
    by_cases hi : i < n
    · rw [List.getElem?_append_left (by omega)] at hy
      exact hp i y hy
    · have hlt := (List.getElem?_eq_some_iff.1 hy).1
      simp only [List.length_append, List.length_cons, List.length_nil] at hlt
      have : i = n := by omega
      subst this
      rw [List.getElem?_append_right (by omega), hl, Nat.sub_self] at hy
      simp only [List.getElem?_cons_zero, Option.some.injEq] at hy
      exact hy ▸ hx
set_option maxRecDepth 100000 in
theorem in_bytes {H : Type} {enc : TypeId × Value → H} {W : World} {base : Nat} {held : Bool} {fuel : Nat} {v : Value} {y : DataW H × List MemPlace} (h : DataW.trod enc Try.prog W base (fun _ => true) held fuel 23 [v] = some y) : ∃ l, Sees W v l := by
  rcases open_ints Try.underlying23 Try.underlying5 (by kernel_rfl) h with ⟨hcs, _⟩ | ⟨x, l, c, zs, hcs, _, hl, hm, hz, _, hcell, hwz⟩
  · simp at hcs
    subst hcs
    exact ⟨[], Sees.nil W⟩
  · simp at hcs
    subst hcs
    obtain ⟨r, -, hr⟩ := sees_in (w := W) (a := some x) (len := l) (cap := c) (zs := zs) (.inr ⟨x, rfl, hl, hm, by simpa using hz, hcell, hwz⟩)
    exact ⟨r, hr⟩
set_option maxRecDepth 100000 in
theorem in_recs {H : Type} {enc : TypeId × Value → H} {W : World} {base : Nat} {held : Bool} {a : Option Addr} {len cap : Nat} {d : DataW H} {p : List MemPlace} (h : DataW.Trod enc Try.prog W base (fun _ => true) held 45 (Value.slice a len cap) d p) :
    ∃ L, L.length = len ∧ Shows W (.slice a len cap) L := by
  obtain ⟨⟨h1, h2⟩, h3⟩ := in_elems (n := 1) Try.underlying45 (by kernel_rfl) (by omega) h
  by_cases h0 : 0 < len
  · obtain ⟨g, off, rfl, hx⟩ := h3 h0
    obtain ⟨L, hl, hL⟩ := list_of (P := fun i r => ∃ u, W.cell? ⟨g, off + i, none⟩ = some u ∧ Sees W u r) len (fun i hi => by
      obtain ⟨cs, fu, y, hlen, hcell, hy⟩ := hx i hi
      obtain ⟨v, rfl⟩ := list1 hlen
      obtain ⟨l, hs⟩ := in_bytes hy
      have := hcell 0 v rfl
      rw [Nat.mul_one, Nat.add_zero] at this
      exact ⟨l, v, this, hs⟩)
    exact ⟨L, hl, _, cap, by rw [hl], by omega, h2, fun _ => ⟨g, off, rfl, hL⟩⟩
  · have : len = 0 := by omega
    subst this
    exact ⟨[], rfl, a, cap, rfl, Nat.zero_le _, h2, fun h => by simp at h⟩
end Go.Proofs.Ytoaeapnkefjpaaa

namespace Go.Proofs.Ytoaeapnkefjpaaa
open Go.ChangeShapes Go.WideShapes Go.ChangeAt Go.RowKit
set_option linter.unusedVariables false
set_option linter.unusedSimpArgs false

theorem weightsAll_mem {H : Type} {P : Program} {e : TypeId} : ∀ {ds : List (DataW H)} {d : DataW H}, d ∈ ds → ∀ n ∈ d.weights P e, n ∈ DataW.weightsAll P e ds
  | [], d, h, n, hn => by simp at h
  | x :: r, d, h, n, hn => by
    rw [DataW.weightsAll]
    rcases List.mem_cons.1 h with rfl | h
    · exact List.mem_append.2 (.inl hn)
    · exact List.mem_append.2 (.inr (weightsAll_mem h n hn))
theorem bytes5 : Try.prog.bytesOf 5 = 1 := by kernel_rfl
set_option maxRecDepth 100000 in
theorem in_bytes_sized {H : Type} {enc : TypeId × Value → H} {W : World} {base : Nat} {held : Bool} {fuel : Nat} {v : Value} {y : DataW H × List MemPlace} (h : DataW.trod enc Try.prog W base (fun _ => true) held fuel 23 [v] = some y) :
    ∃ l, Sees W v l ∧ ((∀ n ∈ y.1.weights Try.prog 23, n ≤ reachBytes) → l.length ≤ 140737488355328) := by
  rcases open_ints Try.underlying23 Try.underlying5 (by kernel_rfl) h with ⟨hcs, _⟩ | ⟨x, l, c, zs, hcs, _, hl, hm, hz, hy, hcell, hwz⟩
  · simp at hcs
    subst hcs
    exact ⟨[], Sees.nil W, fun _ => by simp⟩
  · simp at hcs
    subst hcs
    replace hz : zs.length = c := by simpa using hz
    obtain ⟨r, hrl, hr⟩ := sees_in (w := W) (a := some x) (len := l) (cap := c) (zs := zs) (.inr ⟨x, rfl, hl, hm, hz, hcell, hwz⟩)
    refine ⟨r, hr, fun hw => ?_⟩
    have h1 := hw ((((lits .u8 (zs.take l)).length + (lits .u8 (zs.drop l)).length) : Nat) * Try.prog.bytesOf 5) (by rw [hy]; rw [DataW.weights, Try.underlying23]; exact List.mem_cons_self ..)
    rw [bytes5] at h1
    simp only [lits, List.length_map, List.length_take, List.length_drop, reachBytes] at h1
    omega
set_option maxRecDepth 100000 in
theorem in_elems_sized {H : Type} {enc : TypeId × Value → H} {W : World} {base : Nat} {sp : Nat → Bool} {held : Bool} {t e : TypeId} {n : Nat} {a : Option Addr} {len cap : Nat} {d : DataW H} {p : List MemPlace} (ht : Try.prog.underlying t = some (.slice e)) (hc : Try.prog.cellsOf e = n) (hn : 0 < n)
    (h : DataW.Trod enc Try.prog W base sp held t (Value.slice a len cap) d p) :
    (len ≤ cap ∧ cap ≤ maxLen) ∧ (0 < len → ∃ g off, a = some ⟨g, off, none⟩ ∧ ∀ i, i < len → ∃ (cs : List Value) (fuel : Nat) (y : DataW H × List MemPlace), cs.length = n ∧ (∀ j v, cs[j]? = some v → W.cell? ⟨g, off + i * n + j, none⟩ = some v) ∧ DataW.trod enc Try.prog W base sp held fuel e cs = some y ∧ ∀ n ∈ y.1.weights Try.prog e, n ∈ d.weights Try.prog t) := by
  obtain ⟨fuel, hf⟩ := h
  rcases Deep.open_slice ht hf with ⟨hcs, _⟩ | ⟨x, l, c, m, k, D, Pl, hcs, _, hl, hm, hmm, hd, hx⟩
  · simp [Value.cells] at hcs
    obtain ⟨rfl, rfl, rfl⟩ := hcs
    exact ⟨⟨Nat.le_refl _, Nat.zero_le _⟩, fun h => absurd h (by omega)⟩
  · simp [Value.cells] at hcs
    obtain ⟨rfl, rfl, rfl⟩ := hcs
    refine ⟨⟨hl, hm⟩, fun h0 => ?_⟩
    have hlm : len ≤ m := by rw [hmm]; split <;> omega
    have hde : d = .slice ((List.range len).map D) ((List.range (m - len)).map fun j => D (len + j)) := (Prod.mk.inj hd).1
    have key : ∀ i, i < len → ∃ (cs : List Value) (fuel : Nat) (y : DataW H × List MemPlace), cs.length = n ∧ (∀ j, (hj : j < cs.length) → W.cell? ((x.add (i * n)).add j) = some cs[j]) ∧ DataW.trod enc Try.prog W base sp held fuel e cs = some y ∧ ∀ n ∈ y.1.weights Try.prog e, n ∈ d.weights Try.prog t := by
      intro i hi
      obtain ⟨cs', h1, h2⟩ := hx i (by omega)
      rw [hc] at h1
      obtain ⟨_, hlen, hcell⟩ := World.cells?_some h1
      refine ⟨cs', k, _, hlen, fun j hj => (hcell j (by omega)).trans (List.getElem?_eq_getElem hj), h2, fun q hq => ?_⟩
      rw [hde, DataW.weights, ht]
      refine List.mem_cons_of_mem _ (List.mem_append.2 (.inl (weightsAll_mem (d := D i) ?_ q hq)))
      exact List.mem_map.2 ⟨i, List.mem_range.2 hi, rfl⟩
    obtain ⟨g, off, spot⟩ := x
    obtain ⟨cs, _, _, hlen, h1, -⟩ := key 0 h0
    have hs : spot = none := by simpa [Addr.add] using World.cell?_spot (h1 0 (by omega))
    subst hs
    refine ⟨g, off, rfl, fun i hi => ?_⟩
    obtain ⟨cs, fu, y, hlen, h1, h2, h3⟩ := key i hi
    refine ⟨cs, fu, y, hlen, fun j v hj => ?_, h2, h3⟩
    have hjl := (List.getElem?_eq_some_iff.1 hj).1
    have := h1 j hjl
    rw [add_off, add_off] at this
    rw [this, ← hj, List.getElem?_eq_getElem hjl]
set_option maxRecDepth 100000 in
theorem in_recs_sized {H : Type} {enc : TypeId × Value → H} {W : World} {base : Nat} {held : Bool} {a : Option Addr} {len cap : Nat} {d : DataW H} {p : List MemPlace} (h : DataW.Trod enc Try.prog W base (fun _ => true) held 45 (Value.slice a len cap) d p)
    (hw : ∀ n ∈ d.weights Try.prog 45, n ≤ reachBytes) :
    ∃ L, L.length = len ∧ Shows W (.slice a len cap) L ∧ ∀ r ∈ L, r.length ≤ 140737488355328 := by
  obtain ⟨⟨h1, h2⟩, h3⟩ := in_elems_sized (n := 1) Try.underlying45 (by kernel_rfl) (by omega) h
  by_cases h0 : 0 < len
  · obtain ⟨g, off, rfl, hx⟩ := h3 h0
    obtain ⟨L, hl, hL⟩ := list_of (P := fun i r => (∃ u, W.cell? ⟨g, off + i, none⟩ = some u ∧ Sees W u r) ∧ r.length ≤ 140737488355328) len (fun i hi => by
      obtain ⟨cs, fu, y, hlen, hcell, hy, hz⟩ := hx i hi
      obtain ⟨v, rfl⟩ := list1 hlen
      obtain ⟨l, hs, hb⟩ := in_bytes_sized hy
      have := hcell 0 v rfl
      rw [Nat.mul_one, Nat.add_zero] at this
      exact ⟨l, ⟨v, this, hs⟩, hb (fun n hn => hw n (hz n hn))⟩)
    refine ⟨L, hl, ⟨_, cap, by rw [hl], by omega, h2, fun _ => ⟨g, off, rfl, fun i r hr => (hL i r hr).1⟩⟩, fun r hr => ?_⟩
    obtain ⟨i, hi⟩ := List.getElem?_of_mem hr
    exact (hL i r hi).2
  · have : len = 0 := by omega
    subst this
    exact ⟨[], rfl, ⟨a, cap, rfl, Nat.zero_le _, h2, fun h => by simp at h⟩, fun r hr => by simp at hr⟩
end Go.Proofs.Ytoaeapnkefjpaaa

namespace Go.Proofs.Ytoaeapnkefjpaaa
open Go.ChangeShapes Go.WideShapes Go.ChangeAt Go.RowKit
set_option linter.unusedVariables false
set_option linter.unusedSimpArgs false

theorem arr5 {cs : Array Value} (h : cs.size = 5) : ∃ a b c d e, cs = #[a, b, c, d, e] := by
  obtain ⟨l⟩ := cs
  match l, h with
  | [a, b, c, d, e], _ => exact ⟨a, b, c, d, e, rfl⟩
set_option maxRecDepth 100000 in
/-- The place, by value. -/
theorem in_place {H : Type} {enc : TypeId × Value → H} {W : World} {base : Nat} {held : Bool} {r : Reach} {b0 : Nat} {v : Value} {d : DataW H} {p : List MemPlace} (hv : Value.okWide Try.prog W r b0 94 v) (h : DataW.Trod enc Try.prog W base (fun _ => true) held 94 v d p)
    (hw : ∀ n ∈ d.weights Try.prog 94, n ≤ reachBytes) :
    ∃ pg lo hi sp fv first, v = .agg #[.int .i64 pg, .int .i64 lo, .int .i64 hi, fv, .int .i64 sp] ∧ (-9223372036854775808 ≤ pg ∧ pg ≤ 9223372036854775807) ∧ (-9223372036854775808 ≤ lo ∧ lo ≤ 9223372036854775807) ∧ (-9223372036854775808 ≤ hi ∧ hi ≤ 9223372036854775807) ∧ (-9223372036854775808 ≤ sp ∧ sp ≤ 9223372036854775807) ∧ Sees W fv first ∧ first.length ≤ 140737488355328 := by
  have c94 : Try.prog.cellsOf 94 = 5 := by kernel_rfl
  have c3 : Try.prog.cellsOf 3 = 1 := by kernel_rfl
  have c23 : Try.prog.cellsOf 23 = 1 := by kernel_rfl
  obtain ⟨cs, rfl, hs⟩ := okWide_struct Try.underlying94 hv
  obtain ⟨v0, v1, v2, v3, v4, rfl⟩ := arr5 (hs.trans c94)
  obtain ⟨fuel, hy⟩ := h
  obtain ⟨xs, k, -, hd, -, hxl, hxx⟩ := DataW.trod_struct Try.underlying94 hy
  have e : (Value.agg #[v0, v1, v2, v3, v4]).cells.toList = [v0, v1, v2, v3, v4] := rfl
  rw [e] at hxx
  have g0 : DataW.trod enc Try.prog W base (fun _ => true) held k 3 (([v0, v1, v2, v3, v4].drop 0).take (Try.prog.cellsOf 3)) = xs[0]? := hxx 0 _ rfl
  have g1 : DataW.trod enc Try.prog W base (fun _ => true) held k 3 (([v0, v1, v2, v3, v4].drop 1).take (Try.prog.cellsOf 3)) = xs[1]? := hxx 1 _ rfl
  have g2 : DataW.trod enc Try.prog W base (fun _ => true) held k 3 (([v0, v1, v2, v3, v4].drop 2).take (Try.prog.cellsOf 3)) = xs[2]? := hxx 2 _ rfl
  have g3 : DataW.trod enc Try.prog W base (fun _ => true) held k 23 (([v0, v1, v2, v3, v4].drop 3).take (Try.prog.cellsOf 23)) = xs[3]? := hxx 3 _ rfl
  have g4 : DataW.trod enc Try.prog W base (fun _ => true) held k 3 (([v0, v1, v2, v3, v4].drop 4).take (Try.prog.cellsOf 3)) = xs[4]? := hxx 4 _ rfl
  replace hxl : xs.length = 5 := hxl
  simp only [c3, c23] at g0 g1 g2 g3 g4
  rw [List.getElem?_eq_getElem (by omega)] at g0 g1 g2 g4
  obtain ⟨y3, hy3⟩ : ∃ y3, xs[3]? = some y3 := ⟨_, List.getElem?_eq_getElem (by omega)⟩
  rw [hy3] at g3
  simp at g0 g1 g2 g3 g4
  obtain ⟨n0, e0, -, w0⟩ := DataW.trod_int Try.underlying3 g0
  obtain ⟨n1, e1, -, w1⟩ := DataW.trod_int Try.underlying3 g1
  obtain ⟨n2, e2, -, w2⟩ := DataW.trod_int Try.underlying3 g2
  obtain ⟨n4, e4, -, w4⟩ := DataW.trod_int Try.underlying3 g4
  obtain ⟨first, hf, hfb⟩ := in_bytes_sized g3
  simp at e0 e1 e2 e4
  subst e0 e1 e2 e4
  refine ⟨n0, n1, n2, n4, v3, first, rfl, bounds_i64 w0, bounds_i64 w1, bounds_i64 w2, bounds_i64 w4, hf, hfb (fun n hn => hw n ?_)⟩
  have hde : d = .agg (xs.map (·.1)) := (Prod.mk.inj hd).1
  rw [hde, DataW.weights, Try.underlying94]
  exact DataW.weights_mem_each (j := 3) (t := 23) (d := y3.1) rfl (by rw [List.getElem?_map, hy3]; rfl) n hn
set_option maxRecDepth 100000 in
/-- A script of the tape's that came in. -/
theorem in_scr {H : Type} {enc : TypeId × Value → H} {W : World} {base : Nat} {held : Bool} {a : Option Addr} {len cap : Nat} {d : DataW H} {p : List MemPlace} (h : DataW.Trod enc Try.prog W base (fun _ => true) held 95 (Value.slice a len cap) d p)
    (hw : ∀ n ∈ d.weights Try.prog 95, n ≤ reachBytes) : ∃ L : List Cl, L.length = len ∧ IsScr W a L ∧ ScrOk L := by
  have c3 : Try.prog.cellsOf 3 = 1 := by kernel_rfl
  have c23 : Try.prog.cellsOf 23 = 1 := by kernel_rfl
  obtain ⟨⟨h1, h2⟩, h3⟩ := in_elems_sized (n := 4) Try.underlying95 (by kernel_rfl) (by omega) h
  unfold maxLen at h2
  by_cases h0 : 0 < len
  rotate_left
  · have : len = 0 := by omega
    subst this
    exact ⟨[], rfl, fun h => by simp at h, ⟨fun x hx => by simp at hx, fun x hx => by simp at hx, fun x hx => by simp at hx, by simp⟩⟩
  obtain ⟨g, off, rfl, hx⟩ := h3 h0
  obtain ⟨L, hl, hL⟩ := list_of (P := fun i (x : Cl) => (W.cell? ⟨g, off + i * 4, none⟩ = some (I x.1) ∧ W.cell? ⟨g, off + i * 4 + 1, none⟩ = some (I x.2.1) ∧ W.cell? ⟨g, off + i * 4 + 2, none⟩ = some (I x.2.2.1) ∧ ∃ u, W.cell? ⟨g, off + i * 4 + 3, none⟩ = some u ∧ Sees W u x.2.2.2) ∧
      (-9223372036854775808 ≤ x.2.1 ∧ x.2.1 ≤ 9223372036854775807) ∧ (-9223372036854775808 ≤ x.2.2.1 ∧ x.2.2.1 ≤ 9223372036854775807) ∧ x.2.2.2.length ≤ 140737488355328) len (fun i hi => by
    obtain ⟨cs, fu, y, hlen, hcell, hy, hz⟩ := hx i hi
    obtain ⟨v0, v1, v2, v3, rfl⟩ := list4 hlen
    obtain ⟨xs, k, -, hd, -, hxl, hxx⟩ := DataW.trod_struct Try.underlying101 hy
    have g0 : DataW.trod enc Try.prog W base (fun _ => true) held k 3 (([v0, v1, v2, v3].drop 0).take (Try.prog.cellsOf 3)) = xs[0]? := hxx 0 _ rfl
    have g1 : DataW.trod enc Try.prog W base (fun _ => true) held k 3 (([v0, v1, v2, v3].drop 1).take (Try.prog.cellsOf 3)) = xs[1]? := hxx 1 _ rfl
    have g2 : DataW.trod enc Try.prog W base (fun _ => true) held k 3 (([v0, v1, v2, v3].drop 2).take (Try.prog.cellsOf 3)) = xs[2]? := hxx 2 _ rfl
    have g3 : DataW.trod enc Try.prog W base (fun _ => true) held k 23 (([v0, v1, v2, v3].drop 3).take (Try.prog.cellsOf 23)) = xs[3]? := hxx 3 _ rfl
    replace hxl : xs.length = 4 := hxl
    simp only [c3, c23] at g0 g1 g2 g3
    rw [List.getElem?_eq_getElem (by omega)] at g0 g1 g2
    obtain ⟨y3, hy3⟩ : ∃ y3, xs[3]? = some y3 := ⟨_, List.getElem?_eq_getElem (by omega)⟩
    rw [hy3] at g3
    simp at g0 g1 g2 g3
    obtain ⟨n0, e0, -, w0⟩ := DataW.trod_int Try.underlying3 g0
    obtain ⟨n1, e1, -, w1⟩ := DataW.trod_int Try.underlying3 g1
    obtain ⟨n2, e2, -, w2⟩ := DataW.trod_int Try.underlying3 g2
    obtain ⟨bs, hf, hfb⟩ := in_bytes_sized g3
    simp at e0 e1 e2
    subst e0 e1 e2
    refine ⟨(n0, n1, n2, bs), ⟨hcell 0 _ rfl, hcell 1 _ rfl, hcell 2 _ rfl, v3, hcell 3 _ rfl, hf⟩, bounds_i64 w1, bounds_i64 w2, hfb (fun n hn => hw n (hz n ?_))⟩
    have hde : y.1 = .agg (xs.map (·.1)) := by rw [hd]
    rw [hde, DataW.weights, Try.underlying101]
    exact DataW.weights_mem_each (j := 3) (t := 23) (d := y3.1) rfl (by rw [List.getElem?_map, hy3]; rfl) n hn)
  refine ⟨L, hl, fun _ => ⟨g, off, rfl, fun i x hx => (hL i x hx).1⟩, ⟨fun x hx => ?_, fun x hx => ?_, fun x hx => ?_, by omega⟩⟩
  · obtain ⟨i, hi⟩ := List.getElem?_of_mem hx
    exact (hL i x hi).2.1
  · obtain ⟨i, hi⟩ := List.getElem?_of_mem hx
    exact (hL i x hi).2.2.1
  · obtain ⟨i, hi⟩ := List.getElem?_of_mem hx
    exact (hL i x hi).2.2.2
end Go.Proofs.Ytoaeapnkefjpaaa
