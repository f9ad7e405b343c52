/-
  THE DOCUMENT'S ANSWER: Encode (10). Conditions: those that each contract names.
-/
import Derived.Test.YtnljmllkfmgclaaMpacZG
import Derived.Deep.CutBlock
namespace Go.Proofs.Ytnljmllkfmgclaa
open Go.RowKit
set_option linter.unusedVariables false
set_option linter.unusedSimpArgs false

/-- What Encode has asked, and found so. -/
structure Asked (P : Pk) : Prop where
  kind : 1 ≤ P.kind ∧ P.kind ≤ 14
  flags : P.kind = 3 ∨ (0 ≤ P.flags ∧ P.flags ≤ 15)
  name : P.name.length ≤ 16384
  topic : P.topic.length ≤ 16384
  text : P.text.length ≤ 1024
  names : P.names.length ≤ 32
  codes : P.codes.length ≤ 32
  id : 0 ≤ P.id ∧ P.id < 65536
  keep : 0 ≤ P.keep ∧ P.keep < 65536
  code : 0 ≤ P.code ∧ P.code < 256
theorem b1_wrap64 (n : Int) : Go.RowKit.wrap64 n % 256 = ((Mp.b1 n).toNat : Int) := by
  rw [b1_nat]
  unfold Go.RowKit.wrap64
  omega
theorem Mp.var_len2 : ∀ (m n : Nat), (Mp.var m n).length ≤ n / 128 + 2
  | 0, n => by simp [Mp.var]
  | m + 1, n => by
    unfold Mp.var
    split
    · simp
    · have := Mp.var_len2 m (n / 128)
      simp only [List.length_cons]
      omega
theorem u8_more (n : Nat) : IntKind.u8.wrap ((n : Int) % 128 + 128) = ((UInt8.ofNat (n % 128 + 128)).toNat : Int) := by
  rw [IntKind.wrap_u8, UInt8.toNat_ofNat_of_lt' (by simp [UInt8.size]; omega)]
  omega
theorem Grown.keepAll {w w2 w3 : World} {b : Nat} {P : Pk} {nv cv v : Value} {l : List UInt8} (h : Grown w w2 b P nv cv v l) (hb : Below w2.heap.size w2 w3) : Grown w w3 b P nv cv v l :=
  ⟨own_below h.row hb, h.pk.below hb, h.below.trans (hb.mono (Nat.le_of_lt h.lt)), Nat.lt_of_lt_of_le h.lt hb.size⟩
theorem Grown.big {w w2 : World} {b : Nat} {P : Pk} {nv cv v : Value} {l : List UInt8} (h : Grown w w2 b P nv cv v l) (n : Nat) (hl : l.length ≤ 900000000) (hn : n < 65536) :
    Calls Try.prog 19 #[v, .int .u64 (n : Int), I 2] w2 fun e w3 => ∃ v', e = .returned v' ∧ Grown w w3 b P nv cv v' (l ++ Mp.be2 n) ∧ KeepOne b w2 w3 :=
  (big19_any w2 (b + 1) v l n h.row h.lt (by omega) hn).mono fun e w3 ⟨v', he, ho, hb⟩ => ⟨v', he, h.keep hb ho, hb.block b (by omega), hb.size⟩
theorem Grown.put18 {w w2 : World} {b : Nat} {P : Pk} {nv cv v : Value} {l : List UInt8} (h : Grown w w2 b P nv cv v l) (s : List UInt8) (hl : l.length ≤ 900000000) (hs : s.length < 65536) :
    Calls Try.prog 18 #[v, S s] w2 fun e w3 => ∃ v', e = .returned v' ∧ Grown w w3 b P nv cv v' (l ++ Mp.put s) ∧ KeepOne b w2 w3 :=
  (put18_any w2 (b + 1) v l s h.row h.lt hl hs).mono fun e w3 ⟨v', he, ho, hb⟩ => ⟨v', he, h.keep hb ho, hb.block b (by omega), hb.size⟩
theorem Grown.str {w w2 w9 : World} {b : Nat} {P : Pk} {nv cv v v9 : Value} {l s : List UInt8} (h : Grown w w2 b P nv cv v l) (hown : w9.ownsRow (b + 1) 5 1 v9 (l.length + (str s).size) (l.map B ++ Lib.strCells (str s))) (hgrow : w2.grownBy w9 v.ownBlock) : Grown w w9 b P nv cv v9 (l ++ s) :=
  h.keep (below_grown hgrow h.lt (fun k hk => (own_lt h.row k hk).1)) (own_len hown (by rw [str_size, List.length_append]) (by rw [str_cells, List.map_append]))
theorem Mp.rest_2 {P : Pk} (h : 2 = P.kind) : Mp.rest P = [Mp.b1 P.keep, Mp.b1 P.code] := by
  unfold Mp.rest
  rw [if_neg (by omega), if_pos h.symm]
theorem Mp.rest_3 {P : Pk} (h : 3 = P.kind) : Mp.rest P = Mp.put P.topic ++ (if 0 < P.flags / 2 % 4 then Mp.be2 P.id else []) ++ P.text := by
  unfold Mp.rest
  rw [if_neg (by omega), if_neg (by omega), if_pos h.symm]
theorem Mp.rest_4 {P : Pk} {k : Int} (h : k = P.kind) (hk : k = 4 ∨ k = 5 ∨ k = 6 ∨ k = 7 ∨ k = 11) : Mp.rest P = Mp.be2 P.id := by
  unfold Mp.rest
  rw [if_neg (by omega), if_neg (by omega), if_neg (by omega), if_pos (by omega)]
theorem Mp.rest_12 {P : Pk} {k : Int} (h : k = P.kind) (hk : k = 12 ∨ k = 13 ∨ k = 14) : Mp.rest P = [] := by
  unfold Mp.rest
  rw [if_neg (by omega), if_neg (by omega), if_neg (by omega), if_neg (by omega), if_neg (by omega)]
theorem Mp.rest_1 {P : Pk} (h : 1 = P.kind) : Mp.rest P = Mp.put Mp.mqtt ++ [4, Mp.b1 P.code] ++ Mp.be2 P.keep ++ Mp.put P.name ++ (if P.will then Mp.put P.topic ++ Mp.put P.text else []) := by
  unfold Mp.rest
  rw [if_pos h.symm]
theorem Mp.rest_8 {P : Pk} {k : Int} (h : k = P.kind) (hk : k = 8 ∨ k = 9 ∨ k = 10) : Mp.rest P = Mp.be2 P.id ++ Mp.pairs P.names P.codes := by
  unfold Mp.rest
  rw [if_neg (by omega), if_neg (by omega), if_neg (by omega), if_neg (by omega), if_pos (by omega)]
theorem take_all {α : Type} {p : α → Prop} {l : List α} {k : Nat} (h : ∀ x ∈ l.take k, p x) (hk : ∀ x, l[k]? = some x → p x) : ∀ x ∈ l.take (k + 1), p x := by
  intro x hx
  rw [List.take_add_one] at hx
  rcases List.mem_append.1 hx with h1 | h1
  · exact h x h1
  · exact hk x (by simpa using h1)
theorem fits2_b (w : World) (n : Int) (b : Bool) (h : decide (0 ≤ n ∧ n < 65536) = b) : Calls Try.prog 17 #[I n, .int .u64 2] w fun e w' => e = .returned (.bool b) ∧ w = w' := by
  subst h
  exact fits2_any w n
theorem fits1_b (w : World) (n : Int) (b : Bool) (h : decide (0 ≤ n ∧ n < 256) = b) : Calls Try.prog 17 #[I n, .int .u64 1] w fun e w' => e = .returned (.bool b) ∧ w = w' := by
  subst h
  exact fits1_any w n
set_option maxRecDepth 100000 in
set_option maxHeartbeats 3200000 in
theorem enc10_any (w : World) (v : Value) (P : Pk) (h : PkV w v P) : Calls Try.prog 10 #[v] w (Encoded w (Mp.enc P)) := by
  obtain ⟨E, hE⟩ : ∃ E, E = Mp.enc P := ⟨_, rfl⟩
  rw [← hE]
  have HE := hid hE
  clear hE
  obtain ⟨⟨nv, cv, rfl, hn, hc⟩, bn, bc⟩ := h
  obtain ⟨an, cn, hnv, -⟩ := hn.form
  obtain ⟨ac, cc, hcv, -⟩ := hc.form
  rw [List.length_map] at hnv hcv
  have hp : PIn (w.alloc (.cells (pkCells P nv cv) 25)) w.heap.size P nv cv := pk_box
  have hB : Below w.heap.size w (w.alloc (.cells (pkCells P nv cv) 25)) := (Below.refl _ _).alloc (Nat.le_refl _) _
  obtain ⟨w1, hw1⟩ : ∃ w1, w1 = w.alloc (.cells (pkCells P nv cv) 25) := ⟨_, rfl⟩
  rw [← hw1] at hp hB
  have HW := hid hw1
  have HB := hid hB
  have HP := hid hp
  have HNC := hid (And.intro hnv hcv)
  have HN0 := hid hn
  have HC0 := hid hc
  have HBN := hid (And.intro bn bc)
  clear hw1 hB hp hn hc hnv hcv
  go_enter Try.func10, Try.ntmps10
  go_upto_region 1 with (fail)
  rw [← HW.out]
  clear HW
  go_cut [64] from 228 (fun s64 wx => ∃ bad : Bool, s64 = .bool bad ∧ wx = w1 ∧ Hid ((bad = true → ¬ Mp.Fits P) ∧ (bad = false → Asked P)))
  case first =>
    have c0 : w1.cell? ⟨w.heap.size, 0, none⟩ = some (I P.kind) := HP.out.cell 0
    have c1 : w1.cell? ⟨w.heap.size, 1, none⟩ = some (I P.flags) := HP.out.cell 1
    have c2 : w1.cell? ⟨w.heap.size, 2, none⟩ = some (I P.id) := HP.out.cell 2
    have c3 : w1.cell? ⟨w.heap.size, 3, none⟩ = some (I P.code) := HP.out.cell 3
    have c4 : w1.cell? ⟨w.heap.size, 4, none⟩ = some (S P.name) := HP.out.cell 4
    have c5 : w1.cell? ⟨w.heap.size, 5, none⟩ = some (S P.text) := HP.out.cell 5
    have c6 : w1.cell? ⟨w.heap.size, 6, none⟩ = some (I P.keep) := HP.out.cell 6
    have c8 : w1.cell? ⟨w.heap.size, 8, none⟩ = some (S P.topic) := HP.out.cell 8
    have c10 : w1.cell? ⟨w.heap.size, 10, none⟩ = some (.slice an P.names.length cn) := (HP.out.cell 10).trans (by rw [← HNC.out.1]; rfl)
    have c11 : w1.cell? ⟨w.heap.size, 11, none⟩ = some (.slice ac P.codes.length cc) := (HP.out.cell 11).trans (by rw [← HNC.out.2]; rfl)
    have s4 := str_size P.name
    have s5 := str_size P.text
    have s8 := str_size P.topic
    go_wp2_with fail
    refine (flags16_gen _ _ _).mono ?_
    rintro e w2 ⟨F, rfl, rfl, hF1, hF2⟩
    have HF1 := hid hF1
    have HF2 := hid hF2
    clear hF1 hF2
    cases F with
    | false => as_aux_lemma =>
      go_wp2_with fail
      go_meet
      case rel => exact ⟨true, rfl, rfl, hid ⟨(fun _ h => HF2.out (by simp) ⟨h.kind, h.flags, h.ok⟩), (fun h => by cases h)⟩⟩
    | true => as_aux_lemma =>
      by_cases h0 : P.name.length ≤ 16384
      rotate_left
      · have e0 : decide (16384 < (P.name.length : Int)) = true := decide_eq_true (by omega)
        have HN := hid h0
        skip
        go_wp2_with (first | fail)
        go_meet
        case rel => exact ⟨true, rfl, rfl, hid ⟨(fun _ h => HN.out h.name), (fun h => by cases h)⟩⟩
      have e0 : decide (16384 < (P.name.length : Int)) = false := decide_eq_false (by omega)
      have H0 := hid h0
      skip
      by_cases h1 : P.topic.length ≤ 16384
      rotate_left
      · have e1 : decide (16384 < (P.topic.length : Int)) = true := decide_eq_true (by omega)
        have HN := hid h1
        skip
        go_wp2_with (first | fail)
        go_meet
        case rel => exact ⟨true, rfl, rfl, hid ⟨(fun _ h => HN.out h.topic), (fun h => by cases h)⟩⟩
      have e1 : decide (16384 < (P.topic.length : Int)) = false := decide_eq_false (by omega)
      have H1 := hid h1
      skip
      by_cases h2 : P.text.length ≤ 1024
      rotate_left
      · have e2 : decide (1024 < (P.text.length : Int)) = true := decide_eq_true (by omega)
        have HN := hid h2
        skip
        go_wp2_with (first | fail)
        go_meet
        case rel => exact ⟨true, rfl, rfl, hid ⟨(fun _ h => HN.out h.text), (fun h => by cases h)⟩⟩
      have e2 : decide (1024 < (P.text.length : Int)) = false := decide_eq_false (by omega)
      have H2 := hid h2
      skip
      by_cases h3 : P.names.length ≤ 32
      rotate_left
      · have e3 : decide (32 < (P.names.length : Int)) = true := decide_eq_true (by omega)
        have HN := hid h3
        skip
        go_wp2_with (first | fail)
        go_meet
        case rel => exact ⟨true, rfl, rfl, hid ⟨(fun _ h => HN.out h.names), (fun h => by cases h)⟩⟩
      have e3 : decide (32 < (P.names.length : Int)) = false := decide_eq_false (by omega)
      have H3 := hid h3
      skip
      by_cases h4 : P.codes.length ≤ 32
      rotate_left
      · have e4 : decide (32 < (P.codes.length : Int)) = true := decide_eq_true (by omega)
        have HN := hid h4
        skip
        go_wp2_with (first | fail)
        go_meet
        case rel => exact ⟨true, rfl, rfl, hid ⟨(fun _ h => HN.out h.codes), (fun h => by cases h)⟩⟩
      have e4 : decide (32 < (P.codes.length : Int)) = false := decide_eq_false (by omega)
      have H4 := hid h4
      skip
      by_cases h5 : 0 ≤ P.id ∧ P.id < 65536
      rotate_left
      · have EI := hid (show decide (0 ≤ P.id ∧ P.id < 65536) = false from decide_eq_false h5)
        have HN := hid h5
        clear h5
        go_wp2_with (first | (go_at_call_of 17 (I P.id); refine (fits2_b _ P.id _ EI.out).mono ?_; rintro e w2 ⟨rfl, rfl⟩) | fail)
        go_meet
        case rel => exact ⟨true, rfl, rfl, hid ⟨(fun _ h => HN.out h.id), (fun h => by cases h)⟩⟩
      have EI := hid (show decide (0 ≤ P.id ∧ P.id < 65536) = true from decide_eq_true h5)
      have H5 := hid h5
      clear h5
      by_cases h6 : 0 ≤ P.keep ∧ P.keep < 65536
      rotate_left
      · have EK := hid (show decide (0 ≤ P.keep ∧ P.keep < 65536) = false from decide_eq_false h6)
        have HN := hid h6
        clear h6
        go_wp2_with (first | (go_at_call_of 17 (I P.id); refine (fits2_b _ P.id _ EI.out).mono ?_; rintro e w2 ⟨rfl, rfl⟩) | (go_at_call_of 17 (I P.keep); refine (fits2_b _ P.keep _ EK.out).mono ?_; rintro e w2 ⟨rfl, rfl⟩) | fail)
        go_meet
        case rel => exact ⟨true, rfl, rfl, hid ⟨(fun _ h => HN.out h.keep), (fun h => by cases h)⟩⟩
      have EK := hid (show decide (0 ≤ P.keep ∧ P.keep < 65536) = true from decide_eq_true h6)
      have H6 := hid h6
      clear h6
      by_cases h7 : 0 ≤ P.code ∧ P.code < 256
      rotate_left
      · have EC := hid (show decide (0 ≤ P.code ∧ P.code < 256) = false from decide_eq_false h7)
        have HN := hid h7
        clear h7
        go_wp2_with (first | (go_at_call_of 17 (I P.id); refine (fits2_b _ P.id _ EI.out).mono ?_; rintro e w2 ⟨rfl, rfl⟩) | (go_at_call_of 17 (I P.keep); refine (fits2_b _ P.keep _ EK.out).mono ?_; rintro e w2 ⟨rfl, rfl⟩) | (go_at_call_of 17 (I P.code); refine (fits1_b _ P.code _ EC.out).mono ?_; rintro e w2 ⟨rfl, rfl⟩) | fail)
        go_meet
        case rel => exact ⟨true, rfl, rfl, hid ⟨(fun _ h => HN.out h.code), (fun h => by cases h)⟩⟩
      have EC := hid (show decide (0 ≤ P.code ∧ P.code < 256) = true from decide_eq_true h7)
      have H7 := hid h7
      clear h7
      go_wp2_with (first | (go_at_call_of 17 (I P.id); refine (fits2_b _ P.id _ EI.out).mono ?_; rintro e w2 ⟨rfl, rfl⟩) | (go_at_call_of 17 (I P.keep); refine (fits2_b _ P.keep _ EK.out).mono ?_; rintro e w2 ⟨rfl, rfl⟩) | (go_at_call_of 17 (I P.code); refine (fits1_b _ P.code _ EC.out).mono ?_; rintro e w2 ⟨rfl, rfl⟩) | fail)
      go_meet
      case rel => exact ⟨false, rfl, rfl, hid ⟨(fun h => by cases h), (fun _ => ⟨(HF1.out (by simp)).1, (HF1.out (by simp)).2, H0.out, H1.out, H2.out, H3.out, H4.out, H5.out, H6.out, H7.out⟩)⟩⟩
  case rest =>
    obtain ⟨bad, rfl, hwx, HBA⟩ := hcut
    rw [hwx]
    clear hwx
    cases bad with
    | true => as_aux_lemma =>
      go_wp2_with fail
      go_ret2
      rw [HE.out, Mp.enc_none (HBA.out.1 (by simp))]
      exact ⟨HB.out, rfl⟩
    | false =>
    have HA := hid (HBA.out.2 (by simp))
    clear HBA
    obtain ⟨b, hbb⟩ : ∃ b, b = w.heap.size := ⟨_, rfl⟩
    have hG : Grown w w1 w.heap.size P nv cv nil0 [] := ⟨World.ownsRow_nil _ _ _ _, HP.out, HB.out, HP.out.lt⟩
    rw [← hbb] at HP hG ⊢
    have HG := hid hG
    have c0 : w1.cell? ⟨b, 0, none⟩ = some (I P.kind) := HP.out.cell 0
    have HBB := hid hbb
    clear hbb hG
    go_upto_block 0 with (fail)
    clear c0
    go_cut [2, 3, 4, 5] from 11 (fun s2 s3 s4 s5 wx => ∃ (v : Value) (l : List UInt8), s4 = v ∧ l.length ≤ 1000000 ∧ Hid (Grown w wx b P nv cv v l ∧ (Mp.Fits P → l = Mp.rest P)))
    case first => as_aux_lemma =>
      have hkd := HA.out.kind
      obtain ⟨kd, hkk⟩ : ∃ kd, kd = P.kind := ⟨_, rfl⟩
      rw [← hkk] at hkd ⊢
      have HK := hid hkk
      clear hkk
      obtain ⟨i, hi⟩ : ∃ i : Nat, P.id = (i : Int) := ⟨P.id.toNat, by have := HA.out.id; omega⟩
      have hi2 : i < 65536 := by have := HA.out.id; omega
      have hwi : IntKind.u64.wrap (i : Int) = (i : Int) := IntWalk.u64_in _ (by omega)
      have c2 : w1.cell? ⟨b, 2, none⟩ = some (I i) := hi ▸ HG.out.pk.cell 2
      have HI := hid hi
      clear hi
      have HNL : Hid (nil0 = .slice none 0 0) := hid rfl
      have hall : kd = 1 ∨ kd = 2 ∨ kd = 3 ∨ (kd = 4 ∨ kd = 5 ∨ kd = 6 ∨ kd = 7 ∨ kd = 11) ∨ (kd = 8 ∨ kd = 9 ∨ kd = 10) ∨ (kd = 12 ∨ kd = 13 ∨ kd = 14) := by omega
      clear hkd
      rcases hall with rfl | rfl | rfl | h | h | h
      · as_aux_lemma =>
          obtain ⟨kp, hkp⟩ : ∃ kp : Nat, P.keep = (kp : Int) := ⟨P.keep.toNat, by have := HA.out.keep; omega⟩
          have hkp2 : kp < 65536 := by have := HA.out.keep; omega
          have hwk : IntKind.u64.wrap (kp : Int) = (kp : Int) := IntWalk.u64_in _ (by omega)
          have HR := hid (Mp.rest_1 HK.out)
          rw [hkp] at HR
          have HKP := hid hkp
          have HKP2 := hid hkp2
          have HN16 := hid HA.out.name
          have HT16 := hid HA.out.topic
          have HT10 := hid HA.out.text
          have e3 := b1_wrap P.code
          obtain ⟨y, hy⟩ : ∃ y, y = Mp.b1 P.code := ⟨_, rfl⟩
          rw [← hy] at e3 HR
          clear hy hkp hkp2 c2 hwi
          go_wp2_with fail
          have HGD := hid HG.out.drew
          have k3 : ∀ w', KeepOne b w1.drew w' → w'.cell? ⟨b, 3, none⟩ = some (I P.code) := fun w' hh => by rw [World.cell?_of_block hh.1]; exact HGD.out.pk.cell 3
          refine wp_region_fork (KeepOne b) [] [(1,0),(2,0),(3,0)] (0,0) (4,0) [(4,1),(5,1),(6,0)] [(0,1),(5,1),(6,0)] _ _ _ _ _ (by kernel_rfl) KeepOne.refl KeepOne.trans (by kernel_rfl) (by simp only [pick, List.getElem?_toArray, List.getElem?_cons_zero, List.getElem?_cons_succ]; rfl) (by simp only [List.getElem?_toArray, List.getElem?_cons_zero, List.getElem?_cons_succ]; rfl) (by simp only [List.getElem?_toArray, List.getElem?_cons_zero, List.getElem?_cons_succ]; rfl) (by simp only [pick, List.getElem?_toArray, List.getElem?_cons_zero, List.getElem?_cons_succ]; rfl) (by simp only [pick, List.getElem?_toArray, List.getElem?_cons_zero, List.getElem?_cons_succ]; rfl) (fun c a d v w h => by cases d <;> exact h) ?_
          generalize w1.drew = wd at *
          refine wpK_q (v := ?_) (a' := ?_) (by rfl) (fun w' hR => ?_) ?_ ?_
          rotate_left 2
          · go_simp; with_reducible rfl
          · simp only [Act.put, List.setIfInBounds_toArray, List.set_cons_zero, List.set_cons_succ]; rfl
          refine wpK_q (v := ?_) (a' := ?_) (by rfl) (fun w' hR => ?_) ?_ ?_
          rotate_left 2
          · go_simp; with_reducible rfl
          · simp only [Act.put, List.setIfInBounds_toArray, List.set_cons_zero, List.set_cons_succ]; rfl
          refine wpK_q (v := ?_) (a' := ?_) (by rfl) (fun w' hR => ?_) ?_ ?_
          rotate_left 2
          · go_simp; with_reducible rfl
          · simp only [Act.put, List.setIfInBounds_toArray, List.set_cons_zero, List.set_cons_succ]; rfl
          refine wpK_done (thenQ_normal ⟨?_, ?_⟩)
          · as_aux_lemma =>
              refine wpK_call Try.func18 (by kernel_rfl) rfl rfl (by rfl) #[(.slice none 0 0), (.string { data := #[77, 81, 84, 84] })] (by simp only [List.map_toArray, List.map_cons, List.map_nil]; rfl) ?_
              refine (HGD.out.put18 Mp.mqtt (by decide) (by decide)).mono ?_
              rintro e w4 ⟨v4, rfl, hg4, hk4⟩
              refine ⟨v4, rfl, fun _ => hk4, ?_⟩
              refine wpK_v (v := .slice (some ⟨w4.heap.size, 0, none⟩) 2 2) (w' := w4.alloc (.cells #[.int .u8 4, .int .u8 (y.toNat : Int)] 5)) (by rfl) (by go_simp) (fun _ => KeepOne.alloc _ hg4.lt) (by simp only [Act.put, List.setIfInBounds_toArray, List.set_cons_zero, List.set_cons_succ]; rfl) ?_
              have hs5 := Sees.lit w4 [4, y] (0, 0) (by simp [maxLen])
              obtain ⟨v6, w6, hr6, hg6, hk6⟩ := (hg4.alloc (.cells #[.int .u8 4, .int .u8 (y.toNat : Int)] 5)).app [4, y] _ hs5 (show 8 ≤ 1000000000 by decide) 28
              refine wpK_v (by rfl) (exec_append rfl _ (by simp only [List.map_toArray, List.map_cons, List.map_nil]; rfl) hr6) (fun _ => hk6) (by simp only [Act.put, List.setIfInBounds_toArray, List.set_cons_zero, List.set_cons_succ]; rfl) ?_
              refine wpK_q (v := ?_) (a' := ?_) (by rfl) (fun w' hR => ?_) ?_ ?_
              rotate_left 2
              · go_simp; with_reducible rfl
              · simp only [Act.put, List.setIfInBounds_toArray, List.set_cons_zero, List.set_cons_succ]; rfl
              refine wpK_done ?_
              have HG6 := hid hg6
              clear hr6 hk6 hg6 hs5 hk4 hg4 HG HGD k3 e3
              obtain ⟨l6, hl6⟩ : ∃ l6, l6 = ([] : List UInt8) ++ Mp.put Mp.mqtt ++ [4, y] := ⟨_, rfl⟩
              rw [← hl6] at HG6
              have HL6 : Hid (l6 = Mp.put Mp.mqtt ++ [4, y]) := hid (by rw [hl6]; rfl)
              have HLL6 : Hid (l6.length = 8) := hid (by rw [hl6]; rfl)
              clear hl6
              go_wp2_with fail
              have HG8 := hid HG6.out.drew
              have k6 : ∀ w', KeepOne b w6.drew w' → w'.cell? ⟨b, 6, none⟩ = some (I kp) := fun w' hh => by rw [World.cell?_of_block hh.1, ← HKP.out]; exact HG8.out.pk.cell 6
              have k4 : ∀ w', KeepOne b w6.drew w' → w'.cell? ⟨b, 4, none⟩ = some (S P.name) := fun w' hh => by rw [World.cell?_of_block hh.1]; exact HG8.out.pk.cell 4
              clear HG6
              refine wp_region_order (KeepOne b) [] [(0,0),(1,0),(2,0),(3,0),(5,0),(6,0),(4,1),(7,1),(8,0)] _ (by kernel_rfl) rfl KeepOne.refl KeepOne.trans (by kernel_rfl) (by simp only [pick, List.getElem?_toArray, List.getElem?_cons_zero, List.getElem?_cons_succ]; rfl) (fun c a d v w h => by cases d <;> exact h) ?_
              generalize w6.drew = w8 at *
              refine wpK_q (v := ?_) (a' := ?_) (by rfl) (fun w' hR => ?_) ?_ ?_
              rotate_left 2
              · go_simp; with_reducible rfl
              · simp only [Act.put, List.setIfInBounds_toArray, List.set_cons_zero, List.set_cons_succ]; rfl
              refine wpK_q (v := ?_) (a' := ?_) (by rfl) (fun w' hR => ?_) ?_ ?_
              rotate_left 2
              · go_simp; with_reducible rfl
              · simp only [Act.put, List.setIfInBounds_toArray, List.set_cons_zero, List.set_cons_succ]; rfl
              refine wpK_q (v := ?_) (a' := ?_) (by rfl) (fun w' hR => ?_) ?_ ?_
              rotate_left 2
              · go_simp; with_reducible rfl
              · simp only [Act.put, List.setIfInBounds_toArray, List.set_cons_zero, List.set_cons_succ]; rfl
              refine wpK_q (v := ?_) (a' := ?_) (by rfl) (fun w' hR => ?_) ?_ ?_
              rotate_left 2
              · go_simp; with_reducible rfl
              · simp only [Act.put, List.setIfInBounds_toArray, List.set_cons_zero, List.set_cons_succ]; rfl
              refine wpK_q (v := ?_) (a' := ?_) (by rfl) (fun w' hR => ?_) ?_ ?_
              rotate_left 2
              · go_simp; with_reducible rfl
              · simp only [Act.put, List.setIfInBounds_toArray, List.set_cons_zero, List.set_cons_succ]; rfl
              refine wpK_q (v := ?_) (a' := ?_) (by rfl) (fun w' hR => ?_) ?_ ?_
              rotate_left 2
              · go_simp; with_reducible rfl
              · simp only [Act.put, List.setIfInBounds_toArray, List.set_cons_zero, List.set_cons_succ]; rfl
              refine wpK_call Try.func19 (by kernel_rfl) rfl rfl (by rfl) #[v6, (.int .u64 (kp : Int)), (I 2)] (by simp only [List.map_toArray, List.map_cons, List.map_nil]; rfl) ?_
              refine (HG8.out.big kp (by have := HLL6.out; omega) HKP2.out).mono ?_
              rintro e w9 ⟨v9, rfl, hg9, hk9⟩
              refine ⟨v9, rfl, fun _ => hk9, ?_⟩
              refine wpK_call Try.func18 (by kernel_rfl) rfl rfl (by rfl) #[v9, S P.name] (by simp only [List.map_toArray, List.map_cons, List.map_nil]; rfl) ?_
              refine (hg9.put18 P.name (by have := HLL6.out; simp only [List.length_append, Mp.be2_len]; omega) (by have := HN16.out; omega)).mono ?_
              rintro e w10 ⟨v10, rfl, hg10, hk10⟩
              refine ⟨v10, rfl, fun _ => hk10, ?_⟩
              refine wpK_q (v := ?_) (a' := ?_) (by rfl) (fun w' hR => ?_) ?_ ?_
              rotate_left 2
              · go_simp; with_reducible rfl
              · simp only [Act.put, List.setIfInBounds_toArray, List.set_cons_zero, List.set_cons_succ]; rfl
              refine wpK_done ?_
              obtain ⟨lA, hlA⟩ : ∃ lA, lA = l6 ++ Mp.be2 (kp : Int) ++ Mp.put P.name := ⟨_, rfl⟩
              rw [← hlA] at hg10
              have HG10 := hid hg10
              have HLA := hid hlA
              have HLLA : Hid (lA.length ≤ 17000) := hid (by rw [hlA]; have := HLL6.out; have := HN16.out; simp only [List.length_append, Mp.be2_len, Mp.put_len]; omega)
              have c7 : w10.cell? ⟨b, 7, none⟩ = some (.bool P.will) := hg10.pk.cell 7
              clear hg9 hk9 hg10 hk10 k6 k4 HG8 hlA
              cases hw : P.will with
              | false =>
                rw [hw] at c7
                rw [hw, if_neg (by decide)] at HR
                clear hw
                go_wp2_with fail
                go_meet
                case rel => exact ⟨v10, lA, rfl, by have := HLLA.out; omega, hid ⟨HG10.out, fun _ => by rw [HR.out, HLA.out, HL6.out, List.append_nil]⟩⟩
              | true =>
                rw [hw] at c7
                rw [hw, if_pos rfl] at HR
                clear hw
                go_wp2_with fail
                have HGX := hid HG10.out.drew
                have k8 : ∀ w', KeepOne b w10.drew w' → w'.cell? ⟨b, 8, none⟩ = some (S P.topic) := fun w' hh => by rw [World.cell?_of_block hh.1]; exact HGX.out.pk.cell 8
                have k5 : ∀ w', KeepOne b w10.drew w' → w'.cell? ⟨b, 5, none⟩ = some (S P.text) := fun w' hh => by rw [World.cell?_of_block hh.1]; exact HGX.out.pk.cell 5
                clear HG10 c7
                refine wp_region_order (KeepOne b) [] [(0,0),(1,0),(2,0),(4,0),(5,0),(3,1),(6,1),(7,0)] _ (by kernel_rfl) rfl KeepOne.refl KeepOne.trans (by kernel_rfl) (by simp only [pick, List.getElem?_toArray, List.getElem?_cons_zero, List.getElem?_cons_succ]; rfl) (fun c a d v w h => by cases d <;> exact h) ?_
                generalize w10.drew = w11 at *
                refine wpK_q (v := ?_) (a' := ?_) (by rfl) (fun w' hR => ?_) ?_ ?_
                rotate_left 2
                · go_simp; with_reducible rfl
                · simp only [Act.put, List.setIfInBounds_toArray, List.set_cons_zero, List.set_cons_succ]; rfl
                refine wpK_q (v := ?_) (a' := ?_) (by rfl) (fun w' hR => ?_) ?_ ?_
                rotate_left 2
                · go_simp; with_reducible rfl
                · simp only [Act.put, List.setIfInBounds_toArray, List.set_cons_zero, List.set_cons_succ]; rfl
                refine wpK_q (v := ?_) (a' := ?_) (by rfl) (fun w' hR => ?_) ?_ ?_
                rotate_left 2
                · go_simp; with_reducible rfl
                · simp only [Act.put, List.setIfInBounds_toArray, List.set_cons_zero, List.set_cons_succ]; rfl
                refine wpK_q (v := ?_) (a' := ?_) (by rfl) (fun w' hR => ?_) ?_ ?_
                rotate_left 2
                · go_simp; with_reducible rfl
                · simp only [Act.put, List.setIfInBounds_toArray, List.set_cons_zero, List.set_cons_succ]; rfl
                refine wpK_q (v := ?_) (a' := ?_) (by rfl) (fun w' hR => ?_) ?_ ?_
                rotate_left 2
                · go_simp; with_reducible rfl
                · simp only [Act.put, List.setIfInBounds_toArray, List.set_cons_zero, List.set_cons_succ]; rfl
                refine wpK_call Try.func18 (by kernel_rfl) rfl rfl (by rfl) #[v10, S P.topic] (by simp only [List.map_toArray, List.map_cons, List.map_nil]; rfl) ?_
                refine (HGX.out.put18 P.topic (by have := HLLA.out; omega) (by have := HT16.out; omega)).mono ?_
                rintro e w12 ⟨v12, rfl, hg12, hk12⟩
                refine ⟨v12, rfl, fun _ => hk12, ?_⟩
                refine wpK_call Try.func18 (by kernel_rfl) rfl rfl (by rfl) #[v12, S P.text] (by simp only [List.map_toArray, List.map_cons, List.map_nil]; rfl) ?_
                refine (hg12.put18 P.text (by have := HLLA.out; have := HT16.out; simp only [List.length_append, Mp.put_len]; omega) (by have := HT10.out; omega)).mono ?_
                rintro e w13 ⟨v13, rfl, hg13, hk13⟩
                refine ⟨v13, rfl, fun _ => hk13, ?_⟩
                refine wpK_q (v := ?_) (a' := ?_) (by rfl) (fun w' hR => ?_) ?_ ?_
                rotate_left 2
                · go_simp; with_reducible rfl
                · simp only [Act.put, List.setIfInBounds_toArray, List.set_cons_zero, List.set_cons_succ]; rfl
                refine wpK_done ?_
                have HG13 := hid hg13
                clear hg12 hk12 hg13 hk13 k8 k5 HGX
                go_wp2_with fail
                go_meet
                case rel => exact ⟨v13, _, rfl, by have := HLLA.out; have := HT16.out; have := HT10.out; simp only [List.length_append, Mp.put_len]; omega, hid ⟨HG13.out, fun _ => by rw [HR.out, HLA.out, HL6.out]; simp only [List.append_assoc]⟩⟩
          · as_aux_lemma =>
              have hlt := HGD.out.lt
              refine wpK_v (v := .slice (some ⟨wd.heap.size, 0, none⟩) 2 2) (w' := wd.alloc (.cells #[.int .u8 4, .int .u8 (y.toNat : Int)] 5)) (by rfl) (by go_simp) (fun _ => KeepOne.alloc _ hlt) (by simp only [Act.put, List.setIfInBounds_toArray, List.set_cons_zero, List.set_cons_succ]; rfl) ?_
              have hs5 := Sees.lit wd [4, y] (0, 0) (by simp [maxLen])
              have hgb := HGD.out.alloc (.cells #[.int .u8 4, .int .u8 (y.toNat : Int)] 5)
              replace hs5 : Sees (wd.alloc (.cells #[.int .u8 4, .int .u8 (y.toNat : Int)] 5)) (.slice (some ⟨wd.heap.size, 0, none⟩) 2 2) [4, y] := hs5
              generalize wd.alloc (.cells #[.int .u8 4, .int .u8 (y.toNat : Int)] 5) = wb at *
              refine wpK_call Try.func18 (by kernel_rfl) rfl rfl (by rfl) #[(.slice none 0 0), (.string { data := #[77, 81, 84, 84] })] (by simp only [List.map_toArray, List.map_cons, List.map_nil]; rfl) ?_
              refine (put18_any wb wb.heap.size (.slice none 0 0) [] Mp.mqtt (World.ownsRow_nil _ _ _ _) (Nat.le_refl _) (by decide) (by decide)).mono ?_
              rintro e w4 ⟨v4, rfl, ho4, hb4⟩
              have hg4 : Grown w w4 b P nv cv v4 ([] ++ Mp.put Mp.mqtt) := hgb.keep (hb4.mono hgb.lt) (own_anew ho4 (fun k hk => Nat.le_trans hgb.lt (own_lt ho4 k hk).1))
              refine ⟨v4, rfl, fun _ => ⟨hb4.block b hgb.lt, hb4.size⟩, ?_⟩
              obtain ⟨v6, w6, hr6, hg6, hk6⟩ := hg4.app [4, y] _ (hs5.below hb4) (show 8 ≤ 1000000000 by decide) 28
              refine wpK_v (by rfl) (exec_append rfl _ (by simp only [List.map_toArray, List.map_cons, List.map_nil]; rfl) hr6) (fun _ => hk6) (by simp only [Act.put, List.setIfInBounds_toArray, List.set_cons_zero, List.set_cons_succ]; rfl) ?_
              refine wpK_q (v := ?_) (a' := ?_) (by rfl) (fun w' hR => ?_) ?_ ?_
              rotate_left 2
              · go_simp; with_reducible rfl
              · simp only [Act.put, List.setIfInBounds_toArray, List.set_cons_zero, List.set_cons_succ]; rfl
              refine wpK_done ?_
              have HG6 := hid hg6
              clear hr6 hk6 hg6 hs5 hg4 HG HGD k3 e3 hgb ho4 hb4 hlt
              obtain ⟨l6, hl6⟩ : ∃ l6, l6 = ([] : List UInt8) ++ Mp.put Mp.mqtt ++ [4, y] := ⟨_, rfl⟩
              rw [← hl6] at HG6
              have HL6 : Hid (l6 = Mp.put Mp.mqtt ++ [4, y]) := hid (by rw [hl6]; rfl)
              have HLL6 : Hid (l6.length = 8) := hid (by rw [hl6]; rfl)
              clear hl6
              go_wp2_with fail
              have HG8 := hid HG6.out.drew
              have k6 : ∀ w', KeepOne b w6.drew w' → w'.cell? ⟨b, 6, none⟩ = some (I kp) := fun w' hh => by rw [World.cell?_of_block hh.1, ← HKP.out]; exact HG8.out.pk.cell 6
              have k4 : ∀ w', KeepOne b w6.drew w' → w'.cell? ⟨b, 4, none⟩ = some (S P.name) := fun w' hh => by rw [World.cell?_of_block hh.1]; exact HG8.out.pk.cell 4
              clear HG6
              refine wp_region_order (KeepOne b) [] [(0,0),(1,0),(2,0),(3,0),(5,0),(6,0),(4,1),(7,1),(8,0)] _ (by kernel_rfl) rfl KeepOne.refl KeepOne.trans (by kernel_rfl) (by simp only [pick, List.getElem?_toArray, List.getElem?_cons_zero, List.getElem?_cons_succ]; rfl) (fun c a d v w h => by cases d <;> exact h) ?_
              generalize w6.drew = w8 at *
              refine wpK_q (v := ?_) (a' := ?_) (by rfl) (fun w' hR => ?_) ?_ ?_
              rotate_left 2
              · go_simp; with_reducible rfl
              · simp only [Act.put, List.setIfInBounds_toArray, List.set_cons_zero, List.set_cons_succ]; rfl
              refine wpK_q (v := ?_) (a' := ?_) (by rfl) (fun w' hR => ?_) ?_ ?_
              rotate_left 2
              · go_simp; with_reducible rfl
              · simp only [Act.put, List.setIfInBounds_toArray, List.set_cons_zero, List.set_cons_succ]; rfl
              refine wpK_q (v := ?_) (a' := ?_) (by rfl) (fun w' hR => ?_) ?_ ?_
              rotate_left 2
              · go_simp; with_reducible rfl
              · simp only [Act.put, List.setIfInBounds_toArray, List.set_cons_zero, List.set_cons_succ]; rfl
              refine wpK_q (v := ?_) (a' := ?_) (by rfl) (fun w' hR => ?_) ?_ ?_
              rotate_left 2
              · go_simp; with_reducible rfl
              · simp only [Act.put, List.setIfInBounds_toArray, List.set_cons_zero, List.set_cons_succ]; rfl
              refine wpK_q (v := ?_) (a' := ?_) (by rfl) (fun w' hR => ?_) ?_ ?_
              rotate_left 2
              · go_simp; with_reducible rfl
              · simp only [Act.put, List.setIfInBounds_toArray, List.set_cons_zero, List.set_cons_succ]; rfl
              refine wpK_q (v := ?_) (a' := ?_) (by rfl) (fun w' hR => ?_) ?_ ?_
              rotate_left 2
              · go_simp; with_reducible rfl
              · simp only [Act.put, List.setIfInBounds_toArray, List.set_cons_zero, List.set_cons_succ]; rfl
              refine wpK_call Try.func19 (by kernel_rfl) rfl rfl (by rfl) #[v6, (.int .u64 (kp : Int)), (I 2)] (by simp only [List.map_toArray, List.map_cons, List.map_nil]; rfl) ?_
              refine (HG8.out.big kp (by have := HLL6.out; omega) HKP2.out).mono ?_
              rintro e w9 ⟨v9, rfl, hg9, hk9⟩
              refine ⟨v9, rfl, fun _ => hk9, ?_⟩
              refine wpK_call Try.func18 (by kernel_rfl) rfl rfl (by rfl) #[v9, S P.name] (by simp only [List.map_toArray, List.map_cons, List.map_nil]; rfl) ?_
              refine (hg9.put18 P.name (by have := HLL6.out; simp only [List.length_append, Mp.be2_len]; omega) (by have := HN16.out; omega)).mono ?_
              rintro e w10 ⟨v10, rfl, hg10, hk10⟩
              refine ⟨v10, rfl, fun _ => hk10, ?_⟩
              refine wpK_q (v := ?_) (a' := ?_) (by rfl) (fun w' hR => ?_) ?_ ?_
              rotate_left 2
              · go_simp; with_reducible rfl
              · simp only [Act.put, List.setIfInBounds_toArray, List.set_cons_zero, List.set_cons_succ]; rfl
              refine wpK_done ?_
              obtain ⟨lA, hlA⟩ : ∃ lA, lA = l6 ++ Mp.be2 (kp : Int) ++ Mp.put P.name := ⟨_, rfl⟩
              rw [← hlA] at hg10
              have HG10 := hid hg10
              have HLA := hid hlA
              have HLLA : Hid (lA.length ≤ 17000) := hid (by rw [hlA]; have := HLL6.out; have := HN16.out; simp only [List.length_append, Mp.be2_len, Mp.put_len]; omega)
              have c7 : w10.cell? ⟨b, 7, none⟩ = some (.bool P.will) := hg10.pk.cell 7
              clear hg9 hk9 hg10 hk10 k6 k4 HG8 hlA
              cases hw : P.will with
              | false =>
                rw [hw] at c7
                rw [hw, if_neg (by decide)] at HR
                clear hw
                go_wp2_with fail
                go_meet
                case rel => exact ⟨v10, lA, rfl, by have := HLLA.out; omega, hid ⟨HG10.out, fun _ => by rw [HR.out, HLA.out, HL6.out, List.append_nil]⟩⟩
              | true =>
                rw [hw] at c7
                rw [hw, if_pos rfl] at HR
                clear hw
                go_wp2_with fail
                have HGX := hid HG10.out.drew
                have k8 : ∀ w', KeepOne b w10.drew w' → w'.cell? ⟨b, 8, none⟩ = some (S P.topic) := fun w' hh => by rw [World.cell?_of_block hh.1]; exact HGX.out.pk.cell 8
                have k5 : ∀ w', KeepOne b w10.drew w' → w'.cell? ⟨b, 5, none⟩ = some (S P.text) := fun w' hh => by rw [World.cell?_of_block hh.1]; exact HGX.out.pk.cell 5
                clear HG10 c7
                refine wp_region_order (KeepOne b) [] [(0,0),(1,0),(2,0),(4,0),(5,0),(3,1),(6,1),(7,0)] _ (by kernel_rfl) rfl KeepOne.refl KeepOne.trans (by kernel_rfl) (by simp only [pick, List.getElem?_toArray, List.getElem?_cons_zero, List.getElem?_cons_succ]; rfl) (fun c a d v w h => by cases d <;> exact h) ?_
                generalize w10.drew = w11 at *
                refine wpK_q (v := ?_) (a' := ?_) (by rfl) (fun w' hR => ?_) ?_ ?_
                rotate_left 2
                · go_simp; with_reducible rfl
                · simp only [Act.put, List.setIfInBounds_toArray, List.set_cons_zero, List.set_cons_succ]; rfl
                refine wpK_q (v := ?_) (a' := ?_) (by rfl) (fun w' hR => ?_) ?_ ?_
                rotate_left 2
                · go_simp; with_reducible rfl
                · simp only [Act.put, List.setIfInBounds_toArray, List.set_cons_zero, List.set_cons_succ]; rfl
                refine wpK_q (v := ?_) (a' := ?_) (by rfl) (fun w' hR => ?_) ?_ ?_
                rotate_left 2
                · go_simp; with_reducible rfl
                · simp only [Act.put, List.setIfInBounds_toArray, List.set_cons_zero, List.set_cons_succ]; rfl
                refine wpK_q (v := ?_) (a' := ?_) (by rfl) (fun w' hR => ?_) ?_ ?_
                rotate_left 2
                · go_simp; with_reducible rfl
                · simp only [Act.put, List.setIfInBounds_toArray, List.set_cons_zero, List.set_cons_succ]; rfl
                refine wpK_q (v := ?_) (a' := ?_) (by rfl) (fun w' hR => ?_) ?_ ?_
                rotate_left 2
                · go_simp; with_reducible rfl
                · simp only [Act.put, List.setIfInBounds_toArray, List.set_cons_zero, List.set_cons_succ]; rfl
                refine wpK_call Try.func18 (by kernel_rfl) rfl rfl (by rfl) #[v10, S P.topic] (by simp only [List.map_toArray, List.map_cons, List.map_nil]; rfl) ?_
                refine (HGX.out.put18 P.topic (by have := HLLA.out; omega) (by have := HT16.out; omega)).mono ?_
                rintro e w12 ⟨v12, rfl, hg12, hk12⟩
                refine ⟨v12, rfl, fun _ => hk12, ?_⟩
                refine wpK_call Try.func18 (by kernel_rfl) rfl rfl (by rfl) #[v12, S P.text] (by simp only [List.map_toArray, List.map_cons, List.map_nil]; rfl) ?_
                refine (hg12.put18 P.text (by have := HLLA.out; have := HT16.out; simp only [List.length_append, Mp.put_len]; omega) (by have := HT10.out; omega)).mono ?_
                rintro e w13 ⟨v13, rfl, hg13, hk13⟩
                refine ⟨v13, rfl, fun _ => hk13, ?_⟩
                refine wpK_q (v := ?_) (a' := ?_) (by rfl) (fun w' hR => ?_) ?_ ?_
                rotate_left 2
                · go_simp; with_reducible rfl
                · simp only [Act.put, List.setIfInBounds_toArray, List.set_cons_zero, List.set_cons_succ]; rfl
                refine wpK_done ?_
                have HG13 := hid hg13
                clear hg12 hk12 hg13 hk13 k8 k5 HGX
                go_wp2_with fail
                go_meet
                case rel => exact ⟨v13, _, rfl, by have := HLLA.out; have := HT16.out; have := HT10.out; simp only [List.length_append, Mp.put_len]; omega, hid ⟨HG13.out, fun _ => by rw [HR.out, HLA.out, HL6.out]; simp only [List.append_assoc]⟩⟩
      · as_aux_lemma =>
          have c6 : w1.cell? ⟨b, 6, none⟩ = some (I P.keep) := HG.out.pk.cell 6
          have c3 : w1.cell? ⟨b, 3, none⟩ = some (I P.code) := HG.out.pk.cell 3
          have e3 := b1_wrap P.code
          have e6 := b1_wrap P.keep
          have HR := hid (Mp.rest_2 HK.out)
          obtain ⟨x, hx⟩ : ∃ x, x = Mp.b1 P.keep := ⟨_, rfl⟩
          obtain ⟨y, hy⟩ : ∃ y, y = Mp.b1 P.code := ⟨_, rfl⟩
          rw [← hx, ← hy] at HR
          rw [← hx] at e6
          rw [← hy] at e3
          clear hx hy c2 hwi
          have HS2 := hid (Sees.lit w1 [x, y] (0, 0) (by simp [maxLen]))
          have HG2 := hid (HG.out.alloc (.cells #[.int .u8 (x.toNat : Int), .int .u8 (y.toNat : Int)] 5))
          have HLT := hid HG.out.lt
          go_wp2_with (at_builtin; go_must (refine wpList_app rfl (.tmp 94) (.tmp 101) 28 rfl (b + 1) 5 (.int .u8 0) 1 1 Try.underlying28 info5 rfl (by decide) _ _ 2 ([x, y].map B) HG2.out.row HS2.out.src ?h63 ?hbK2 ?hbase ?_))
          case h63 => unfold maxLen; simp
          case hbase => exact Nat.le_of_lt HG.out.lt
          intro v9 w9 hown hgrow hat
          have hlt2 := HG2.out.lt
          have hb9 := below_grown hgrow HG2.out.lt (fun k hk => (own_lt HG2.out.row k hk).1)
          have HG9 : Hid (Grown w w9 b P nv cv v9 [x, y]) := hid (HG2.out.keep hb9 (own_len hown (by simp) (by simp)))
          clear hown hgrow hat hb9 HG2 HS2
          go_wp2_with fail
          go_meet
          case rel => exact ⟨v9, [x, y], rfl, by simp, hid ⟨HG9.out, fun _ => HR.out.symm⟩⟩
      · as_aux_lemma =>
          have c8 : w1.cell? ⟨b, 8, none⟩ = some (S P.topic) := HG.out.pk.cell 8
          have HT16 := hid HA.out.topic
          have HT10 := hid HA.out.text
          go_upto_region 14 with (first | (go_at_call 18; refine (HG.out.put18 P.topic (by simp) (by have := HT16.out; omega)).mono ?_; rintro e w3 ⟨v3, rfl, hg3, hk3⟩; have HG3 := hid hg3; clear hg3 hk3) | fail)
          have HR := hid (Mp.rest_3 HK.out)
          clear c8 c2
          obtain ⟨l3, hl3⟩ : ∃ l3, l3 = [] ++ Mp.put P.topic := ⟨_, rfl⟩
          rw [← hl3] at HG3
          have HL3 := hid hl3
          have HLL : Hid (l3.length ≤ 20000) := hid (by rw [hl3]; simp only [List.nil_append, Mp.put_len]; have := HT16.out; omega)
          clear hl3
          have d2 : w3.cell? ⟨b, 2, none⟩ = some (I i) := HI.out ▸ HG3.out.pk.cell 2
          have d5 : w3.cell? ⟨b, 5, none⟩ = some (S P.text) := HG3.out.pk.cell 5
          obtain ⟨i5, hi5, hz5, hs5, hb5⟩ := info_parts info5
          by_cases hf : 0 ≤ P.flags ∧ P.flags ≤ 15
          · as_aux_lemma =>
              obtain ⟨f, hff⟩ : ∃ f : Nat, P.flags = (f : Int) := ⟨P.flags.toNat, by omega⟩
              have hf15 : f ≤ 15 := by omega
              have d1 : w3.cell? ⟨b, 1, none⟩ = some (I f) := hff ▸ HG3.out.pk.cell 1
              rw [hff] at HR
              clear hf hff
              by_cases hX : 0 < (f : Int) / 2 % 4
              · have hd : decide ((0 : Int) < (f : Int) / 2 % 4) = true := decide_eq_true hX
                rw [if_pos hX] at HR
                go_wp2_with (first | (go_at_call 19; refine (HG3.out.big i (by have := HLL.out; omega) hi2).mono ?_; rintro e w4 ⟨v4, rfl, hg4, hk4⟩; have d5' : w4.cell? ⟨b, 5, none⟩ = some (S P.text) := hg4.pk.cell 5; obtain ⟨l4, hl4⟩ : ∃ l4, l4 = l3 ++ Mp.be2 i := ⟨_, rfl⟩; rw [← hl4] at hg4; have HG4 := hid hg4; have HL4 := hid hl4; replace HLL : Hid (l4.length ≤ 20002) := hid (by rw [hl4, List.length_append]; have := HLL.out; have : (Mp.be2 (i : Int)).length = 2 := rfl; omega); clear hg4 hk4 hl4 d5) | (at_builtin; go_must (refine Lib.wpList_append_own_string _ rfl (.tmp 118) (.tmp 120) 28 9 rfl (b + 1) 5 i5 Try.underlying28 Try.underlying9 hi5 hz5 hs5 hb5 v4 l4.length (l4.map B) rfl HG4.out.row (str P.text) rfl ?h63 ?hb HG4.out.lt ?_)) | fail)
                case h63 => rw [str_size]; have := HLL.out; have := HT10.out; unfold maxLen; omega
                case hb => rw [str_size]; have := HLL.out; have := HT10.out; omega
                intro v9 w9 hown hgrow hnn
                have HG9 : Hid (Grown w w9 b P nv cv v9 (l4 ++ P.text)) := hid (HG4.out.str hown hgrow)
                clear hown hgrow hnn
                go_wp2_with fail
                go_meet
                case rel => exact ⟨v9, _, rfl, by rw [List.length_append]; have := HLL.out; have := HT10.out; omega, hid ⟨HG9.out, fun _ => by rw [HR.out, HL4.out, HL3.out, HI.out]; simp only [List.nil_append]⟩⟩
              · have hd : decide ((0 : Int) < (f : Int) / 2 % 4) = false := decide_eq_false hX
                rw [if_neg hX] at HR
                go_wp2_with (at_builtin; go_must (refine Lib.wpList_append_own_string _ rfl (.tmp 118) (.tmp 120) 28 9 rfl (b + 1) 5 i5 Try.underlying28 Try.underlying9 hi5 hz5 hs5 hb5 v3 l3.length (l3.map B) rfl HG3.out.row (str P.text) rfl ?h63 ?hb HG3.out.lt ?_))
                case h63 => rw [str_size]; have := HLL.out; have := HT10.out; unfold maxLen; omega
                case hb => rw [str_size]; have := HLL.out; have := HT10.out; omega
                intro v9 w9 hown hgrow hnn
                have HG9 : Hid (Grown w w9 b P nv cv v9 (l3 ++ P.text)) := hid (HG3.out.str hown hgrow)
                clear hown hgrow hnn
                go_wp2_with fail
                go_meet
                case rel => exact ⟨v9, _, rfl, by rw [List.length_append]; have := HLL.out; have := HT10.out; omega, hid ⟨HG9.out, fun _ => by rw [HR.out, HL3.out]; simp only [List.nil_append, List.append_nil]⟩⟩
          · as_aux_lemma =>
              have HNF : Hid (¬ Mp.Fits P) := hid (fun h => hf h.flags)
              have d1 : w3.cell? ⟨b, 1, none⟩ = some (I P.flags) := HG3.out.pk.cell 1
              generalize P.flags = q at *
              clear hf HA
              by_cases hX : 0 < (Go.RowKit.wrap64 (q.tdiv 2)).tmod 4
              · have hd : decide (0 < (Go.RowKit.wrap64 (q.tdiv 2)).tmod 4) = true := decide_eq_true hX
                go_wp2_with (first | (go_at_call 19; refine (HG3.out.big i (by have := HLL.out; omega) hi2).mono ?_; rintro e w4 ⟨v4, rfl, hg4, hk4⟩; have d5' : w4.cell? ⟨b, 5, none⟩ = some (S P.text) := hg4.pk.cell 5; obtain ⟨l4, hl4⟩ : ∃ l4, l4 = l3 ++ Mp.be2 i := ⟨_, rfl⟩; rw [← hl4] at hg4; have HG4 := hid hg4; have HL4 := hid hl4; replace HLL : Hid (l4.length ≤ 20002) := hid (by rw [hl4, List.length_append]; have := HLL.out; have : (Mp.be2 (i : Int)).length = 2 := rfl; omega); clear hg4 hk4 hl4 d5) | (at_builtin; go_must (refine Lib.wpList_append_own_string _ rfl (.tmp 118) (.tmp 120) 28 9 rfl (b + 1) 5 i5 Try.underlying28 Try.underlying9 hi5 hz5 hs5 hb5 v4 l4.length (l4.map B) rfl HG4.out.row (str P.text) rfl ?h63 ?hb HG4.out.lt ?_)) | fail)
                case h63 => rw [str_size]; have := HLL.out; have := HT10.out; unfold maxLen; omega
                case hb => rw [str_size]; have := HLL.out; have := HT10.out; omega
                intro v9 w9 hown hgrow hnn
                have HG9 : Hid (Grown w w9 b P nv cv v9 (l4 ++ P.text)) := hid (HG4.out.str hown hgrow)
                clear hown hgrow hnn
                go_wp2_with fail
                go_meet
                case rel => exact ⟨v9, _, rfl, by rw [List.length_append]; have := HLL.out; have := HT10.out; omega, hid ⟨HG9.out, fun hf => absurd hf HNF.out⟩⟩
              · have hd : decide (0 < (Go.RowKit.wrap64 (q.tdiv 2)).tmod 4) = false := decide_eq_false hX
                go_wp2_with (at_builtin; go_must (refine Lib.wpList_append_own_string _ rfl (.tmp 118) (.tmp 120) 28 9 rfl (b + 1) 5 i5 Try.underlying28 Try.underlying9 hi5 hz5 hs5 hb5 v3 l3.length (l3.map B) rfl HG3.out.row (str P.text) rfl ?h63 ?hb HG3.out.lt ?_))
                case h63 => rw [str_size]; have := HLL.out; have := HT10.out; unfold maxLen; omega
                case hb => rw [str_size]; have := HLL.out; have := HT10.out; omega
                intro v9 w9 hown hgrow hnn
                have HG9 : Hid (Grown w w9 b P nv cv v9 (l3 ++ P.text)) := hid (HG3.out.str hown hgrow)
                clear hown hgrow hnn
                go_wp2_with fail
                go_meet
                case rel => exact ⟨v9, _, rfl, by rw [List.length_append]; have := HLL.out; have := HT10.out; omega, hid ⟨HG9.out, fun hf => absurd hf HNF.out⟩⟩
      · as_aux_lemma =>
          have HR := hid (Mp.rest_4 HK.out h)
          rcases h with rfl | rfl | rfl | rfl | rfl
          all_goals
            go_wp2_with (first | (go_at_call 19; refine (HG.out.big i (by simp) hi2).mono ?_; rintro e w3 ⟨v3, rfl, hg3, -⟩; have HG3 := hid hg3; clear hg3) | fail)
            go_meet
            case rel => exact ⟨v3, _, rfl, by simp [Mp.be2], hid ⟨HG3.out, fun _ => by rw [HR.out, HI.out]; rfl⟩⟩
      · as_aux_lemma =>
          have HR := hid (Mp.rest_8 HK.out h)
          rcases h with rfl | rfl | rfl
          all_goals as_aux_lemma =>
            go_wp2_with (first | (go_at_call 19; refine (HG.out.big i (by simp) hi2).mono ?_; rintro e w3 ⟨v3, rfl, hg3, -⟩; have HG3 := hid hg3; clear hg3) | fail)
            clear c2 hwi
            go_loopw [4, 5] (fun v i wr => ∃ k : Nat, k ≤ 32 ∧ i = I k ∧ Hid (Grown w wr b P nv cv v (Mp.be2 P.id ++ Mp.pairs (P.names.take k) (P.codes.take k)) ∧ (∀ x ∈ P.names.take k, x.length ≤ 16384))) (fun _ i _ => 32 - (intOf i).toNat)
            case atStart => exact ⟨0, by omega, rfl, hid ⟨by have h9 := HG3.out; rw [List.take_zero, List.take_zero, show Mp.pairs [] [] = [] by simp [Mp.pairs], List.append_nil, HI.out]; exact h9, by simp⟩⟩
            case round =>
              clear HG HG3
              obtain ⟨k, hk, rfl, HKK⟩ := hrel
              have HKG := hid HKK.out.1
              have HAL := hid HKK.out.2
              clear HKK
              by_cases hlt : k < 32
              · have hd : decide ((k : Int) < 32) = true := decide_eq_true (by omega)
                obtain ⟨lk, hlk⟩ : ∃ lk, lk = Mp.be2 P.id ++ Mp.pairs (P.names.take k) (P.codes.take k) := ⟨_, rfl⟩
                rw [← hlk] at HKG
                have HLK : Hid (lk.length ≤ 600000) := hid (by
                  have h1 := Mp.pairs_len 16384 (P.names.take k) (P.codes.take k) HAL.out
                  rw [hlk, List.length_append]
                  rw [List.length_take, List.length_take] at h1
                  have h2 : (Mp.be2 P.id).length = 2 := rfl
                  have h3 : min k P.names.length * (16384 + 2) ≤ 32 * (16384 + 2) := Nat.mul_le_mul_right _ (by omega)
                  omega)
                have HLQ := hid hlk
                clear hlk
                have c10 : wr.cell? ⟨b, 10, none⟩ = some (.slice an P.names.length cn) := (HKG.out.pk.cell 10).trans (by rw [← HNC.out.1]; rfl)
                have HBR : Hid (Below w.heap.size w wr) := hid (by have h9 := HKG.out.below; rw [HBB.out] at h9; exact h9)
                by_cases hkn : k < P.names.length
                · have hns := HN0.out
                  rw [HNC.out.1] at hns
                  obtain ⟨ao, cp, hv, q1, q2, q3⟩ := hns.below HBR.out
                  simp only [Value.slice.injEq] at hv
                  obtain ⟨rfl, -, rfl⟩ := hv
                  rw [List.length_map] at q3
                  obtain ⟨g, off, rfl, hcell⟩ := q3 (by omega)
                  have cnk := hcell k (S P.names[k]) (by rw [List.getElem?_map, List.getElem?_eq_getElem hkn]; rfl)
                  have hna : Mp.nameAt P.names k = Mp.put P.names[k] := by unfold Mp.nameAt; rw [List.getElem?_eq_getElem hkn]
                  have hme : P.names[k] ∈ P.names := List.getElem_mem hkn
                  have hat : P.names[k]? = some P.names[k] := List.getElem?_eq_getElem hkn
                  generalize P.names[k] = nm at *
                  have HNA := hid hna
                  have HME := hid hme
                  have HAT := hid hat
                  have hz := str_size nm
                  clear hcell q1 q2 q3 hna hns hme hat
                  by_cases hnl : nm.length ≤ 16384
                  rotate_left
                  · have HNF : Hid (¬ Mp.Fits P) := hid (fun hf => hnl (hf.nlen _ HME.out))
                    have hd2 : decide ((16384 : Int) < (nm.length : Int)) = true := decide_eq_true (by omega)
                    go_wp2_with fail
                    go_ret2
                    rw [HE.out, Mp.enc_none HNF.out]
                    exact ⟨HBR.out, rfl⟩
                  · have hd2 : decide ((16384 : Int) < (nm.length : Int)) = false := decide_eq_false (by omega)
                    have HNM := hid hnl
                    have HNEXT : Hid (∀ x ∈ P.names.take (k + 1), x.length ≤ 16384) := hid (take_all HAL.out (fun x hx => by rw [HAT.out] at hx; cases hx; exact HNM.out))
                    have HPUT := hid (HKG.out.put18 nm (by have := HLK.out; omega) (by omega))
                    clear hnl
                    go_upto_region 34 with (first | (go_at_call 18; refine HPUT.out.mono ?_; rintro e w4 ⟨v4, rfl, hg4, -⟩; have HG4 := hid hg4; clear hg4) | fail)
                    obtain ⟨lx, hlx⟩ : ∃ lx, lx = lk ++ Mp.put nm := ⟨_, rfl⟩
                    rw [← hlx] at HG4
                    have HLX : Hid (lx.length ≤ 700000) := hid (by rw [hlx, List.length_append, Mp.put_len]; have := HLK.out; have := HNM.out; omega)
                    have HLY : Hid (lx = Mp.be2 P.id ++ (Mp.pairs (P.names.take k) (P.codes.take k) ++ Mp.nameAt P.names k)) := hid (by rw [hlx, HNA.out, HLQ.out, List.append_assoc])
                    clear hlx cnk c10 HPUT HKG hd2 hz
                    -- the code
                    have c11 : w4.cell? ⟨b, 11, none⟩ = some (.slice ac P.codes.length cc) := (HG4.out.pk.cell 11).trans (by rw [← HNC.out.2]; rfl)
                    have hltx := HG4.out.lt
                    have HBW : Hid (Below w.heap.size w w4) := hid (by have h9 := HG4.out.below; rw [HBB.out] at h9; exact h9)
                    by_cases hkc : k < P.codes.length
                    · have hcs := HC0.out
                      rw [HNC.out.2] at hcs
                      obtain ⟨ao, cp, hv, q1, q2, q3⟩ := hcs.below HBW.out
                      simp only [Value.slice.injEq] at hv
                      obtain ⟨rfl, -, rfl⟩ := hv
                      rw [List.length_map] at q3
                      obtain ⟨g, off, rfl, hcell⟩ := q3 (by omega)
                      have cck := hcell k (I P.codes[k]) (by rw [List.getElem?_map, List.getElem?_eq_getElem hkc]; rfl)
                      have e6 := b1_wrap P.codes[k]
                      have hca : Mp.codeAt P.codes k = [Mp.b1 P.codes[k]] := by unfold Mp.codeAt; rw [List.getElem?_eq_getElem hkc]
                      have hme : P.codes[k] ∈ P.codes := List.getElem_mem hkc
                      generalize P.codes[k] = cd at *
                      have HCA := hid hca
                      have HME := hid hme
                      clear hcell q1 q2 q3 hca hcs hme
                      by_cases hfit : 0 ≤ cd ∧ cd < 256
                      · have HFT := hid (show decide (0 ≤ cd ∧ cd < 256) = true from decide_eq_true hfit)
                        have HGA := hid (HG4.out.alloc (.cells #[.int .u8 ((Mp.b1 cd).toNat : Int)] 5))
                        have HSA := hid (show Sees (w4.alloc (.cells #[.int .u8 ((Mp.b1 cd).toNat : Int)] 5)) (.slice (some ⟨w4.heap.size, 0, none⟩) 1 1) [Mp.b1 cd] from Sees.lit w4 [Mp.b1 cd] (0, 0) (by simp [maxLen]))
                        clear hfit
                        go_wp2_with (first | (go_at_call 17; refine (fits1_b _ cd _ HFT.out).mono ?_; rintro e wy ⟨rfl, rfl⟩) | (at_builtin; go_must (refine wpList_app rfl (.tmp 175) (.tmp 182) 28 rfl (b + 1) 5 (.int .u8 0) 1 1 Try.underlying28 info5 rfl (by decide) _ _ 1 ([Mp.b1 cd].map B) HGA.out.row HSA.out.src ?h63 ?hb ?hbase ?_)))
                        case h63 => have := HLX.out; unfold maxLen; omega
                        case hb => have := HLX.out; omega
                        case hbase => simp; omega
                        intro v5 w5 hown hgrow hat
                        have HG5 : Hid (Grown w w5 b P nv cv v5 (lx ++ [Mp.b1 cd])) := hid (HGA.out.keep (below_grown hgrow HGA.out.lt (fun k hk => (own_lt HGA.out.row k hk).1)) (own_len hown (by rw [List.length_append]; rfl) (by rw [List.map_append]; rfl)))
                        clear hown hgrow hat HGA HSA cck e6 c11
                        go_wp2_with fail
                        go_roundw
                        case rel => exact ⟨k + 1, by omega, by go_num, hid ⟨by have h9 := HG5.out; rw [← HCA.out, HLY.out, List.append_assoc, ← Mp.pairs_take] at h9; exact h9, HNEXT.out⟩⟩
                        case measure => simp [intOf]; omega
                      · have HNF : Hid (¬ Mp.Fits P) := hid (fun hf => hfit (hf.clen _ HME.out))
                        have HFT := hid (show decide (0 ≤ cd ∧ cd < 256) = false from decide_eq_false hfit)
                        clear hfit
                        go_wp2_with (first | (go_at_call 17; refine (fits1_b _ cd _ HFT.out).mono ?_; rintro e wy ⟨rfl, rfl⟩) | fail)
                        go_ret2
                        rw [HE.out, Mp.enc_none HNF.out]
                        exact ⟨HBW.out, rfl⟩
                    · have hca : Mp.codeAt P.codes k = [] := by unfold Mp.codeAt; rw [List.getElem?_eq_none (by omega)]
                      have HCA := hid hca
                      clear hca
                      go_wp2_with fail
                      go_roundw
                      case rel => exact ⟨k + 1, by omega, by go_num, hid ⟨by have h9 := HG4.out; rw [HLY.out] at h9; have h8 := Mp.pairs_take k P.names P.codes; rw [HCA.out, List.append_nil] at h8; rw [h8]; exact h9, HNEXT.out⟩⟩
                      case measure => simp [intOf]; omega
                · have hna : Mp.nameAt P.names k = [] := by unfold Mp.nameAt; rw [List.getElem?_eq_none (by omega)]
                  go_upto_region 34 with (fail)
                  obtain ⟨lx, hlx⟩ : ∃ lx, lx = lk := ⟨_, rfl⟩
                  rw [← hlx] at HKG
                  have HLX : Hid (lx.length ≤ 700000) := hid (by rw [hlx]; have := HLK.out; omega)
                  have HLY : Hid (lx = Mp.be2 P.id ++ (Mp.pairs (P.names.take k) (P.codes.take k) ++ Mp.nameAt P.names k)) := hid (by rw [hlx, hna, HLQ.out, List.append_nil])
                  have HNEXT : Hid (∀ x ∈ P.names.take (k + 1), x.length ≤ 16384) := hid (take_all HAL.out (fun x hx => by rw [List.getElem?_eq_none (by omega)] at hx; cases hx))
                  clear hlx c10 hna
                  -- the code
                  have c11 : wr.cell? ⟨b, 11, none⟩ = some (.slice ac P.codes.length cc) := (HKG.out.pk.cell 11).trans (by rw [← HNC.out.2]; rfl)
                  have hltx := HKG.out.lt
                  have HBW : Hid (Below w.heap.size w wr) := hid (by have h9 := HKG.out.below; rw [HBB.out] at h9; exact h9)
                  by_cases hkc : k < P.codes.length
                  · have hcs := HC0.out
                    rw [HNC.out.2] at hcs
                    obtain ⟨ao, cp, hv, q1, q2, q3⟩ := hcs.below HBW.out
                    simp only [Value.slice.injEq] at hv
                    obtain ⟨rfl, -, rfl⟩ := hv
                    rw [List.length_map] at q3
                    obtain ⟨g, off, rfl, hcell⟩ := q3 (by omega)
                    have cck := hcell k (I P.codes[k]) (by rw [List.getElem?_map, List.getElem?_eq_getElem hkc]; rfl)
                    have e6 := b1_wrap P.codes[k]
                    have hca : Mp.codeAt P.codes k = [Mp.b1 P.codes[k]] := by unfold Mp.codeAt; rw [List.getElem?_eq_getElem hkc]
                    have hme : P.codes[k] ∈ P.codes := List.getElem_mem hkc
                    generalize P.codes[k] = cd at *
                    have HCA := hid hca
                    have HME := hid hme
                    clear hcell q1 q2 q3 hca hcs hme
                    by_cases hfit : 0 ≤ cd ∧ cd < 256
                    · have HFT := hid (show decide (0 ≤ cd ∧ cd < 256) = true from decide_eq_true hfit)
                      have HGA := hid (HKG.out.alloc (.cells #[.int .u8 ((Mp.b1 cd).toNat : Int)] 5))
                      have HSA := hid (show Sees (wr.alloc (.cells #[.int .u8 ((Mp.b1 cd).toNat : Int)] 5)) (.slice (some ⟨wr.heap.size, 0, none⟩) 1 1) [Mp.b1 cd] from Sees.lit wr [Mp.b1 cd] (0, 0) (by simp [maxLen]))
                      clear hfit
                      go_wp2_with (first | (go_at_call 17; refine (fits1_b _ cd _ HFT.out).mono ?_; rintro e wy ⟨rfl, rfl⟩) | (at_builtin; go_must (refine wpList_app rfl (.tmp 175) (.tmp 182) 28 rfl (b + 1) 5 (.int .u8 0) 1 1 Try.underlying28 info5 rfl (by decide) _ _ 1 ([Mp.b1 cd].map B) HGA.out.row HSA.out.src ?h63 ?hb ?hbase ?_)))
                      case h63 => have := HLX.out; unfold maxLen; omega
                      case hb => have := HLX.out; omega
                      case hbase => simp; omega
                      intro v5 w5 hown hgrow hat
                      have HG5 : Hid (Grown w w5 b P nv cv v5 (lx ++ [Mp.b1 cd])) := hid (HGA.out.keep (below_grown hgrow HGA.out.lt (fun k hk => (own_lt HGA.out.row k hk).1)) (own_len hown (by rw [List.length_append]; rfl) (by rw [List.map_append]; rfl)))
                      clear hown hgrow hat HGA HSA cck e6 c11
                      go_wp2_with fail
                      go_roundw
                      case rel => exact ⟨k + 1, by omega, by go_num, hid ⟨by have h9 := HG5.out; rw [← HCA.out, HLY.out, List.append_assoc, ← Mp.pairs_take] at h9; exact h9, HNEXT.out⟩⟩
                      case measure => simp [intOf]; omega
                    · have HNF : Hid (¬ Mp.Fits P) := hid (fun hf => hfit (hf.clen _ HME.out))
                      have HFT := hid (show decide (0 ≤ cd ∧ cd < 256) = false from decide_eq_false hfit)
                      clear hfit
                      go_wp2_with (first | (go_at_call 17; refine (fits1_b _ cd _ HFT.out).mono ?_; rintro e wy ⟨rfl, rfl⟩) | fail)
                      go_ret2
                      rw [HE.out, Mp.enc_none HNF.out]
                      exact ⟨HBW.out, rfl⟩
                  · have hca : Mp.codeAt P.codes k = [] := by unfold Mp.codeAt; rw [List.getElem?_eq_none (by omega)]
                    have HCA := hid hca
                    clear hca
                    go_wp2_with fail
                    go_roundw
                    case rel => exact ⟨k + 1, by omega, by go_num, hid ⟨by have h9 := HKG.out; rw [HLY.out] at h9; have h8 := Mp.pairs_take k P.names P.codes; rw [HCA.out, List.append_nil] at h8; rw [h8]; exact h9, HNEXT.out⟩⟩
                    case measure => simp [intOf]; omega
              · have hk32 : k = 32 := by omega
                subst hk32
                clear hk hlt
                go_wp2_with fail
                have HNN := hid HA.out.names
                have HCN := hid HA.out.codes
                go_meet
                case rel => exact ⟨_, _, rfl, by
                  have h1 := Mp.pairs_len 16384 (P.names.take 32) (P.codes.take 32) HAL.out
                  rw [List.length_append]
                  rw [List.length_take, List.length_take] at h1
                  have h2 : (Mp.be2 P.id).length = 2 := rfl
                  have h3 : min 32 P.names.length * (16384 + 2) ≤ 32 * (16384 + 2) := Nat.mul_le_mul_right _ (by omega)
                  omega, hid ⟨HKG.out, fun _ => by rw [HR.out, List.take_of_length_le HNN.out, List.take_of_length_le HCN.out]⟩⟩
      · as_aux_lemma =>
          have HR := hid (Mp.rest_12 HK.out h)
          rcases h with rfl | rfl | rfl
          all_goals
            go_wp2_with fail
            go_meet
            case rel => exact ⟨nil0, [], rfl, Nat.zero_le _, hid ⟨HG.out, fun _ => HR.out.symm⟩⟩
    case rest => as_aux_lemma =>
      obtain ⟨v2, L, rfl, hrl, HGL⟩ := hcut
      obtain ⟨hG2, hL2⟩ := HGL.out
      have HEL := hid (HE.out.trans (Mp.encL_eq hL2).symm)
      obtain ⟨a2, n2, rfl⟩ := own_form hG2.row
      have HS2 := hid (own_sees' hG2.row rfl)
      have HG := hid hG2
      have c0 : wc.cell? ⟨b, 0, none⟩ = some (I P.kind) := hG2.pk.cell 0
      have c1 : wc.cell? ⟨b, 1, none⟩ = some (I P.flags) := hG2.pk.cell 1
      have hk14 := HA.out.kind
      have ew : Go.RowKit.wrap64 (16 * P.kind + P.flags) % 256 = ((Mp.b1 (16 * P.kind + P.flags)).toNat : Int) := b1_wrap64 _
      obtain ⟨x, hx⟩ : ∃ x, x = Mp.b1 (16 * P.kind + P.flags) := ⟨_, rfl⟩
      rw [← hx] at ew
      have hwh : Mp.wholeL P L = x :: (Mp.var L.length L.length ++ L) := by rw [hx]; rfl
      obtain ⟨W, hW⟩ : ∃ W, W = Mp.wholeL P L := ⟨_, rfl⟩
      unfold Mp.encL at HEL
      rw [← hW] at hwh HEL
      have HWH := hid hwh
      have HWL : Hid (W.length ≤ 1000000 + 10000) := hid (by rw [hwh]; have := Mp.var_len2 L.length L.length; simp only [List.length_cons, List.length_append]; omega)
      have hT : Tail wc (wc.alloc (.cells #[.int .u8 (x.toNat : Int)] 5)) (.slice (some ⟨wc.heap.size, 0, none⟩) 1 1) [x] := ⟨own_new wc [x] (by simp [maxLen]), (Below.refl _ _).alloc (Nat.le_refl _) _⟩
      have HT := hid hT
      clear hT hx hW hwh HGL hG2 hL2 HP HE
      go_wp2_with fail
      try rw [ew]
      clear ew
      go_loopw [6, 7] (fun v5 n6 wr => ∃ (N : Nat) (l : List UInt8), N ≤ 1000000 ∧ n6 = I N ∧ Hid (Tail wc wr v5 l ∧ l ++ Mp.var N N = x :: Mp.var L.length L.length)) (fun _ n6 _ => (intOf n6).toNat)
      case atStart => exact ⟨L.length, [x], hrl, rfl, hid ⟨HT.out, rfl⟩⟩
      case round =>
        clear HT
        obtain ⟨N, l, hN, rfl, HH⟩ := hrel
        obtain ⟨hT, hvar⟩ := HH.out
        have HLB : Hid (l.length ≤ 1100002) := hid (by
          have h1 := congrArg List.length hvar
          have h2 := Mp.var_len2 L.length L.length
          simp only [List.length_append, List.length_cons] at h1
          omega)
        have HT := hid hT
        have HVAR := hid hvar
        have hlt9 := hT.lt
        clear hT hvar HH
        by_cases hbig : 127 < N
        · have hd : decide (127 < (N : Int)) = true := decide_eq_true (by omega)
          have e2 := u8_more N
          obtain ⟨y, hy⟩ : ∃ y, y = UInt8.ofNat (N % 128 + 128) := ⟨_, rfl⟩
          rw [← hy] at e2
          have hvb := Mp.var_big hbig
          rw [← hy] at hvb
          have HVB := hid hvb
          have HTA := hid (HT.out.alloc (.cells #[.int .u8 (y.toNat : Int)] 5))
          have HSA := hid (one_sees wr y)
          clear hy hvb HT
          go_wp2_with (at_builtin; go_must (refine wpList_app rfl (.tmp 196) (.tmp 201) 28 rfl wc.heap.size 5 (.int .u8 0) 1 1 Try.underlying28 info5 rfl (by decide) _ _ 1 ([y].map B) HTA.out.row HSA.out.src ?h63 ?hb ?hbase ?_))
          case h63 => have := HLB.out; unfold maxLen; omega
          case hb => have := HLB.out; omega
          case hbase => exact HTA.out.lt
          intro v9 w9 hown hgrow hat
          have HT9 : Hid (Tail wc w9 v9 (l ++ [y])) := hid (HTA.out.keep hown hgrow (by rw [List.length_append]; rfl) (by rw [List.map_append]; rfl))
          clear hown hgrow hat HTA HSA e2 hd
          go_wp2_with fail
          go_roundw
          case rel => exact ⟨N / 128, l ++ [y], by omega, by go_num, hid ⟨HT9.out, by rw [List.append_assoc, ← HVAR.out, HVB.out]; rfl⟩⟩
          case measure => simp [intOf]; omega
        · have hd : decide (127 < (N : Int)) = false := decide_eq_false (by omega)
          have e3 := u8_small N (by omega)
          obtain ⟨y, hy⟩ : ∃ y, y = UInt8.ofNat N := ⟨_, rfl⟩
          rw [← hy] at e3
          have hvb := Mp.var_small (n := N) (by omega)
          rw [← hy] at hvb
          have HWE : Hid (l ++ [y] ++ L = W) := hid (by rw [HWH.out, ← hvb, HVAR.out]; rfl)
          have HTA := hid (HT.out.alloc (.cells #[.int .u8 (y.toNat : Int)] 5))
          have HSA := hid (one_sees wr y)
          clear hy hvb HT HVAR
          go_wp2_with (at_builtin; go_must (refine wpList_app rfl (.tmp 205) (.tmp 208) 28 rfl wc.heap.size 5 (.int .u8 0) 1 1 Try.underlying28 info5 rfl (by decide) _ _ 1 ([y].map B) HTA.out.row HSA.out.src ?h63 ?hb ?hbase ?_))
          case h63 => have := HLB.out; unfold maxLen; omega
          case hb => have := HLB.out; omega
          case hbase => exact HTA.out.lt
          intro v9 w9 hown hgrow hat
          have HT9 : Hid (Tail wc w9 v9 (l ++ [y])) := hid (HTA.out.keep hown hgrow (by rw [List.length_append]; rfl) (by rw [List.map_append]; rfl))
          clear hown hgrow hat HTA HSA
          obtain ⟨l9, hl9⟩ : ∃ l9, l9 = l ++ [y] := ⟨_, rfl⟩
          rw [← hl9] at HT9 HWE
          have HLB9 : Hid (l9.length ≤ 1100003) := hid (by rw [hl9, List.length_append]; have := HLB.out; simp; omega)
          have HS9 := hid (HS2.out.below HT9.out.below)
          clear hl9 HLB
          go_wp2_with (at_builtin; go_must (refine wpList_app rfl (.tmp 209) (.tmp 210) 28 rfl wc.heap.size 5 (.int .u8 0) 1 1 Try.underlying28 info5 rfl (by decide) _ _ L.length (L.map B) HT9.out.row HS9.out.src ?h63 ?hb ?hbase ?_))
          case h63 => have := HLB9.out; unfold maxLen; omega
          case hb => have := HLB9.out; omega
          case hbase => exact HT9.out.lt
          intro v10 w10 hown hgrow hat
          have hT10 : Tail wc w10 v10 W := by rw [← HWE.out]; exact HT9.out.keep hown hgrow (by rw [List.length_append]) (by rw [List.map_append])
          clear hown hgrow hat HT9 HS9 HLB9 HWE e3 hd hlt9
          obtain ⟨a10, n10, rfl⟩ := own_form hT10.row
          have kS : (convert 28 9 (.slice a10 W.length n10)).run Try.prog w10 = .ok (.string (str W)) w10 := run_str Try.underlying28 Try.underlying5 Try.underlying9 (own_sees' hT10.row rfl)
          have HT10 := hid hT10
          have HB10 := hid hT10.below
          have HNX := hid (next12_any w10 W (by have := HWL.out; omega))
          clear hT10
          obtain ⟨R, hR⟩ : ∃ R, R = Mp.next W := ⟨_, rfl⟩
          have hbd := Mp.next_bound W
          rw [← hR] at HNX HEL hbd
          have HR := hid hR
          clear hR
          go_upto_region 45 with (first | (go_at_call 12; refine HNX.out.mono ?_; intro e w11 hNN; obtain ⟨nvq, cvq, hT⟩ := hNN.told; obtain rfl := hT.is; have HTT := hid hT; clear hNN hT) | (show wpList _ _ _ ({ dst := none, op := Op.store _ (.tmp 8) _, type := _, pos := _, after := _, guard := _ } :: _) _ _; refine wpList_store_by rfl (.tmp 8) (.tmp 216) rfl rfl (.pointer (some ⟨w11.heap.size, 0, none⟩)) (.agg (pkCells R.pk nvq cvq)) rfl rfl HTT.out.store ?_) | fail)
          have HGB : Hid (Below w.heap.size w wc) := hid (by have h := HG.out.below; rw [HBB.out] at h; exact h)
          have HLTC := hid HG.out.lt
          have hhd := HTT.out.held
          have hbs2 := HB10.out.size
          have HX13 := hid hhd.1
          have HG13 := hid (HG.out.keepAll (HB10.out.trans (hhd.2.mono hbs2)))
          have HRW := hid (own_below HT10.out.row hhd.2)
          have HN13 := hid (((HN0.out.below HGB.out).below HB10.out).below hhd.2)
          have HC13 := hid (((HC0.out.below HGB.out).below HB10.out).below hhd.2)
          clear hhd HTT HNX HT10 kS hbs2 HB10
          generalize (w11.alloc (.cells (pkCells Pk.zero nil0 nil0) 25)).setCells w11.heap.size 0 (pkCells R.pk nvq cvq).toList = w13 at *
          generalize w11.heap.size = q at *
          have HSM := hid (same13_any w13 _ _ R.pk P (HX13.out.v (by have := hbd.1; omega) (by have := hbd.2; omega)) ⟨⟨nv, cv, rfl, HN13.out, HC13.out⟩, HBN.out.1, HBN.out.2⟩)
          have kq := hid HX13.out.pk.load
          have kp := hid HG13.out.pk.load
          have HB13 : Hid (Below w.heap.size w w13) := hid (by have h := HG13.out.below; rw [HBB.out] at h; exact h)
          clear HX13 HG13 HN13 HC13 hbd HBN HGB
          obtain ⟨cd, hcd⟩ : ∃ cd, cd = R.code := ⟨_, rfl⟩
          rw [← hcd]
          cases R with
          | more => as_aux_lemma =>
            obtain rfl : cd = 41 := hcd
            have HE2 : Hid (E = none) := hid HEL.out
            clear HEL HSM
            go_wp2_with fail
            go_ret2
            rw [HE2.out]
            exact ⟨HB13.out, rfl⟩
          | proto => as_aux_lemma =>
            obtain rfl : cd = 40 := hcd
            have HE2 : Hid (E = none) := hid HEL.out
            clear HEL HSM
            go_wp2_with fail
            go_ret2
            rw [HE2.out]
            exact ⟨HB13.out, rfl⟩
          | ok Q n => as_aux_lemma =>
            obtain rfl : cd = 0 := hcd
            have HEQ : Hid (E = if Mp.same Q P then some W else none) := hid HEL.out
            replace HSM : Hid (Calls Try.prog 13 #[.agg (pkCells Q nvq cvq), .agg (pkCells P nv cv)] w13 fun e w' => e = .returned (.bool (Mp.same Q P)) ∧ Below w13.heap.size w13 w') := hid HSM.out
            replace kq : Hid ((Instr.loadAt 25 (.pointer (some ⟨q, 0, none⟩))).run Try.prog w13 = .ok (.agg (pkCells Q nvq cvq)) w13) := hid kq.out
            clear HEL
            obtain ⟨B0, hB0⟩ : ∃ B0, B0 = Mp.same Q P := ⟨_, rfl⟩
            rw [← hB0] at HSM HEQ
            clear hB0
            cases B0 with
            | true =>
              go_wp2_with (first | (show wpList _ _ _ ({ dst := some 222, op := _, type := _, pos := _, after := _, guard := _ } :: _) _ _; refine wpList_load_when (by rfl) (.tmp 8) rfl (.pointer (some ⟨q, 0, none⟩)) rfl kq.out ?_) | (show wpList _ _ _ ({ dst := some 223, op := _, type := _, pos := _, after := _, guard := _ } :: _) _ _; refine wpList_load_when (by rfl) (.tmp 1) rfl (.pointer (some ⟨b, 0, none⟩)) rfl kp.out ?_) | (go_at_call 13; refine HSM.out.mono ?_; rintro e w14 ⟨rfl, hb14⟩; have HB14 := hid hb14; clear hb14) | fail)
              go_ret2
              rw [HEQ.out]
              have h1 := HBB.out
              have h2 := HLTC.out
              exact ⟨HB13.out.trans (HB14.out.mono HB13.out.size), _, rfl, own_anew (own_below HRW.out HB14.out) (fun k hk => by have := (own_lt HRW.out k hk).1; omega)⟩
            | false =>
              go_wp2_with (first | (show wpList _ _ _ ({ dst := some 222, op := _, type := _, pos := _, after := _, guard := _ } :: _) _ _; refine wpList_load_when (by rfl) (.tmp 8) rfl (.pointer (some ⟨q, 0, none⟩)) rfl kq.out ?_) | (show wpList _ _ _ ({ dst := some 223, op := _, type := _, pos := _, after := _, guard := _ } :: _) _ _; refine wpList_load_when (by rfl) (.tmp 1) rfl (.pointer (some ⟨b, 0, none⟩)) rfl kp.out ?_) | (go_at_call 13; refine HSM.out.mono ?_; rintro e w14 ⟨rfl, hb14⟩; have HB14 := hid hb14; clear hb14) | fail)
              go_ret2
              rw [HEQ.out]
              exact ⟨HB13.out.trans (HB14.out.mono HB13.out.size), rfl⟩
end Go.Proofs.Ytnljmllkfmgclaa
