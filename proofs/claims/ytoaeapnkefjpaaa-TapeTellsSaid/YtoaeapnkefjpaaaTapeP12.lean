/-
  THE PROGRAM'S TAPE, twelfth file: lay. Conditions: those that each contract names.
-/
import Derived.Test.YtoaeapnkefjpaaaTapeP11
namespace Go.Proofs.Ytoaeapnkefjpaaa
open Go.RowKit
set_option linter.unusedVariables false
set_option linter.unusedSimpArgs false

theorem wpList_zeros {ops : Array Oper} {rest : List Oper} {o : Oper} {a : Act} {w : World} {Q : Exit → Act → World → Prop} (hgd : o.guard = none) (s x : Operand)
    (ho : o.op = .call { callee := .builtin .append, args := #[s, x], argTypes := #[23, 3] }) (base n : Nat) (xs : List Value) (k : Nat) (hx : a.eval x = .int .i64 k)
    (hown : w.ownsRow base 5 1 (a.eval s) n xs) (hn : 0 < n) (hk : n + k ≤ 1000000000) (hbase : base ≤ w.heap.size)
    (h : ∀ v' w', w'.ownsRow base 5 1 v' (n + k) (xs ++ List.replicate k (B 0)) → w.grownBy w' (a.eval s).ownBlock → (v'.ownBlock = (a.eval s).ownBlock ∨ v'.ownBlock = some w.heap.size) → wpList Try.prog ops Q rest (a.put o.dst v') w') : wpList Try.prog ops Q (o :: rest) a w := by
  refine wpList_plain hgd fun K hK => ?_
  obtain ⟨v', w', hr, h2, h3, h4⟩ := run_app_zeros w base o.type (a.eval s) n xs hown k hn hk hbase
  unfold Oper.wp execOp
  simp only [ho, resolve, invoke, builtin, Sem.run_bind, Sem.run_pure, Result.andThen_ok, List.map_toArray, List.map_cons, List.map_nil, hx, hr]
  exact hK _ _ (h v' w' h2 h3 h4)
theorem heap_five {w W : World} {o0 o1 o2 o3 o4 : Obj} (h : W = ((((w.alloc o0).alloc o1).alloc o2).alloc o3).alloc o4) :
    W.heap.size = w.heap.size + 5 ∧ W.heap[w.heap.size]? = some o0 ∧ W.heap[w.heap.size + 1]? = some o1 ∧ W.heap[w.heap.size + 1 + 1]? = some o2 ∧ W.heap[w.heap.size + 3]? = some o3 ∧ W.heap[w.heap.size + 4]? = some o4 ∧ ∀ k, k < w.heap.size → W.heap[k]? = w.heap[k]? := by
  have e : ∀ (w : World) (o : Obj) (k : Nat), k < w.heap.size → (w.alloc o).heap[k]? = w.heap[k]? := fun w o k hk => Below.heap_alloc w o k hk
  have z : ∀ (w : World) (o : Obj), (w.alloc o).heap.size = w.heap.size + 1 := fun w o => by simp
  rw [h]
  refine ⟨by simp only [z], ?_, ?_, ?_, ?_, ?_, fun k hk => ?_⟩
  · rw [e _ _ _ (by simp only [z]; omega), e _ _ _ (by simp only [z]; omega), e _ _ _ (by simp only [z]; omega), e _ _ _ (by simp only [z]; omega)]; exact heap_alloc_new _ _
  · rw [e _ _ _ (by simp only [z]; omega), e _ _ _ (by simp only [z]; omega), e _ _ _ (by simp only [z]; omega)]; exact heap_alloc_at (z _ _)
  · rw [e _ _ _ (by simp only [z]; omega), e _ _ _ (by simp only [z]; omega)]; exact heap_alloc_at (by simp only [z])
  · rw [e _ _ _ (by simp only [z]; omega)]; exact heap_alloc_at (by simp only [z])
  · exact heap_alloc_at (by simp only [z])
  · rw [e _ _ _ (by simp only [z]; omega), e _ _ _ (by simp only [z]; omega), e _ _ _ (by simp only [z]; omega), e _ _ _ (by simp only [z]; omega), e _ _ _ hk]
theorem heap_alloc2 {w W : World} {x o : Obj} (h : W = (w.alloc x).alloc o) : W.heap[w.heap.size + 1]? = some o := by rw [h]; exact heap_alloc_at (by simp)
/-- The loop over the pages, and the way out of the function. -/
theorem lay_tail (A : LA) (W : World) (own : Nat → Prop) (T : TS) (D : DS) (a : Nat) (all : List UInt8) (K : Nat) (tm : Array Value) (act : Act) (R : Ending → World → Prop)
    (hl : W.heap[A.l]? = some (.loop { state := .ready, pending := none, fn := 111, tmps := tm, params := #[30], assign := layAssign, body := layBody, defers := A.kd }))
    (htm : tm = #[tm.getD 0 undef, tm.getD 1 undef, tm.getD 2 undef, .pointer (some ⟨A.b3, 0, none⟩), tm.getD 4 undef, tm.getD 5 undef, .pointer (some ⟨A.b6, 0, none⟩), tm.getD 7 undef, .pointer (some ⟨A.b8, 0, none⟩), tm.getD 9 undef, tm.getD 10 undef, tm.getD 11 undef, tm.getD 12 undef, tm.getD 13 undef, tm.getD 14 undef, tm.getD 15 undef, tm.getD 16 undef, tm.getD 17 undef, tm.getD 18 undef, tm.getD 19 undef, tm.getD 20 undef, tm.getD 21 undef, tm.getD 22 undef, tm.getD 23 undef, tm.getD 24 undef, tm.getD 25 undef, tm.getD 26 undef, tm.getD 27 undef, tm.getD 28 undef, tm.getD 29 undef, tm.getD 30 undef, tm.getD 31 undef, tm.getD 32 undef, tm.getD 33 undef, tm.getD 34 undef, tm.getD 35 undef, tm.getD 36 undef, tm.getD 37 undef, tm.getD 38 undef, tm.getD 39 undef, tm.getD 40 undef, tm.getD 41 undef, tm.getD 42 undef, tm.getD 43 undef, tm.getD 44 undef, tm.getD 45 undef, tm.getD 46 undef, tm.getD 47 undef, tm.getD 48 undef, tm.getD 49 undef, tm.getD 50 undef]) (hact : act.defers = [{ target := .collected A.kd, args := #[] }])
    (hL : all.length = K * 256) (hw : LW W A own T a all) (hd : DrumAt W A.p own D) (h8 : W.heap[A.b8]? = some (.cells #[.int .i64 0] 3 (0, 0))) (hK : K ≤ 1000) (hcap : all.length ≤ A.cap) (hcm : A.cap ≤ 9223372036854775807) (hN : D.waits.length ≤ 900000000) (ha : a ≤ 1048576)
    (hR : ∀ own' D' W' c, DrumAt W' A.p own' D' → TS.wr D (T.lo + a / 256) (TS.pagesOf all K) = (c, D') → (∀ k, own' k → own k ∨ W.heap.size ≤ k) → Mod (fun k => own k ∨ k = A.b8 ∨ k = A.l ∨ k = A.kd) W W' → R (endOr c (.tuple #[])) W') :
    Calls Try.prog 115 #[.func (.yield A.l) #[] #[], .pointer (some ⟨A.bs, 0, none⟩), .pointer (some ⟨A.bn, 0, none⟩)] W (rangeEnd Try.prog A.l (Plain2 (bodyPostM Fence.wide 5 Try.prog Try.f111 R)) act) := by
  obtain ⟨rec, hrec⟩ : ∃ rec : Loop, rec = { state := .ready, pending := none, fn := 111, tmps := tm, params := #[30], assign := layAssign, body := layBody, defers := A.kd } := ⟨_, rfl⟩
  rw [← hrec] at hl
  have hwr : TS.wr D (T.lo + a / 256) ((TS.pagesOf all K).take 0) = (0, D) := by simp [TS.wr]
  -- behind the mark
  have hkd : ∀ (own' : Nat → Prop) (D' : DS) (c : Int) (W' : World), DrumAt W' A.p own' D' → TS.wr D (T.lo + a / 256) (TS.pagesOf all K) = (c, D') → (∀ k, own' k → own k ∨ W.heap.size ≤ k) → Mod (fun k => own k ∨ k = A.b8 ∨ k = A.l) W W' →
      W'.heap[A.kd]? = some (.deferred (some [])) ∧ R (endOr c (.tuple #[])) (W'.putObj A.kd (.deferred none)) := by
    intro own' D' c W' h1 h2 h3 h4
    have hk := (hw.on h4).hd
    have hok : ¬ own' A.kd := fun h => by
      have := hw.out A.kd (by simp)
      rcases h3 _ h with h' | h'
      · exact this.2.1 h'
      · omega
    refine ⟨hk, hR own' D' _ c (h1.keep (fun k hk => World.putObj_heap_other (fun e => hok (e ▸ hk))) (by simp)) h2 h3 ?_⟩
    refine (h4.mono (fun k _ h => ?_)).trans ⟨rfl, rfl, rfl, by simp, fun k hk ho => World.putObj_heap_other (fun e => ho (.inr (.inr (.inr e))))⟩
    rcases h with h | h | h
    · exact .inl h
    · exact .inr (.inl h)
    · exact .inr (.inr (.inl h))
  refine (callsIn_wide (n := 1)).1 (iter_any (m := 0) A.l A.bs A.bn A.g 0 A.cap K all.length hL W (LJ W A own T D a all K rec) _ hcap hcm ?_ ?_ ?_ ?_ ?_)
  · exact ⟨Mod.refl _ _, h8, hl, own, D, hd, hwr, fun k hk => .inl hk⟩
  · intro i W' hj
    have h := hw.on hj.mod
    exact ⟨by rw [cell_of_row _ _ _ _ _ _ h.hs]; rfl, by rw [cell_of_row _ _ _ _ _ _ h.hn]; rfl⟩
  · intro i W' hi hj
    refine lay_round A W own T D a all K (fun i => tm.getD i undef) rec i W' _ ?_ hL hw hK hN ha hi hj ?_
    · rw [hrec]
      congr 1
    · rintro c W2 hc ⟨own', D', h1, h2, h3, h4⟩
      obtain ⟨k1, k2⟩ := hkd own' D' c W2 h1 h2 h3 h4
      show LeavesInM Fence.wide 5 Try.prog Try.f111 act.tmps R act.defers (.panicking (gaveUp c)) W2
      rw [hact]
      refine ⟨by simp, .inl ⟨_, _, rfl, run_takeDeferred k1, ?_⟩⟩
      show R (.panicked (gaveUp c)) _
      rw [endOr_no (by simpa using hc)]
      exact k2
  · exact fun i W' n hj => hj.drewN n
  · intro W' hj
    obtain ⟨own', D', h1, h2, h3⟩ := hj.drum
    have hal : (TS.pagesOf all K).take K = TS.pagesOf all K := List.take_of_length_le (by unfold TS.pagesOf; simp)
    rw [hal] at h2
    have hlt : A.l < W'.heap.size := (Array.getElem?_eq_some_iff.1 hj.hl).1
    have hol : ¬ own' A.l := fun h => by
      rcases h3 _ h with h' | h'
      · exact hw.ol.2 h'
      · have := hw.ol.1; omega
    have hend := run_endLoop (P := Try.prog) hj.hl (by rw [hrec]; simp)
    obtain ⟨W2, hW2⟩ : ∃ W2, W2 = W'.putObj A.l (.loop { rec with state := .exhausted }) := ⟨_, rfl⟩
    rw [← hW2, show rec.pending = none from by rw [hrec]] at hend
    obtain ⟨k1, k2⟩ := hkd own' D' 0 W2 (h1.keep (fun k hk => by rw [hW2]; exact World.putObj_heap_other (fun e => hol (e ▸ hk))) (by rw [hW2]; simp)) h2 h3 (hj.mod.trans (by rw [hW2]; exact ⟨rfl, rfl, rfl, by simp, fun k hk ho => World.putObj_heap_other (fun e => ho (.inr (.inr e)))⟩))
    refine ⟨W2, hend, ?_⟩
    show LeavesInM Fence.wide 5 Try.prog Try.f111 act.tmps R act.defers .returning W2
    rw [hact]
    refine ⟨by simp, .inl ⟨_, _, rfl, run_takeDeferred k1, ?_⟩⟩
    exact ⟨_, results_none rfl _ _ _, k2⟩
set_option maxRecDepth 100000 in
set_option maxHeartbeats 1600000 in
theorem tlay_any (w : World) (t p : Nat) (own : Nat → Prop) (T : TS) (D : DS) (a : Nat) (v : Value) (b : List UInt8) (h : TapeIn w t p D.safe.length T) (hd : DrumAt w p own D) (ht : ¬ own t) (ha : a ≤ T.size) (ho : D.off = false ∨ a % 256 = 0) (hv : Sees w v b) (hvo : ∀ k, v.ownBlock = some k → ¬ own k) (hb0 : 0 < b.length) (hb1 : b.length ≤ 66000) (hN : D.waits.length ≤ 900000000) :
    Calls Try.prog 111 #[.pointer (some ⟨t, 0, none⟩), I a, v] w fun e w' => e = endOr (TS.laid D T a b).1 (.tuple #[]) ∧ Drummed' own p w (TS.laid D T a b).2 w' := by
  obtain ⟨b1, b2, b3, b4, b5, b6, b7⟩ := h.bd
  have H := hid h
  have HD := hid hd
  have HV := hid hv
  have HVO := hid hvo
  have HT := hid ht
  have HO := hid ho
  have ha2 : a ≤ 1048576 := by omega
  clear h hd hv hvo ht ho b7
  obtain ⟨av, cv, rfl, hbl⟩ := HV.out.form0
  have hmf := closes
  refine calls_of_wpFn (n := 5) Try.func111 rfl ?_
  simp only [Try.ntmps111, List.size_toArray, List.length_cons, List.length_nil, Nat.reduceAdd, Nat.reduceSub, Array.replicate_succ, Array.replicate_zero, List.push_toArray, List.append_toArray, List.nil_append, List.cons_append]
  refine wpFn_seq ?_
  go_wp2_with fail
  refine wpFn_seq ?_
  go_wp2_with fail
  refine wpFn_seq ?_
  go_wp2_with fail
  obtain ⟨wA, hwA⟩ : ∃ wA, wA = (w.alloc (.cells #[.pointer (some ⟨t, 0, none⟩)] 86)).alloc (.cells #[.int .i64 ((a : Int) / 256)] 3) := ⟨_, rfl⟩
  rw [← hwA]
  have hBA : Below w.heap.size w wA := by rw [hwA]; exact ((Below.refl _ _).alloc (Nat.le_refl _) _).alloc (by simp) _
  have hzA : wA.heap.size = w.heap.size + 2 := by rw [hwA]; simp
  have hgt : wA.heap[w.heap.size]? = some (.cells #[.pointer (some ⟨t, 0, none⟩)] 86 (0, 0)) := by rw [hwA]; exact (Below.heap_alloc _ _ _ (by simp)).trans (heap_alloc_new _ _)
  have hg6 : wA.heap[w.heap.size + 1]? = some (.cells #[.int .i64 ((a : Int) / 256)] 3 (0, 0)) := by rw [hwA]; exact heap_alloc_at (by simp)
  have hah := ahead_any wA t p own T D (H.out.below hBA) (HD.out.below hBA) a ha HO.out
  have q1 : ((a / 256 * 256 : Nat) : Int) = (a : Int) / 256 * 256 := by omega
  have q2 : ((a % 256 : Nat) : Int) = (a : Int) % 256 := by omega
  rw [q1, q2] at hah
  obtain ⟨X0, hX0⟩ : ∃ X0, X0 = TS.ahead D T a := ⟨_, rfl⟩
  rw [← hX0] at hah
  have hX0l : X0.length = a % 256 := by
    rw [hX0]
    unfold TS.ahead
    have : (TS.bytes D T).length = T.size := TS.stretch_len HD.out.ok (by omega)
    rw [List.length_take, List.length_drop, this]; omega
  have HBA := hid hBA
  have HGT := hid hgt
  have HG6 := hid hg6
  have HX0 := hid hX0
  have HZA := hid hzA
  clear q1 q2 hwA hBA hgt hg6 hX0 hzA
  refine hah.mono ?_
  rintro e w1 ⟨v1, rfl, ho1, hb1'⟩
  rw [hX0l] at ho1
  obtain ⟨av1, cv1, rfl⟩ := own_form ho1
  have HO1 := hid ho1
  have HB1 := hid hb1'
  have hsA : wA.heap.size ≤ w1.heap.size := hb1'.size
  have HVs := hid (HV.out.below (Ext.trans _ _ _ HBA.out hb1'))
  clear ho1 hb1' hah
  obtain ⟨n1, hn1⟩ : ∃ n1 : Nat, n1 = a % 256 + b.length := ⟨_, rfl⟩
  obtain ⟨kz, hkz⟩ : ∃ kz : Nat, kz = (256 - n1 % 256) % 256 := ⟨_, rfl⟩
  obtain ⟨K, hK⟩ : ∃ K : Nat, n1 + kz = K * 256 := ⟨(n1 + kz) / 256, by omega⟩
  have hn1b : 0 < n1 ∧ n1 ≤ 66256 := by omega
  have hkzb : kz ≤ 255 := by omega
  go_wp2_with (at_builtin; refine wpList_app rfl (.tmp 18) (.tmp 19) 23 rfl wA.heap.size 5 (.int .u8 0) 1 1 Try.underlying23 info5 rfl (by decide) (a % 256) (X0.map B) b.length (b.map B) HO1.out HVs.out.src ?h63 ?hb hsA ?_)
  case h63 => unfold maxLen; omega
  case hb => omega
  intro v2 w2 hown hgrow hat
  rw [← List.map_append, ← hn1] at hown
  obtain ⟨av2, cv2, rfl⟩ := own_form hown
  have hb2 : Below w.heap.size w w2 := (Ext.trans _ _ _ HBA.out HB1.out).grown hgrow (by have := HBA.out.size; omega) (fun k hk => by have := (own_lt HO1.out k hk).1; have := HBA.out.size; omega)
  have hbA2 : Below wA.heap.size wA w2 := HB1.out.grown hgrow hsA (fun k hk => (own_lt HO1.out k hk).1)
  have HO2 := hid hown
  have HB2 := hid hb2
  have HBA2 := hid hbA2
  have HN1 := hid hn1
  have HKZ := hid hkz
  have HK := hid hK
  have hsz2 : wA.heap.size ≤ w2.heap.size := hbA2.size
  have hkk : (-((n1 : Int) % 256)) % 256 = (kz : Int) := by omega
  clear hown hgrow hat hb2 hn1 hkz hK HO1 HB1 HVs hbA2
  go_wp2_with fail
  refine wpFn_seq ?_
  go_wp2_with (at_builtin; refine wpList_zeros rfl (.tmp 21) (.tmp 26) rfl wA.heap.size n1 ((X0 ++ b).map B) kz ?hx HO2.out hn1b.1 ?hkn hsz2 ?_)
  case hx =>
    show Value.int .i64 ((256 - (n1 : Int) % 256) % 256) = _
    have := HKZ.out
    congr 1
    omega
  case hkn => omega
  intro v3 w3 hown hgrow hat
  have hz8 : (X0 ++ b ++ List.replicate kz 0).length = K * 256 := by
    have := HN1.out; have := HK.out
    rw [List.length_append, List.length_append, List.length_replicate, hX0l]; omega
  obtain ⟨all, hall⟩ : ∃ all, all = X0 ++ b ++ List.replicate kz 0 := ⟨_, rfl⟩
  have hrow : w3.ownsRow wA.heap.size 5 1 v3 (K * 256) (all.map B) := by
    exact own_len hown HK.out (by rw [hall]; simp)
  rw [← hall] at hz8
  obtain ⟨N, hNN⟩ : ∃ N, N = K * 256 := ⟨_, rfl⟩
  rw [← hNN] at hrow hz8
  obtain ⟨g, cap, rfl, g1, g2, g3, g4⟩ := own_slice hrow (by have := HK.out; omega)
  unfold maxLen at g2
  have hb3 : Below w.heap.size w w3 := HB2.out.grown hgrow (by have := HB2.out.size; omega) (fun k hk => by have := (own_lt HO2.out k hk).1; have := HBA.out.size; omega)
  have hgz : Below wA.heap.size wA w3 := HBA2.out.grown hgrow hsz2 (fun k hk => (own_lt HO2.out k hk).1)
  have HB3 := hid hb3
  have HS3 := hid (own_sees' hrow hz8)
  have HAL := hid hall
  have HLN := hid hz8
  have HNK := hid hNN
  have HG3 := hid hgz
  have hsz3 : wA.heap.size ≤ w3.heap.size := hgz.size
  clear hown hgrow hat hrow hall hz8 hNN hb3 HO2 HB2 HBA2 hgz
  go_wp2_with fail
  refine wpFn_seq ?_
  go_wp2_with fail
  refine wpFn_seq ?_
  go_wp2_with (go_at_call 114; refine (chunk_any _ _ ⟨_, _, _, rfl⟩).mono ?_; rintro e w4 ⟨rfl, hw4⟩)
  refine wpFn_block (wpFn_range (it := 115) rfl (fun args W => by simp [go_sem]) ?_)
  intro W hW
  have hz4 : w4.heap.size = w3.heap.size + 3 := by rw [← hw4]; simp
  have hzA := HZA.out
  have hz3 : w.heap.size + 2 ≤ w3.heap.size := by omega
  have hzW : W.heap.size = w3.heap.size + 5 := by rw [hW]; simp [hz4]
  have hlt := HD.out.lt
  have htl := H.out.lt
  obtain ⟨-, h8', hs', hn', -, -, ex⟩ := heap_five (show W = _ from by rw [hW, ← hw4])
  have ex0 : ∀ k, k < w.heap.size → W.heap[k]? = w.heap[k]? := fun k hk => (ex k (by omega)).trans (HB3.out.block k hk)
  have exA : ∀ k, k < w.heap.size + 2 → W.heap[k]? = wA.heap[k]? := fun k hk => (ex k (by omega)).trans (HG3.out.block k (by omega))
  have hl' := heap_alloc2 hW
  have hk' : W.heap[w4.heap.size]? = some (.deferred (some [])) := by rw [hW]; exact (Below.heap_alloc _ _ _ (by simp)).trans (heap_alloc_new _ _)
  have hxx : ((TS.stretch D T.lo (T.hi - T.lo)).drop (a / 256 * 256)).take (a % 256) = X0 := by rw [HX0.out]; rfl
  have hpad : TS.padded D T a b = all := by
    unfold TS.padded
    simp only [hxx]
    rw [HAL.out, List.length_append, hX0l, HKZ.out, HN1.out]
  have hNa := HLN.out
  have hNk := HNK.out
  subst hNa
  have hlaid : TS.laid D T a b = TS.wr D (T.lo + a / 256) (TS.pagesOf all K) := by
    unfold TS.laid
    rw [hpad, hNk, Nat.mul_div_cancel _ (by decide)]
  have hbW : Below w.heap.size w W := HB3.out.trans ⟨by rw [hW, ← hw4]; rfl, by rw [hW, ← hw4]; rfl, by rw [hW, ← hw4]; rfl, by omega, fun k hk => ex k (by omega)⟩
  refine lay_tail { t := t, p := p, l := w4.heap.size + 1, kd := w4.heap.size, b3 := w.heap.size, b6 := w.heap.size + 1, b8 := w3.heap.size, bs := w3.heap.size + 1, bn := w3.heap.size + 1 + 1, g := g, n := D.safe.length, cap := cap } W own T D a all K _ _ _ hl' ?htm rfl hNk ?hw (HD.out.below hbW) h8' ?hK g1 (by omega) hN ha2 ?hR
  case htm => rfl
  case hK => have := HK.out; omega
  case hR =>
    intro own' D' W' c h1 h2 h3 h4
    rw [hlaid, h2]
    refine ⟨rfl, own', h1, fun k hk => (h3 k hk).imp id (fun h => by omega), (Mod.of_below own hbW).then h4 (fun k hk h => ?_)⟩
    simp only at h
    rcases h with h | h | h | h
    · exact h
    all_goals omega
  case hw =>
    have nl : ∀ k, w.heap.size ≤ k → ¬ own k := fun k hk h => by have := hlt k h; omega
    refine ⟨(H.out.below hbW), (exA w.heap.size (by omega)).trans HGT.out, (exA (w.heap.size + 1) (by omega)).trans HG6.out, HS3.out.keep (fun k e => ex k (by cases e; exact g4)), hs', hn', hk', ?_, ⟨by simp only; omega, nl _ (by simp only; omega), by simp only; omega⟩, ⟨by simp only; omega, nl _ (by simp only; omega)⟩⟩
    · simp only
      rintro k (rfl | rfl | rfl | rfl | rfl | rfl | rfl)
      · exact ⟨by omega, HT.out, by omega, by omega⟩
      all_goals exact ⟨by omega, nl _ (by omega), by omega, by omega⟩
end Go.Proofs.Ytoaeapnkefjpaaa
