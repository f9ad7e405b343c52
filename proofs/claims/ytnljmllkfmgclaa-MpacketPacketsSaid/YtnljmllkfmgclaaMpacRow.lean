/-
  A packet that came in, opened. Conditions: none beyond the lemmas'.
-/
import Derived.Test.YtnljmllkfmgclaaMpacPU
import Derived.WalkKit
import Derived.ProofKit
import Derived.OpenShut
import Derived.ChangeOld
import Derived.SliceStrings
import Derived.SizedLaws
namespace Go.Proofs.Ytnljmllkfmgclaa
open Go.ChangeShapes Go.WideShapes Go.ChangeAt Go.RowKit
set_option linter.unusedVariables false
set_option linter.unusedSimpArgs false

theorem weightsAll_mem {H : Type} {P : Program} {e : TypeId} : ∀ {ds : List (DataW H)} {d : DataW H}, d ∈ ds → ∀ n ∈ d.weights P e, n ∈ DataW.weightsAll P e ds
  | [], d, h, n, hn => by simp at h
  | x :: r, d, h, n, hn => by
    rw [DataW.weightsAll]
    rcases List.mem_cons.1 h with rfl | h
    · exact List.mem_append.2 (.inl hn)
    · exact List.mem_append.2 (.inr (weightsAll_mem h n hn))
theorem arr12 {cs : Array Value} (h : cs.size = 12) : ∃ a b c d e f g i j k l m, cs = #[a, b, c, d, e, f, g, i, j, k, l, m] := by
  obtain ⟨xs⟩ := cs
  match xs, h with
  | [a, b, c, d, e, f, g, i, j, k, l, m], _ => exact ⟨a, b, c, d, e, f, g, i, j, k, l, m, rfl⟩
theorem bytes3 : Try.prog.bytesOf 3 = 8 := by kernel_rfl
set_option maxRecDepth 100000 in
theorem in_ints {H : Type} {enc : TypeId × Value → H} {W : World} {base : Nat} {held : Bool} {fuel : Nat} {v : Value} {y : DataW H × List MemPlace} (h : DataW.trod enc Try.prog W base (fun _ => true) held fuel 23 [v] = some y) :
    ∃ l : List Int, SeesV W v (l.map I) ∧ ((∀ n ∈ y.1.weights Try.prog 23, n ≤ reachBytes) → l.length ≤ 140737488355328) := by
  rcases open_ints Try.underlying23 Try.underlying3 (by kernel_rfl) h with ⟨hcs, _⟩ | ⟨x, l, c, zs, hcs, _, hl, hm, hz, hy, hcell, hwz⟩
  · simp at hcs
    subst hcs
    exact ⟨[], SeesV.nil W, fun _ => by simp⟩
  · simp at hcs
    subst hcs
    replace hz : zs.length = c := by simpa using hz
    have hlen : ((zs.take l).map I).length = l := by simp; omega
    refine ⟨zs.take l, ⟨some x, c, by rw [hlen], by omega, hm, fun hp => ?_⟩, fun hw => ?_⟩
    · rw [hlen] at hp
      obtain ⟨g, off, spot⟩ := x
      have h0 := hcell 0 (by omega)
      have hs : spot = none := by simpa [Addr.add] using World.cell?_spot h0
      subst hs
      refine ⟨g, off, rfl, fun i u hi => ?_⟩
      have hil : i < l := by have := (List.getElem?_eq_some_iff.1 hi).1; omega
      have hci := hcell i (by omega)
      rw [add_off] at hci
      rw [hci]
      have hzi : zs[i]? = some (zs.getD i 0) := by rw [List.getElem?_eq_getElem (by omega), List.getD_eq_getElem?_getD, List.getElem?_eq_getElem (by omega)]; rfl
      rw [List.getElem?_map, List.getElem?_take, if_pos hil, hzi] at hi
      simpa using hi
    · have h1 := hw ((((lits .i64 (zs.take l)).length + (lits .i64 (zs.drop l)).length) : Nat) * Try.prog.bytesOf 3) (by rw [hy]; rw [DataW.weights, Try.underlying23]; exact List.mem_cons_self ..)
      rw [bytes3] at h1
      simp only [lits, List.length_map, List.length_take, List.length_drop, reachBytes] at h1
      rw [List.length_take]
      omega
set_option maxRecDepth 100000 in
theorem in_strs {H : Type} {enc : TypeId × Value → H} {W : World} {base : Nat} {held : Bool} {fuel : Nat} {v : Value} {y : DataW H × List MemPlace} (h : DataW.trod enc Try.prog W base (fun _ => true) held fuel 22 [v] = some y) :
    ∃ l : List (List UInt8), SeesV W v (l.map S) ∧ ((∀ n ∈ y.1.weights Try.prog 22, n ≤ reachBytes) → ∀ x ∈ l, x.length ≤ 140737488355328) := by
  rcases open_strings Try.underlying22 Try.underlying9 (by kernel_rfl) h with ⟨hcs, _⟩ | ⟨x, l, c, ss, hcs, _, hl, hm, hz, hy, hcell, hwz⟩
  · simp at hcs
    subst hcs
    exact ⟨[], SeesV.nil W, fun _ => by simp⟩
  · simp at hcs
    subst hcs
    replace hz : ss.length = c := by simpa using hz
    have hlen : (((ss.take l).map fun s => s.data.toList).map S).length = l := by simp; omega
    refine ⟨(ss.take l).map fun s => s.data.toList, ⟨some x, c, by rw [hlen], by omega, hm, fun hp => ?_⟩, fun hw q hq => ?_⟩
    · rw [hlen] at hp
      obtain ⟨g, off, spot⟩ := x
      have h0 := hcell 0 (by omega)
      have hs : spot = none := by simpa [Addr.add] using World.cell?_spot h0
      subst hs
      refine ⟨g, off, rfl, fun i u hi => ?_⟩
      have hil : i < l := by have := (List.getElem?_eq_some_iff.1 hi).1; omega
      have hci := hcell i (by omega)
      rw [add_off] at hci
      rw [hci]
      have hzi : ss[i]? = some (ss.getD i ByteArray.empty) := by rw [List.getElem?_eq_getElem (by omega), List.getD_eq_getElem?_getD, List.getElem?_eq_getElem (by omega)]; rfl
      rw [List.getElem?_map, List.getElem?_map, List.getElem?_take, if_pos hil, hzi] at hi
      simp only [Option.map_some, Option.some.injEq] at hi
      rw [← hi]
      exact congrArg (fun z => some (Value.string z)) (str_of _)
    · obtain ⟨s, hs, rfl⟩ := List.mem_map.1 hq
      have h1 := hw s.data.toList.length (by
        rw [hy, DataW.weights, Try.underlying22]
        refine List.mem_cons_of_mem _ (List.mem_append.2 (.inl (weightsAll_mem (d := .lit (.string s.data.toList)) ?_ _ ?_)))
        · exact List.mem_map.2 ⟨s, hs, rfl⟩
        · rw [DataW.weights]; exact List.mem_singleton.2 rfl)
      simp only [reachBytes] at h1
      omega
/-- A packet's sizes, as the machine bounds them. -/
structure Sizes (P : Pk) : Prop where
  name : P.name.length ≤ 140737488355328
  text : P.text.length ≤ 140737488355328
  topic : P.topic.length ≤ 140737488355328
  codes : P.codes.length ≤ 140737488355328
  names : ∀ x ∈ P.names, x.length ≤ 140737488355328
set_option maxRecDepth 100000 in
set_option maxHeartbeats 1600000 in
theorem in_pk {H : Type} {enc : TypeId × Value → H} {W : World} {base : Nat} {held : Bool} {r : Reach} {b0 : Nat} {v : Value} {d : DataW H} {p : List MemPlace} (hv : Value.okWide Try.prog W r b0 25 v) (h : DataW.Trod enc Try.prog W base (fun _ => true) held 25 v d p)
    (hw : ∀ n ∈ d.weights Try.prog 25, n ≤ reachBytes) : ∃ P, PkF W v P ∧ Sizes P := by
  have c25 : Try.prog.cellsOf 25 = 12 := by kernel_rfl
  have c3 : Try.prog.cellsOf 3 = 1 := by kernel_rfl
  have c9 : Try.prog.cellsOf 9 = 1 := by kernel_rfl
  have c4 : Try.prog.cellsOf 4 = 1 := by kernel_rfl
  have c22 : Try.prog.cellsOf 22 = 1 := by kernel_rfl
  have c23 : Try.prog.cellsOf 23 = 1 := by kernel_rfl
  obtain ⟨cs, rfl, hs⟩ := okWide_struct Try.underlying25 hv
  obtain ⟨v0, v1, v2, v3, v4, v5, v6, v7, v8, v9, v10, v11, rfl⟩ := arr12 (hs.trans c25)
  obtain ⟨fuel, hy⟩ := h
  obtain ⟨xs, k, -, hd, -, hxl, hxx⟩ := DataW.trod_struct Try.underlying25 hy
  have e : (Value.agg #[v0, v1, v2, v3, v4, v5, v6, v7, v8, v9, v10, v11]).cells.toList = [v0, v1, v2, v3, v4, v5, v6, v7, v8, v9, v10, v11] := rfl
  rw [e] at hxx
  replace hxl : xs.length = 12 := hxl
  have g0 : DataW.trod enc Try.prog W base (fun _ => true) held k 3 (([v0, v1, v2, v3, v4, v5, v6, v7, v8, v9, v10, v11].drop 0).take (Try.prog.cellsOf 3)) = xs[0]? := hxx 0 _ rfl
  obtain ⟨y0, hy0⟩ : ∃ y, xs[0]? = some y := ⟨_, List.getElem?_eq_getElem (by omega)⟩
  rw [hy0, c3] at g0
  simp only [List.drop_succ_cons, List.drop_zero, List.take_succ_cons, List.take_zero] at g0
  have g1 : DataW.trod enc Try.prog W base (fun _ => true) held k 3 (([v0, v1, v2, v3, v4, v5, v6, v7, v8, v9, v10, v11].drop 1).take (Try.prog.cellsOf 3)) = xs[1]? := hxx 1 _ rfl
  obtain ⟨y1, hy1⟩ : ∃ y, xs[1]? = some y := ⟨_, List.getElem?_eq_getElem (by omega)⟩
  rw [hy1, c3] at g1
  simp only [List.drop_succ_cons, List.drop_zero, List.take_succ_cons, List.take_zero] at g1
  have g2 : DataW.trod enc Try.prog W base (fun _ => true) held k 3 (([v0, v1, v2, v3, v4, v5, v6, v7, v8, v9, v10, v11].drop 2).take (Try.prog.cellsOf 3)) = xs[2]? := hxx 2 _ rfl
  obtain ⟨y2, hy2⟩ : ∃ y, xs[2]? = some y := ⟨_, List.getElem?_eq_getElem (by omega)⟩
  rw [hy2, c3] at g2
  simp only [List.drop_succ_cons, List.drop_zero, List.take_succ_cons, List.take_zero] at g2
  have g3 : DataW.trod enc Try.prog W base (fun _ => true) held k 3 (([v0, v1, v2, v3, v4, v5, v6, v7, v8, v9, v10, v11].drop 3).take (Try.prog.cellsOf 3)) = xs[3]? := hxx 3 _ rfl
  obtain ⟨y3, hy3⟩ : ∃ y, xs[3]? = some y := ⟨_, List.getElem?_eq_getElem (by omega)⟩
  rw [hy3, c3] at g3
  simp only [List.drop_succ_cons, List.drop_zero, List.take_succ_cons, List.take_zero] at g3
  have g4 : DataW.trod enc Try.prog W base (fun _ => true) held k 9 (([v0, v1, v2, v3, v4, v5, v6, v7, v8, v9, v10, v11].drop 4).take (Try.prog.cellsOf 9)) = xs[4]? := hxx 4 _ rfl
  obtain ⟨y4, hy4⟩ : ∃ y, xs[4]? = some y := ⟨_, List.getElem?_eq_getElem (by omega)⟩
  rw [hy4, c9] at g4
  simp only [List.drop_succ_cons, List.drop_zero, List.take_succ_cons, List.take_zero] at g4
  have g5 : DataW.trod enc Try.prog W base (fun _ => true) held k 9 (([v0, v1, v2, v3, v4, v5, v6, v7, v8, v9, v10, v11].drop 5).take (Try.prog.cellsOf 9)) = xs[5]? := hxx 5 _ rfl
  obtain ⟨y5, hy5⟩ : ∃ y, xs[5]? = some y := ⟨_, List.getElem?_eq_getElem (by omega)⟩
  rw [hy5, c9] at g5
  simp only [List.drop_succ_cons, List.drop_zero, List.take_succ_cons, List.take_zero] at g5
  have g6 : DataW.trod enc Try.prog W base (fun _ => true) held k 3 (([v0, v1, v2, v3, v4, v5, v6, v7, v8, v9, v10, v11].drop 6).take (Try.prog.cellsOf 3)) = xs[6]? := hxx 6 _ rfl
  obtain ⟨y6, hy6⟩ : ∃ y, xs[6]? = some y := ⟨_, List.getElem?_eq_getElem (by omega)⟩
  rw [hy6, c3] at g6
  simp only [List.drop_succ_cons, List.drop_zero, List.take_succ_cons, List.take_zero] at g6
  have g7 : DataW.trod enc Try.prog W base (fun _ => true) held k 4 (([v0, v1, v2, v3, v4, v5, v6, v7, v8, v9, v10, v11].drop 7).take (Try.prog.cellsOf 4)) = xs[7]? := hxx 7 _ rfl
  obtain ⟨y7, hy7⟩ : ∃ y, xs[7]? = some y := ⟨_, List.getElem?_eq_getElem (by omega)⟩
  rw [hy7, c4] at g7
  simp only [List.drop_succ_cons, List.drop_zero, List.take_succ_cons, List.take_zero] at g7
  have g8 : DataW.trod enc Try.prog W base (fun _ => true) held k 9 (([v0, v1, v2, v3, v4, v5, v6, v7, v8, v9, v10, v11].drop 8).take (Try.prog.cellsOf 9)) = xs[8]? := hxx 8 _ rfl
  obtain ⟨y8, hy8⟩ : ∃ y, xs[8]? = some y := ⟨_, List.getElem?_eq_getElem (by omega)⟩
  rw [hy8, c9] at g8
  simp only [List.drop_succ_cons, List.drop_zero, List.take_succ_cons, List.take_zero] at g8
  have g9 : DataW.trod enc Try.prog W base (fun _ => true) held k 4 (([v0, v1, v2, v3, v4, v5, v6, v7, v8, v9, v10, v11].drop 9).take (Try.prog.cellsOf 4)) = xs[9]? := hxx 9 _ rfl
  obtain ⟨y9, hy9⟩ : ∃ y, xs[9]? = some y := ⟨_, List.getElem?_eq_getElem (by omega)⟩
  rw [hy9, c4] at g9
  simp only [List.drop_succ_cons, List.drop_zero, List.take_succ_cons, List.take_zero] at g9
  have g10 : DataW.trod enc Try.prog W base (fun _ => true) held k 22 (([v0, v1, v2, v3, v4, v5, v6, v7, v8, v9, v10, v11].drop 10).take (Try.prog.cellsOf 22)) = xs[10]? := hxx 10 _ rfl
  obtain ⟨y10, hy10⟩ : ∃ y, xs[10]? = some y := ⟨_, List.getElem?_eq_getElem (by omega)⟩
  rw [hy10, c22] at g10
  simp only [List.drop_succ_cons, List.drop_zero, List.take_succ_cons, List.take_zero] at g10
  have g11 : DataW.trod enc Try.prog W base (fun _ => true) held k 23 (([v0, v1, v2, v3, v4, v5, v6, v7, v8, v9, v10, v11].drop 11).take (Try.prog.cellsOf 23)) = xs[11]? := hxx 11 _ rfl
  obtain ⟨y11, hy11⟩ : ∃ y, xs[11]? = some y := ⟨_, List.getElem?_eq_getElem (by omega)⟩
  rw [hy11, c23] at g11
  simp only [List.drop_succ_cons, List.drop_zero, List.take_succ_cons, List.take_zero] at g11
  obtain ⟨n0, e0, -, -⟩ := DataW.trod_int Try.underlying3 g0
  obtain ⟨n1, e1, -, -⟩ := DataW.trod_int Try.underlying3 g1
  obtain ⟨n2, e2, -, -⟩ := DataW.trod_int Try.underlying3 g2
  obtain ⟨n3, e3, -, -⟩ := DataW.trod_int Try.underlying3 g3
  obtain ⟨n4, e4, z4, -⟩ := DataW.trod_string Try.underlying9 g4
  obtain ⟨n5, e5, z5, -⟩ := DataW.trod_string Try.underlying9 g5
  obtain ⟨n6, e6, -, -⟩ := DataW.trod_int Try.underlying3 g6
  obtain ⟨n7, e7, -⟩ := DataW.trod_bool Try.underlying4 g7
  obtain ⟨n8, e8, z8, -⟩ := DataW.trod_string Try.underlying9 g8
  obtain ⟨n9, e9, -⟩ := DataW.trod_bool Try.underlying4 g9
  obtain ⟨ns, hns, hnb⟩ := in_strs g10
  obtain ⟨cs, hcs, hcb⟩ := in_ints g11
  simp only [List.cons.injEq, and_true] at e0 e1 e2 e3 e4 e5 e6 e7 e8 e9
  subst e0 e1 e2 e3 e4 e5 e6 e7 e8 e9
  have hde : d = .agg (xs.map (·.1)) := (Prod.mk.inj hd).1
  have hall : ∀ (j : Nat) (t : TypeId) (y : DataW H × List MemPlace), (Try.prog.underlying 25).isSome = true → xs[j]? = some y → [3, 3, 3, 3, 9, 9, 3, 4, 9, 4, 22, 23][j]? = some t → ∀ n ∈ y.1.weights Try.prog t, n ≤ reachBytes := by
    intro j t y _ hj ht n hn
    refine hw n ?_
    rw [hde, DataW.weights, Try.underlying25]
    exact DataW.weights_mem_each (j := j) (t := t) (d := y.1) ht (by rw [List.getElem?_map, hj]; rfl) n hn
  have b4 := hall 4 9 _ (by kernel_rfl) hy4 rfl n4.data.toList.length (by rw [z4, DataW.weights]; exact List.mem_singleton.2 rfl)
  have b5 := hall 5 9 _ (by kernel_rfl) hy5 rfl n5.data.toList.length (by rw [z5, DataW.weights]; exact List.mem_singleton.2 rfl)
  have b8 := hall 8 9 _ (by kernel_rfl) hy8 rfl n8.data.toList.length (by rw [z8, DataW.weights]; exact List.mem_singleton.2 rfl)
  have b10 := hnb (hall 10 22 _ (by kernel_rfl) hy10 rfl)
  have b11 := hcb (hall 11 23 _ (by kernel_rfl) hy11 rfl)
  refine ⟨⟨n0, n1, n2, n3, n4.data.toList, n5.data.toList, n6, n7, n8.data.toList, n9, ns, cs⟩, ⟨v10, v11, ?_, hns, hcs⟩, ⟨by simp only [reachBytes] at b4; simp only; omega, by simp only [reachBytes] at b5; simp only; omega, by simp only [reachBytes] at b8; simp only; omega, b11, b10⟩⟩
  unfold pkCells
  simp only [S, ← str_of]
end Go.Proofs.Ytnljmllkfmgclaa
