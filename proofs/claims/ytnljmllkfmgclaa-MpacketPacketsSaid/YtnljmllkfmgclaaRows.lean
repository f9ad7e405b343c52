/-
  No cell of these rows narrows 'for every input' (looked for: loops, veiled, ifaces, maps, wideKeys, modest, calm, conditions, laid).
  DERIVED. THE GIVEN ROWS OF THIS SEAT. 4 by the template 'for every input the law returns true; each argument reads behind the call as it read before'; 0 by the template 'total and deterministic' (their statements: YtnljmllkfmgclaaTotals.lean).
  GIVEN WITH THE SEED: the statements are not yours to turn. If you find one false, say at which input.
  Laid BY PROGRAM, IN A SANDBOX (cutbox-rows.mjs): the forced cells as the released guide's own fill.sh prints them over the translation e61b0ece3d1bb3e4… (all of the seat's roots in one cut). By AI agents, Wed Nov 11 2026. No macro, syntax, notation, axiom, sorry.
-/
import Derived.Test.YtnljmllkfmgclaaChecked
import GoSem.Claim
import GoSem.ClaimJoined
import GoSem.ClaimMapViews
import Derived.JoinedTies
import Derived.KernelRfl
namespace Go.Proofs.Ytnljmllkfmgclaa
/- THE CELL 'sum', in the pinned program and in every row, IS THE sha256 OF THE DUMP (.gsa) THAT YtnljmllkfmgclaaProg.lean LOADS. Nothing in Lean hashes anything: it is a label: what it is worth is what the hold of that sum in a sandbox is worth. -/
noncomputable def Try.pinned : Pinned := { name := "ytnljmllkfmgclaa", sum := "e61b0ece3d1bb3e4e99891d083432dace80a7df1c77a0cb0679e06170ed0ebc2", checked := Try.checked }
namespace Rows
def none {H : Type} : Left H := { results := [], args := [] }

/-- 'trivetlaw20.MpacketPackets': WHATEVER THE INPUT: true; the input reads as it did. -/
def mpacketPacketsSpec : ChangeSpec := { name := "mpacketPackets", fn := fun _ => fun
  | [d1, d2] => { results := [.lit (.bool true)], args := [d1, d2] }
  | _ => none }
def mpacketPacketsRow : OpenClaim := { program := "ytnljmllkfmgclaa", sum := "e61b0ece3d1bb3e4e99891d083432dace80a7df1c77a0cb0679e06170ed0ebc2", func := "trivet/trivetlaw20.MpacketPackets", spec := "mpacketPackets", unfollowed := true, recurses := true, apart := false }
def MpacketPacketsSaid : Prop := mpacketPacketsRow.holds Try.pinned (OpenSpec.ofChange mpacketPacketsSpec)

/-- ITS FALSE NEIGHBOUR: 'it returns false'. Refute it at one input. -/
def mpacketPacketsWrong : ChangeSpec := { name := "mpacketPackets", fn := fun _ => fun
  | [d1, d2] => { results := [.lit (.bool false)], args := [d1, d2] }
  | _ => none }
def MpacketPacketsWrongFalsely : Prop := mpacketPacketsRow.holds Try.pinned (OpenSpec.ofChange mpacketPacketsWrong)

/-- 'trivetlaw20.MpacketBack': WHATEVER THE INPUT: true; the input reads as it did. -/
def mpacketBackSpec : ChangeSpec := { name := "mpacketBack", fn := fun _ => fun
  | [d1, d2] => { results := [.lit (.bool true)], args := [d1, d2] }
  | _ => none }
def mpacketBackRow : OpenClaim := { program := "ytnljmllkfmgclaa", sum := "e61b0ece3d1bb3e4e99891d083432dace80a7df1c77a0cb0679e06170ed0ebc2", func := "trivet/trivetlaw20.MpacketBack", spec := "mpacketBack", unfollowed := true, recurses := true, apart := false }
def MpacketBackSaid : Prop := mpacketBackRow.holds Try.pinned (OpenSpec.ofChange mpacketBackSpec)

/-- ITS FALSE NEIGHBOUR: 'it returns false'. Refute it at one input. -/
def mpacketBackWrong : ChangeSpec := { name := "mpacketBack", fn := fun _ => fun
  | [d1, d2] => { results := [.lit (.bool false)], args := [d1, d2] }
  | _ => none }
def MpacketBackWrongFalsely : Prop := mpacketBackRow.holds Try.pinned (OpenSpec.ofChange mpacketBackWrong)

/-- 'trivetlaw20.MpacketOnce': WHATEVER THE INPUT: true; the input reads as it did. -/
def mpacketOnceSpec : ChangeSpec := { name := "mpacketOnce", fn := fun _ => fun
  | [d1, d2] => { results := [.lit (.bool true)], args := [d1, d2] }
  | _ => none }
def mpacketOnceRow : OpenClaim := { program := "ytnljmllkfmgclaa", sum := "e61b0ece3d1bb3e4e99891d083432dace80a7df1c77a0cb0679e06170ed0ebc2", func := "trivet/trivetlaw20.MpacketOnce", spec := "mpacketOnce", unfollowed := true, recurses := true, apart := false }
def MpacketOnceSaid : Prop := mpacketOnceRow.holds Try.pinned (OpenSpec.ofChange mpacketOnceSpec)

/-- ITS FALSE NEIGHBOUR: 'it returns false'. Refute it at one input. -/
def mpacketOnceWrong : ChangeSpec := { name := "mpacketOnce", fn := fun _ => fun
  | [d1, d2] => { results := [.lit (.bool false)], args := [d1, d2] }
  | _ => none }
def MpacketOnceWrongFalsely : Prop := mpacketOnceRow.holds Try.pinned (OpenSpec.ofChange mpacketOnceWrong)

/-- 'trivetlaw20.MpacketBounds': WHATEVER THE INPUT: true; the input reads as it did. -/
def mpacketBoundsSpec : ChangeSpec := { name := "mpacketBounds", fn := fun _ => fun
  | [d1, d2] => { results := [.lit (.bool true)], args := [d1, d2] }
  | _ => none }
def mpacketBoundsRow : OpenClaim := { program := "ytnljmllkfmgclaa", sum := "e61b0ece3d1bb3e4e99891d083432dace80a7df1c77a0cb0679e06170ed0ebc2", func := "trivet/trivetlaw20.MpacketBounds", spec := "mpacketBounds", unfollowed := true, recurses := true, apart := false }
def MpacketBoundsSaid : Prop := mpacketBoundsRow.holds Try.pinned (OpenSpec.ofChange mpacketBoundsSpec)

/-- ITS FALSE NEIGHBOUR: 'it returns false'. Refute it at one input. -/
def mpacketBoundsWrong : ChangeSpec := { name := "mpacketBounds", fn := fun _ => fun
  | [d1, d2] => { results := [.lit (.bool false)], args := [d1, d2] }
  | _ => none }
def MpacketBoundsWrongFalsely : Prop := mpacketBoundsRow.holds Try.pinned (OpenSpec.ofChange mpacketBoundsWrong)

/- THE SECOND FORM. 'bulk': how many values and letters a reading holds, each counted each time it is reached (what is shared counts as often as it is met; a slice's spare places count too). A statement '..UptoSaid' is the law's where the arguments, and the package variables that the reading takes, are together of bulk at most 1048576: NARROWER than '..Said'. Prove '..Said' where nothing that the law and all that it calls make is longer than what came in: it says more and counts as full. Else prove '..UptoSaid'. A law counts once. -/
mutual
def uptoBulk {H : Type} : DataW H → Nat
  | .lit (.string bytes) => bytes.length + 1
  | .lit _ => 1
  | .nil => 1
  | .ptr d => uptoBulk d + 1
  | .slice elems spare => uptoBulkAll elems + uptoBulkAll spare + 1
  | .agg parts => uptoBulkAll parts + 1
  | .iface _ d => uptoBulk d + 1
  | .map entries => uptoBulkEntries entries + 1
  | .held _ => 1
def uptoBulkAll {H : Type} : List (DataW H) → Nat
  | [] => 0
  | d :: r => uptoBulk d + uptoBulkAll r
def uptoBulkEntries {H : Type} : List (Lit × DataW H) → Nat
  | [] => 0
  | x :: r => uptoBulkEntry x + uptoBulkEntries r
def uptoBulkEntry {H : Type} : Lit × DataW H → Nat
  | (.string bytes, d) => bytes.length + uptoBulk d + 1
  | (_, d) => uptoBulk d + 1
 end
def uptoSmall : (H : Type) → List (DataW H) → Bool := fun _ ds => decide (uptoBulkAll ds ≤ 1048576)
def OpenSpec.upto (s : _root_.Go.ChangeSpec) : _root_.Go.OpenSpec := { _root_.Go.OpenSpec.ofChange s with cond := some uptoSmall }

/-- 'trivetlaw20.MpacketPackets', WHERE WHAT IT READS IS OF BULK AT MOST 1048576: true; the input reads as it did. -/
def mpacketPacketsUptoRow : OpenClaim := { program := "ytnljmllkfmgclaa", sum := "e61b0ece3d1bb3e4e99891d083432dace80a7df1c77a0cb0679e06170ed0ebc2", func := "trivet/trivetlaw20.MpacketPackets", spec := "mpacketPackets", unfollowed := true, recurses := true, apart := false, narrowed := true }
def MpacketPacketsUptoSaid : Prop := mpacketPacketsUptoRow.holds Try.pinned (OpenSpec.upto mpacketPacketsSpec)

/-- 'trivetlaw20.MpacketBack', WHERE WHAT IT READS IS OF BULK AT MOST 1048576: true; the input reads as it did. -/
def mpacketBackUptoRow : OpenClaim := { program := "ytnljmllkfmgclaa", sum := "e61b0ece3d1bb3e4e99891d083432dace80a7df1c77a0cb0679e06170ed0ebc2", func := "trivet/trivetlaw20.MpacketBack", spec := "mpacketBack", unfollowed := true, recurses := true, apart := false, narrowed := true }
def MpacketBackUptoSaid : Prop := mpacketBackUptoRow.holds Try.pinned (OpenSpec.upto mpacketBackSpec)

/-- 'trivetlaw20.MpacketOnce', WHERE WHAT IT READS IS OF BULK AT MOST 1048576: true; the input reads as it did. -/
def mpacketOnceUptoRow : OpenClaim := { program := "ytnljmllkfmgclaa", sum := "e61b0ece3d1bb3e4e99891d083432dace80a7df1c77a0cb0679e06170ed0ebc2", func := "trivet/trivetlaw20.MpacketOnce", spec := "mpacketOnce", unfollowed := true, recurses := true, apart := false, narrowed := true }
def MpacketOnceUptoSaid : Prop := mpacketOnceUptoRow.holds Try.pinned (OpenSpec.upto mpacketOnceSpec)

/-- 'trivetlaw20.MpacketBounds', WHERE WHAT IT READS IS OF BULK AT MOST 1048576: true; the input reads as it did. -/
def mpacketBoundsUptoRow : OpenClaim := { program := "ytnljmllkfmgclaa", sum := "e61b0ece3d1bb3e4e99891d083432dace80a7df1c77a0cb0679e06170ed0ebc2", func := "trivet/trivetlaw20.MpacketBounds", spec := "mpacketBounds", unfollowed := true, recurses := true, apart := false, narrowed := true }
def MpacketBoundsUptoSaid : Prop := mpacketBoundsUptoRow.holds Try.pinned (OpenSpec.upto mpacketBoundsSpec)

end Rows
end Go.Proofs.Ytnljmllkfmgclaa
