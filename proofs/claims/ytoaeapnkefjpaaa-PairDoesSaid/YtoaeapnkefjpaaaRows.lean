/-
  No cell of these rows narrows 'for every input' (looked for: loops, veiled, ifaces, maps, wideKeys, modest, calm, conditions, laid).
  DERIVED. THE GIVEN ROWS OF THIS SEAT. 20 by the template 'for every input the law returns true; each argument reads behind the call as it read before'; 0 by the template 'total and deterministic' (their statements: YtoaeapnkefjpaaaTotals.lean).
  GIVEN WITH THE SEED: the statements are not yours to turn. If you find one false, say at which input.
  Laid BY PROGRAM, IN A SANDBOX (cutbox-rows.mjs): the forced cells as the released guide's own fill.sh prints them over the translation 87fd4e153d82fa39… (all of the seat's roots in one cut). By AI agents, Wed Nov 11 2026. No macro, syntax, notation, axiom, sorry.
-/
import Derived.Test.YtoaeapnkefjpaaaChecked
import GoSem.Claim
import GoSem.ClaimJoined
import GoSem.ClaimMapViews
import Derived.JoinedTies
import Derived.KernelRfl
namespace Go.Proofs.Ytoaeapnkefjpaaa
/- THE CELL 'sum', in the pinned program and in every row, IS THE sha256 OF THE DUMP (.gsa) THAT YtoaeapnkefjpaaaProg.lean LOADS. Nothing in Lean hashes anything: it is a label: what it is worth is what the hold of that sum in a sandbox is worth. -/
noncomputable def Try.pinned : Pinned := { name := "ytoaeapnkefjpaaa", sum := "87fd4e153d82fa3934430885d555848d424f077c5bed9c07b0f25043008bb720", checked := Try.checked }
namespace Rows
def none {H : Type} : Left H := { results := [], args := [] }

/-- 'trivetlaw02.SealAdds': WHATEVER THE INPUT: true; the input reads as it did. -/
def sealAddsSpec : ChangeSpec := { name := "sealAdds", fn := fun _ => fun
  | [d1, d2, d3] => { results := [.lit (.bool true)], args := [d1, d2, d3] }
  | _ => none }
def sealAddsRow : OpenClaim := { program := "ytoaeapnkefjpaaa", sum := "87fd4e153d82fa3934430885d555848d424f077c5bed9c07b0f25043008bb720", func := "trivet/trivetlaw02.SealAdds", spec := "sealAdds", apart := false }
def SealAddsSaid : Prop := sealAddsRow.holds Try.pinned (OpenSpec.ofChange sealAddsSpec)

/-- ITS FALSE NEIGHBOUR: 'it returns false'. Refute it at one input. -/
def sealAddsWrong : ChangeSpec := { name := "sealAdds", fn := fun _ => fun
  | [d1, d2, d3] => { results := [.lit (.bool false)], args := [d1, d2, d3] }
  | _ => none }
def SealAddsWrongFalsely : Prop := sealAddsRow.holds Try.pinned (OpenSpec.ofChange sealAddsWrong)

/-- 'trivetlaw02.SealPieces': WHATEVER THE INPUT: true; the input reads as it did. -/
def sealPiecesSpec : ChangeSpec := { name := "sealPieces", fn := fun _ => fun
  | [d1, d2, d3] => { results := [.lit (.bool true)], args := [d1, d2, d3] }
  | _ => none }
def sealPiecesRow : OpenClaim := { program := "ytoaeapnkefjpaaa", sum := "87fd4e153d82fa3934430885d555848d424f077c5bed9c07b0f25043008bb720", func := "trivet/trivetlaw02.SealPieces", spec := "sealPieces", apart := false }
def SealPiecesSaid : Prop := sealPiecesRow.holds Try.pinned (OpenSpec.ofChange sealPiecesSpec)

/-- ITS FALSE NEIGHBOUR: 'it returns false'. Refute it at one input. -/
def sealPiecesWrong : ChangeSpec := { name := "sealPieces", fn := fun _ => fun
  | [d1, d2, d3] => { results := [.lit (.bool false)], args := [d1, d2, d3] }
  | _ => none }
def SealPiecesWrongFalsely : Prop := sealPiecesRow.holds Try.pinned (OpenSpec.ofChange sealPiecesWrong)

/-- 'trivetlaw02.SealTells': WHATEVER THE INPUT: true; the input reads as it did. -/
def sealTellsSpec : ChangeSpec := { name := "sealTells", fn := fun _ => fun
  | [d1, d2, d3] => { results := [.lit (.bool true)], args := [d1, d2, d3] }
  | _ => none }
def sealTellsRow : OpenClaim := { program := "ytoaeapnkefjpaaa", sum := "87fd4e153d82fa3934430885d555848d424f077c5bed9c07b0f25043008bb720", func := "trivet/trivetlaw02.SealTells", spec := "sealTells", apart := false }
def SealTellsSaid : Prop := sealTellsRow.holds Try.pinned (OpenSpec.ofChange sealTellsSpec)

/-- ITS FALSE NEIGHBOUR: 'it returns false'. Refute it at one input. -/
def sealTellsWrong : ChangeSpec := { name := "sealTells", fn := fun _ => fun
  | [d1, d2, d3] => { results := [.lit (.bool false)], args := [d1, d2, d3] }
  | _ => none }
def SealTellsWrongFalsely : Prop := sealTellsRow.holds Try.pinned (OpenSpec.ofChange sealTellsWrong)

/-- 'trivetlaw02.SealTurns': WHATEVER THE INPUT: true; the input reads as it did. -/
def sealTurnsSpec : ChangeSpec := { name := "sealTurns", fn := fun _ => fun
  | [d1, d2, d3] => { results := [.lit (.bool true)], args := [d1, d2, d3] }
  | _ => none }
def sealTurnsRow : OpenClaim := { program := "ytoaeapnkefjpaaa", sum := "87fd4e153d82fa3934430885d555848d424f077c5bed9c07b0f25043008bb720", func := "trivet/trivetlaw02.SealTurns", spec := "sealTurns", apart := false }
def SealTurnsSaid : Prop := sealTurnsRow.holds Try.pinned (OpenSpec.ofChange sealTurnsSpec)

/-- ITS FALSE NEIGHBOUR: 'it returns false'. Refute it at one input. -/
def sealTurnsWrong : ChangeSpec := { name := "sealTurns", fn := fun _ => fun
  | [d1, d2, d3] => { results := [.lit (.bool false)], args := [d1, d2, d3] }
  | _ => none }
def SealTurnsWrongFalsely : Prop := sealTurnsRow.holds Try.pinned (OpenSpec.ofChange sealTurnsWrong)

/-- 'trivetlaw02.SealSeeds': WHATEVER THE INPUT: true; the input reads as it did. -/
def sealSeedsSpec : ChangeSpec := { name := "sealSeeds", fn := fun _ => fun
  | [d1, d2, d3] => { results := [.lit (.bool true)], args := [d1, d2, d3] }
  | _ => none }
def sealSeedsRow : OpenClaim := { program := "ytoaeapnkefjpaaa", sum := "87fd4e153d82fa3934430885d555848d424f077c5bed9c07b0f25043008bb720", func := "trivet/trivetlaw02.SealSeeds", spec := "sealSeeds", apart := false }
def SealSeedsSaid : Prop := sealSeedsRow.holds Try.pinned (OpenSpec.ofChange sealSeedsSpec)

/-- ITS FALSE NEIGHBOUR: 'it returns false'. Refute it at one input. -/
def sealSeedsWrong : ChangeSpec := { name := "sealSeeds", fn := fun _ => fun
  | [d1, d2, d3] => { results := [.lit (.bool false)], args := [d1, d2, d3] }
  | _ => none }
def SealSeedsWrongFalsely : Prop := sealSeedsRow.holds Try.pinned (OpenSpec.ofChange sealSeedsWrong)

/-- 'trivetlaw02.SealBack': WHATEVER THE INPUT: true; the input reads as it did. -/
def sealBackSpec : ChangeSpec := { name := "sealBack", fn := fun _ => fun
  | [d1, d2] => { results := [.lit (.bool true)], args := [d1, d2] }
  | _ => none }
def sealBackRow : OpenClaim := { program := "ytoaeapnkefjpaaa", sum := "87fd4e153d82fa3934430885d555848d424f077c5bed9c07b0f25043008bb720", func := "trivet/trivetlaw02.SealBack", spec := "sealBack", apart := false }
def SealBackSaid : Prop := sealBackRow.holds Try.pinned (OpenSpec.ofChange sealBackSpec)

/-- ITS FALSE NEIGHBOUR: 'it returns false'. Refute it at one input. -/
def sealBackWrong : ChangeSpec := { name := "sealBack", fn := fun _ => fun
  | [d1, d2] => { results := [.lit (.bool false)], args := [d1, d2] }
  | _ => none }
def SealBackWrongFalsely : Prop := sealBackRow.holds Try.pinned (OpenSpec.ofChange sealBackWrong)

/-- 'trivetlaw05.PairDoes': WHATEVER THE INPUT: true; the input reads as it did. -/
def pairDoesSpec : ChangeSpec := { name := "pairDoes", fn := fun _ => fun
  | [d1, d2] => { results := [.lit (.bool true)], args := [d1, d2] }
  | _ => none }
def pairDoesRow : OpenClaim := { program := "ytoaeapnkefjpaaa", sum := "87fd4e153d82fa3934430885d555848d424f077c5bed9c07b0f25043008bb720", func := "trivet/trivetlaw05.PairDoes", spec := "pairDoes", unfollowed := true, recurses := true, apart := false }
def PairDoesSaid : Prop := pairDoesRow.holds Try.pinned (OpenSpec.ofChange pairDoesSpec)

/-- ITS FALSE NEIGHBOUR: 'it returns false'. Refute it at one input. -/
def pairDoesWrong : ChangeSpec := { name := "pairDoes", fn := fun _ => fun
  | [d1, d2] => { results := [.lit (.bool false)], args := [d1, d2] }
  | _ => none }
def PairDoesWrongFalsely : Prop := pairDoesRow.holds Try.pinned (OpenSpec.ofChange pairDoesWrong)

/-- 'trivetlaw03.DrumSafe': WHATEVER THE INPUT: true; the input reads as it did. -/
def drumSafeSpec : ChangeSpec := { name := "drumSafe", fn := fun _ => fun
  | [d1, d2, d3] => { results := [.lit (.bool true)], args := [d1, d2, d3] }
  | _ => none }
def drumSafeRow : OpenClaim := { program := "ytoaeapnkefjpaaa", sum := "87fd4e153d82fa3934430885d555848d424f077c5bed9c07b0f25043008bb720", func := "trivet/trivetlaw03.DrumSafe", spec := "drumSafe", apart := false }
def DrumSafeSaid : Prop := drumSafeRow.holds Try.pinned (OpenSpec.ofChange drumSafeSpec)

/-- ITS FALSE NEIGHBOUR: 'it returns false'. Refute it at one input. -/
def drumSafeWrong : ChangeSpec := { name := "drumSafe", fn := fun _ => fun
  | [d1, d2, d3] => { results := [.lit (.bool false)], args := [d1, d2, d3] }
  | _ => none }
def DrumSafeWrongFalsely : Prop := drumSafeRow.holds Try.pinned (OpenSpec.ofChange drumSafeWrong)

/-- 'trivetlaw03.DrumKeeps': WHATEVER THE INPUT: true; the input reads as it did. -/
def drumKeepsSpec : ChangeSpec := { name := "drumKeeps", fn := fun _ => fun
  | [d1, d2] => { results := [.lit (.bool true)], args := [d1, d2] }
  | _ => none }
def drumKeepsRow : OpenClaim := { program := "ytoaeapnkefjpaaa", sum := "87fd4e153d82fa3934430885d555848d424f077c5bed9c07b0f25043008bb720", func := "trivet/trivetlaw03.DrumKeeps", spec := "drumKeeps", apart := false }
def DrumKeepsSaid : Prop := drumKeepsRow.holds Try.pinned (OpenSpec.ofChange drumKeepsSpec)

/-- ITS FALSE NEIGHBOUR: 'it returns false'. Refute it at one input. -/
def drumKeepsWrong : ChangeSpec := { name := "drumKeeps", fn := fun _ => fun
  | [d1, d2] => { results := [.lit (.bool false)], args := [d1, d2] }
  | _ => none }
def DrumKeepsWrongFalsely : Prop := drumKeepsRow.holds Try.pinned (OpenSpec.ofChange drumKeepsWrong)

/-- 'trivetlaw03.DrumLast': WHATEVER THE INPUT: true; the input reads as it did. -/
def drumLastSpec : ChangeSpec := { name := "drumLast", fn := fun _ => fun
  | [d1, d2] => { results := [.lit (.bool true)], args := [d1, d2] }
  | _ => none }
def drumLastRow : OpenClaim := { program := "ytoaeapnkefjpaaa", sum := "87fd4e153d82fa3934430885d555848d424f077c5bed9c07b0f25043008bb720", func := "trivet/trivetlaw03.DrumLast", spec := "drumLast", apart := false }
def DrumLastSaid : Prop := drumLastRow.holds Try.pinned (OpenSpec.ofChange drumLastSpec)

/-- ITS FALSE NEIGHBOUR: 'it returns false'. Refute it at one input. -/
def drumLastWrong : ChangeSpec := { name := "drumLast", fn := fun _ => fun
  | [d1, d2] => { results := [.lit (.bool false)], args := [d1, d2] }
  | _ => none }
def DrumLastWrongFalsely : Prop := drumLastRow.holds Try.pinned (OpenSpec.ofChange drumLastWrong)

/-- 'trivetlaw03.DrumArms': WHATEVER THE INPUT: true; the input reads as it did. -/
def drumArmsSpec : ChangeSpec := { name := "drumArms", fn := fun _ => fun
  | [d1, d2, d3] => { results := [.lit (.bool true)], args := [d1, d2, d3] }
  | _ => none }
def drumArmsRow : OpenClaim := { program := "ytoaeapnkefjpaaa", sum := "87fd4e153d82fa3934430885d555848d424f077c5bed9c07b0f25043008bb720", func := "trivet/trivetlaw03.DrumArms", spec := "drumArms", apart := false }
def DrumArmsSaid : Prop := drumArmsRow.holds Try.pinned (OpenSpec.ofChange drumArmsSpec)

/-- ITS FALSE NEIGHBOUR: 'it returns false'. Refute it at one input. -/
def drumArmsWrong : ChangeSpec := { name := "drumArms", fn := fun _ => fun
  | [d1, d2, d3] => { results := [.lit (.bool false)], args := [d1, d2, d3] }
  | _ => none }
def DrumArmsWrongFalsely : Prop := drumArmsRow.holds Try.pinned (OpenSpec.ofChange drumArmsWrong)

/-- 'trivetlaw03.DrumDoes': WHATEVER THE INPUT: true; the input reads as it did. -/
def drumDoesSpec : ChangeSpec := { name := "drumDoes", fn := fun _ => fun
  | [d1, d2] => { results := [.lit (.bool true)], args := [d1, d2] }
  | _ => none }
def drumDoesRow : OpenClaim := { program := "ytoaeapnkefjpaaa", sum := "87fd4e153d82fa3934430885d555848d424f077c5bed9c07b0f25043008bb720", func := "trivet/trivetlaw03.DrumDoes", spec := "drumDoes", apart := false }
def DrumDoesSaid : Prop := drumDoesRow.holds Try.pinned (OpenSpec.ofChange drumDoesSpec)

/-- ITS FALSE NEIGHBOUR: 'it returns false'. Refute it at one input. -/
def drumDoesWrong : ChangeSpec := { name := "drumDoes", fn := fun _ => fun
  | [d1, d2] => { results := [.lit (.bool false)], args := [d1, d2] }
  | _ => none }
def DrumDoesWrongFalsely : Prop := drumDoesRow.holds Try.pinned (OpenSpec.ofChange drumDoesWrong)

/-- 'trivetlaw04.TapeTwice': WHATEVER THE INPUT: true; the input reads as it did. -/
def tapeTwiceSpec : ChangeSpec := { name := "tapeTwice", fn := fun _ => fun
  | [d1, d2, d3] => { results := [.lit (.bool true)], args := [d1, d2, d3] }
  | _ => none }
def tapeTwiceRow : OpenClaim := { program := "ytoaeapnkefjpaaa", sum := "87fd4e153d82fa3934430885d555848d424f077c5bed9c07b0f25043008bb720", func := "trivet/trivetlaw04.TapeTwice", spec := "tapeTwice", unfollowed := true, recurses := true, apart := false }
def TapeTwiceSaid : Prop := tapeTwiceRow.holds Try.pinned (OpenSpec.ofChange tapeTwiceSpec)

/-- ITS FALSE NEIGHBOUR: 'it returns false'. Refute it at one input. -/
def tapeTwiceWrong : ChangeSpec := { name := "tapeTwice", fn := fun _ => fun
  | [d1, d2, d3] => { results := [.lit (.bool false)], args := [d1, d2, d3] }
  | _ => none }
def TapeTwiceWrongFalsely : Prop := tapeTwiceRow.holds Try.pinned (OpenSpec.ofChange tapeTwiceWrong)

/-- 'trivetlaw04.TapeTells': WHATEVER THE INPUT: true; the input reads as it did. -/
def tapeTellsSpec : ChangeSpec := { name := "tapeTells", fn := fun _ => fun
  | [d1, d2, d3] => { results := [.lit (.bool true)], args := [d1, d2, d3] }
  | _ => none }
def tapeTellsRow : OpenClaim := { program := "ytoaeapnkefjpaaa", sum := "87fd4e153d82fa3934430885d555848d424f077c5bed9c07b0f25043008bb720", func := "trivet/trivetlaw04.TapeTells", spec := "tapeTells", unfollowed := true, recurses := true, apart := false }
def TapeTellsSaid : Prop := tapeTellsRow.holds Try.pinned (OpenSpec.ofChange tapeTellsSpec)

/-- ITS FALSE NEIGHBOUR: 'it returns false'. Refute it at one input. -/
def tapeTellsWrong : ChangeSpec := { name := "tapeTells", fn := fun _ => fun
  | [d1, d2, d3] => { results := [.lit (.bool false)], args := [d1, d2, d3] }
  | _ => none }
def TapeTellsWrongFalsely : Prop := tapeTellsRow.holds Try.pinned (OpenSpec.ofChange tapeTellsWrong)

/-- 'trivetlaw04.TapeKeeps': WHATEVER THE INPUT: true; the input reads as it did. -/
def tapeKeepsSpec : ChangeSpec := { name := "tapeKeeps", fn := fun _ => fun
  | [d] => { results := [.lit (.bool true)], args := [d] }
  | _ => none }
def tapeKeepsRow : OpenClaim := { program := "ytoaeapnkefjpaaa", sum := "87fd4e153d82fa3934430885d555848d424f077c5bed9c07b0f25043008bb720", func := "trivet/trivetlaw04.TapeKeeps", spec := "tapeKeeps", unfollowed := true, recurses := true, apart := false }
def TapeKeepsSaid : Prop := tapeKeepsRow.holds Try.pinned (OpenSpec.ofChange tapeKeepsSpec)

/-- ITS FALSE NEIGHBOUR: 'it returns false'. Refute it at one input. -/
def tapeKeepsWrong : ChangeSpec := { name := "tapeKeeps", fn := fun _ => fun
  | [d] => { results := [.lit (.bool false)], args := [d] }
  | _ => none }
def TapeKeepsWrongFalsely : Prop := tapeKeepsRow.holds Try.pinned (OpenSpec.ofChange tapeKeepsWrong)

/-- 'trivetlaw04.TapeClears': WHATEVER THE INPUT: true; the input reads as it did. -/
def tapeClearsSpec : ChangeSpec := { name := "tapeClears", fn := fun _ => fun
  | [d1, d2] => { results := [.lit (.bool true)], args := [d1, d2] }
  | _ => none }
def tapeClearsRow : OpenClaim := { program := "ytoaeapnkefjpaaa", sum := "87fd4e153d82fa3934430885d555848d424f077c5bed9c07b0f25043008bb720", func := "trivet/trivetlaw04.TapeClears", spec := "tapeClears", unfollowed := true, recurses := true, apart := false }
def TapeClearsSaid : Prop := tapeClearsRow.holds Try.pinned (OpenSpec.ofChange tapeClearsSpec)

/-- ITS FALSE NEIGHBOUR: 'it returns false'. Refute it at one input. -/
def tapeClearsWrong : ChangeSpec := { name := "tapeClears", fn := fun _ => fun
  | [d1, d2] => { results := [.lit (.bool false)], args := [d1, d2] }
  | _ => none }
def TapeClearsWrongFalsely : Prop := tapeClearsRow.holds Try.pinned (OpenSpec.ofChange tapeClearsWrong)

/-- 'trivetlaw04.TapeDoes': WHATEVER THE INPUT: true; the input reads as it did. -/
def tapeDoesSpec : ChangeSpec := { name := "tapeDoes", fn := fun _ => fun
  | [d1, d2] => { results := [.lit (.bool true)], args := [d1, d2] }
  | _ => none }
def tapeDoesRow : OpenClaim := { program := "ytoaeapnkefjpaaa", sum := "87fd4e153d82fa3934430885d555848d424f077c5bed9c07b0f25043008bb720", func := "trivet/trivetlaw04.TapeDoes", spec := "tapeDoes", unfollowed := true, recurses := true, apart := false }
def TapeDoesSaid : Prop := tapeDoesRow.holds Try.pinned (OpenSpec.ofChange tapeDoesSpec)

/-- ITS FALSE NEIGHBOUR: 'it returns false'. Refute it at one input. -/
def tapeDoesWrong : ChangeSpec := { name := "tapeDoes", fn := fun _ => fun
  | [d1, d2] => { results := [.lit (.bool false)], args := [d1, d2] }
  | _ => none }
def TapeDoesWrongFalsely : Prop := tapeDoesRow.holds Try.pinned (OpenSpec.ofChange tapeDoesWrong)

/-- 'trivetlaw05.PairKeeps': WHATEVER THE INPUT: true; the input reads as it did. -/
def pairKeepsSpec : ChangeSpec := { name := "pairKeeps", fn := fun _ => fun
  | [d1, d2] => { results := [.lit (.bool true)], args := [d1, d2] }
  | _ => none }
def pairKeepsRow : OpenClaim := { program := "ytoaeapnkefjpaaa", sum := "87fd4e153d82fa3934430885d555848d424f077c5bed9c07b0f25043008bb720", func := "trivet/trivetlaw05.PairKeeps", spec := "pairKeeps", unfollowed := true, recurses := true, apart := false }
def PairKeepsSaid : Prop := pairKeepsRow.holds Try.pinned (OpenSpec.ofChange pairKeepsSpec)

/-- ITS FALSE NEIGHBOUR: 'it returns false'. Refute it at one input. -/
def pairKeepsWrong : ChangeSpec := { name := "pairKeeps", fn := fun _ => fun
  | [d1, d2] => { results := [.lit (.bool false)], args := [d1, d2] }
  | _ => none }
def PairKeepsWrongFalsely : Prop := pairKeepsRow.holds Try.pinned (OpenSpec.ofChange pairKeepsWrong)

/-- 'trivetlaw05.PairTurns': WHATEVER THE INPUT: true; the input reads as it did. -/
def pairTurnsSpec : ChangeSpec := { name := "pairTurns", fn := fun _ => fun
  | [d1, d2, d3] => { results := [.lit (.bool true)], args := [d1, d2, d3] }
  | _ => none }
def pairTurnsRow : OpenClaim := { program := "ytoaeapnkefjpaaa", sum := "87fd4e153d82fa3934430885d555848d424f077c5bed9c07b0f25043008bb720", func := "trivet/trivetlaw05.PairTurns", spec := "pairTurns", unfollowed := true, recurses := true, apart := false }
def PairTurnsSaid : Prop := pairTurnsRow.holds Try.pinned (OpenSpec.ofChange pairTurnsSpec)

/-- ITS FALSE NEIGHBOUR: 'it returns false'. Refute it at one input. -/
def pairTurnsWrong : ChangeSpec := { name := "pairTurns", fn := fun _ => fun
  | [d1, d2, d3] => { results := [.lit (.bool false)], args := [d1, d2, d3] }
  | _ => none }
def PairTurnsWrongFalsely : Prop := pairTurnsRow.holds Try.pinned (OpenSpec.ofChange pairTurnsWrong)

/-- 'trivetlaw05.PairFull': WHATEVER THE INPUT: true; the input reads as it did. -/
def pairFullSpec : ChangeSpec := { name := "pairFull", fn := fun _ => fun
  | [d1, d2, d3] => { results := [.lit (.bool true)], args := [d1, d2, d3] }
  | _ => none }
def pairFullRow : OpenClaim := { program := "ytoaeapnkefjpaaa", sum := "87fd4e153d82fa3934430885d555848d424f077c5bed9c07b0f25043008bb720", func := "trivet/trivetlaw05.PairFull", spec := "pairFull", unfollowed := true, recurses := true, apart := false }
def PairFullSaid : Prop := pairFullRow.holds Try.pinned (OpenSpec.ofChange pairFullSpec)

/-- ITS FALSE NEIGHBOUR: 'it returns false'. Refute it at one input. -/
def pairFullWrong : ChangeSpec := { name := "pairFull", fn := fun _ => fun
  | [d1, d2, d3] => { results := [.lit (.bool false)], args := [d1, d2, d3] }
  | _ => none }
def PairFullWrongFalsely : Prop := pairFullRow.holds Try.pinned (OpenSpec.ofChange pairFullWrong)

/- THE SECOND FORM. 'bulk': how many values and letters a reading holds, each counted each time it is reached (what is shared counts as often as it is met; a slice's spare places count too). A statement '..UptoSaid' is the law's where the arguments, and the package variables that the reading takes, are together of bulk at most 1048576: NARROWER than '..Said'. Prove '..Said' where nothing that the law and all that it calls make is longer than what came in: it says more and counts as full. Else prove '..UptoSaid'. A law counts once. -/
mutual
def uptoBulk {H : Type} : DataW H → Nat
  | .lit (.string bytes) => bytes.length + 1
  | .lit _ => 1
  | .nil => 1
  | .ptr d => uptoBulk d + 1
  | .slice elems spare => uptoBulkAll elems + uptoBulkAll spare + 1
  | .agg parts => uptoBulkAll parts + 1
  | .iface _ d => uptoBulk d + 1
  | .map entries => uptoBulkEntries entries + 1
  | .held _ => 1
def uptoBulkAll {H : Type} : List (DataW H) → Nat
  | [] => 0
  | d :: r => uptoBulk d + uptoBulkAll r
def uptoBulkEntries {H : Type} : List (Lit × DataW H) → Nat
  | [] => 0
  | x :: r => uptoBulkEntry x + uptoBulkEntries r
def uptoBulkEntry {H : Type} : Lit × DataW H → Nat
  | (.string bytes, d) => bytes.length + uptoBulk d + 1
  | (_, d) => uptoBulk d + 1
 end
def uptoSmall : (H : Type) → List (DataW H) → Bool := fun _ ds => decide (uptoBulkAll ds ≤ 1048576)
def OpenSpec.upto (s : _root_.Go.ChangeSpec) : _root_.Go.OpenSpec := { _root_.Go.OpenSpec.ofChange s with cond := some uptoSmall }

/-- 'trivetlaw02.SealAdds', WHERE WHAT IT READS IS OF BULK AT MOST 1048576: true; the input reads as it did. -/
def sealAddsUptoRow : OpenClaim := { program := "ytoaeapnkefjpaaa", sum := "87fd4e153d82fa3934430885d555848d424f077c5bed9c07b0f25043008bb720", func := "trivet/trivetlaw02.SealAdds", spec := "sealAdds", apart := false, narrowed := true }
def SealAddsUptoSaid : Prop := sealAddsUptoRow.holds Try.pinned (OpenSpec.upto sealAddsSpec)

/-- 'trivetlaw02.SealPieces', WHERE WHAT IT READS IS OF BULK AT MOST 1048576: true; the input reads as it did. -/
def sealPiecesUptoRow : OpenClaim := { program := "ytoaeapnkefjpaaa", sum := "87fd4e153d82fa3934430885d555848d424f077c5bed9c07b0f25043008bb720", func := "trivet/trivetlaw02.SealPieces", spec := "sealPieces", apart := false, narrowed := true }
def SealPiecesUptoSaid : Prop := sealPiecesUptoRow.holds Try.pinned (OpenSpec.upto sealPiecesSpec)

/-- 'trivetlaw02.SealTells', WHERE WHAT IT READS IS OF BULK AT MOST 1048576: true; the input reads as it did. -/
def sealTellsUptoRow : OpenClaim := { program := "ytoaeapnkefjpaaa", sum := "87fd4e153d82fa3934430885d555848d424f077c5bed9c07b0f25043008bb720", func := "trivet/trivetlaw02.SealTells", spec := "sealTells", apart := false, narrowed := true }
def SealTellsUptoSaid : Prop := sealTellsUptoRow.holds Try.pinned (OpenSpec.upto sealTellsSpec)

/-- 'trivetlaw02.SealTurns', WHERE WHAT IT READS IS OF BULK AT MOST 1048576: true; the input reads as it did. -/
def sealTurnsUptoRow : OpenClaim := { program := "ytoaeapnkefjpaaa", sum := "87fd4e153d82fa3934430885d555848d424f077c5bed9c07b0f25043008bb720", func := "trivet/trivetlaw02.SealTurns", spec := "sealTurns", apart := false, narrowed := true }
def SealTurnsUptoSaid : Prop := sealTurnsUptoRow.holds Try.pinned (OpenSpec.upto sealTurnsSpec)

/-- 'trivetlaw02.SealSeeds', WHERE WHAT IT READS IS OF BULK AT MOST 1048576: true; the input reads as it did. -/
def sealSeedsUptoRow : OpenClaim := { program := "ytoaeapnkefjpaaa", sum := "87fd4e153d82fa3934430885d555848d424f077c5bed9c07b0f25043008bb720", func := "trivet/trivetlaw02.SealSeeds", spec := "sealSeeds", apart := false, narrowed := true }
def SealSeedsUptoSaid : Prop := sealSeedsUptoRow.holds Try.pinned (OpenSpec.upto sealSeedsSpec)

/-- 'trivetlaw02.SealBack', WHERE WHAT IT READS IS OF BULK AT MOST 1048576: true; the input reads as it did. -/
def sealBackUptoRow : OpenClaim := { program := "ytoaeapnkefjpaaa", sum := "87fd4e153d82fa3934430885d555848d424f077c5bed9c07b0f25043008bb720", func := "trivet/trivetlaw02.SealBack", spec := "sealBack", apart := false, narrowed := true }
def SealBackUptoSaid : Prop := sealBackUptoRow.holds Try.pinned (OpenSpec.upto sealBackSpec)

/-- 'trivetlaw05.PairDoes', WHERE WHAT IT READS IS OF BULK AT MOST 1048576: true; the input reads as it did. -/
def pairDoesUptoRow : OpenClaim := { program := "ytoaeapnkefjpaaa", sum := "87fd4e153d82fa3934430885d555848d424f077c5bed9c07b0f25043008bb720", func := "trivet/trivetlaw05.PairDoes", spec := "pairDoes", unfollowed := true, recurses := true, apart := false, narrowed := true }
def PairDoesUptoSaid : Prop := pairDoesUptoRow.holds Try.pinned (OpenSpec.upto pairDoesSpec)

/-- 'trivetlaw03.DrumSafe', WHERE WHAT IT READS IS OF BULK AT MOST 1048576: true; the input reads as it did. -/
def drumSafeUptoRow : OpenClaim := { program := "ytoaeapnkefjpaaa", sum := "87fd4e153d82fa3934430885d555848d424f077c5bed9c07b0f25043008bb720", func := "trivet/trivetlaw03.DrumSafe", spec := "drumSafe", apart := false, narrowed := true }
def DrumSafeUptoSaid : Prop := drumSafeUptoRow.holds Try.pinned (OpenSpec.upto drumSafeSpec)

/-- 'trivetlaw03.DrumKeeps', WHERE WHAT IT READS IS OF BULK AT MOST 1048576: true; the input reads as it did. -/
def drumKeepsUptoRow : OpenClaim := { program := "ytoaeapnkefjpaaa", sum := "87fd4e153d82fa3934430885d555848d424f077c5bed9c07b0f25043008bb720", func := "trivet/trivetlaw03.DrumKeeps", spec := "drumKeeps", apart := false, narrowed := true }
def DrumKeepsUptoSaid : Prop := drumKeepsUptoRow.holds Try.pinned (OpenSpec.upto drumKeepsSpec)

/-- 'trivetlaw03.DrumLast', WHERE WHAT IT READS IS OF BULK AT MOST 1048576: true; the input reads as it did. -/
def drumLastUptoRow : OpenClaim := { program := "ytoaeapnkefjpaaa", sum := "87fd4e153d82fa3934430885d555848d424f077c5bed9c07b0f25043008bb720", func := "trivet/trivetlaw03.DrumLast", spec := "drumLast", apart := false, narrowed := true }
def DrumLastUptoSaid : Prop := drumLastUptoRow.holds Try.pinned (OpenSpec.upto drumLastSpec)

/-- 'trivetlaw03.DrumArms', WHERE WHAT IT READS IS OF BULK AT MOST 1048576: true; the input reads as it did. -/
def drumArmsUptoRow : OpenClaim := { program := "ytoaeapnkefjpaaa", sum := "87fd4e153d82fa3934430885d555848d424f077c5bed9c07b0f25043008bb720", func := "trivet/trivetlaw03.DrumArms", spec := "drumArms", apart := false, narrowed := true }
def DrumArmsUptoSaid : Prop := drumArmsUptoRow.holds Try.pinned (OpenSpec.upto drumArmsSpec)

/-- 'trivetlaw03.DrumDoes', WHERE WHAT IT READS IS OF BULK AT MOST 1048576: true; the input reads as it did. -/
def drumDoesUptoRow : OpenClaim := { program := "ytoaeapnkefjpaaa", sum := "87fd4e153d82fa3934430885d555848d424f077c5bed9c07b0f25043008bb720", func := "trivet/trivetlaw03.DrumDoes", spec := "drumDoes", apart := false, narrowed := true }
def DrumDoesUptoSaid : Prop := drumDoesUptoRow.holds Try.pinned (OpenSpec.upto drumDoesSpec)

/-- 'trivetlaw04.TapeTwice', WHERE WHAT IT READS IS OF BULK AT MOST 1048576: true; the input reads as it did. -/
def tapeTwiceUptoRow : OpenClaim := { program := "ytoaeapnkefjpaaa", sum := "87fd4e153d82fa3934430885d555848d424f077c5bed9c07b0f25043008bb720", func := "trivet/trivetlaw04.TapeTwice", spec := "tapeTwice", unfollowed := true, recurses := true, apart := false, narrowed := true }
def TapeTwiceUptoSaid : Prop := tapeTwiceUptoRow.holds Try.pinned (OpenSpec.upto tapeTwiceSpec)

/-- 'trivetlaw04.TapeTells', WHERE WHAT IT READS IS OF BULK AT MOST 1048576: true; the input reads as it did. -/
def tapeTellsUptoRow : OpenClaim := { program := "ytoaeapnkefjpaaa", sum := "87fd4e153d82fa3934430885d555848d424f077c5bed9c07b0f25043008bb720", func := "trivet/trivetlaw04.TapeTells", spec := "tapeTells", unfollowed := true, recurses := true, apart := false, narrowed := true }
def TapeTellsUptoSaid : Prop := tapeTellsUptoRow.holds Try.pinned (OpenSpec.upto tapeTellsSpec)

/-- 'trivetlaw04.TapeKeeps', WHERE WHAT IT READS IS OF BULK AT MOST 1048576: true; the input reads as it did. -/
def tapeKeepsUptoRow : OpenClaim := { program := "ytoaeapnkefjpaaa", sum := "87fd4e153d82fa3934430885d555848d424f077c5bed9c07b0f25043008bb720", func := "trivet/trivetlaw04.TapeKeeps", spec := "tapeKeeps", unfollowed := true, recurses := true, apart := false, narrowed := true }
def TapeKeepsUptoSaid : Prop := tapeKeepsUptoRow.holds Try.pinned (OpenSpec.upto tapeKeepsSpec)

/-- 'trivetlaw04.TapeClears', WHERE WHAT IT READS IS OF BULK AT MOST 1048576: true; the input reads as it did. -/
def tapeClearsUptoRow : OpenClaim := { program := "ytoaeapnkefjpaaa", sum := "87fd4e153d82fa3934430885d555848d424f077c5bed9c07b0f25043008bb720", func := "trivet/trivetlaw04.TapeClears", spec := "tapeClears", unfollowed := true, recurses := true, apart := false, narrowed := true }
def TapeClearsUptoSaid : Prop := tapeClearsUptoRow.holds Try.pinned (OpenSpec.upto tapeClearsSpec)

/-- 'trivetlaw04.TapeDoes', WHERE WHAT IT READS IS OF BULK AT MOST 1048576: true; the input reads as it did. -/
def tapeDoesUptoRow : OpenClaim := { program := "ytoaeapnkefjpaaa", sum := "87fd4e153d82fa3934430885d555848d424f077c5bed9c07b0f25043008bb720", func := "trivet/trivetlaw04.TapeDoes", spec := "tapeDoes", unfollowed := true, recurses := true, apart := false, narrowed := true }
def TapeDoesUptoSaid : Prop := tapeDoesUptoRow.holds Try.pinned (OpenSpec.upto tapeDoesSpec)

/-- 'trivetlaw05.PairKeeps', WHERE WHAT IT READS IS OF BULK AT MOST 1048576: true; the input reads as it did. -/
def pairKeepsUptoRow : OpenClaim := { program := "ytoaeapnkefjpaaa", sum := "87fd4e153d82fa3934430885d555848d424f077c5bed9c07b0f25043008bb720", func := "trivet/trivetlaw05.PairKeeps", spec := "pairKeeps", unfollowed := true, recurses := true, apart := false, narrowed := true }
def PairKeepsUptoSaid : Prop := pairKeepsUptoRow.holds Try.pinned (OpenSpec.upto pairKeepsSpec)

/-- 'trivetlaw05.PairTurns', WHERE WHAT IT READS IS OF BULK AT MOST 1048576: true; the input reads as it did. -/
def pairTurnsUptoRow : OpenClaim := { program := "ytoaeapnkefjpaaa", sum := "87fd4e153d82fa3934430885d555848d424f077c5bed9c07b0f25043008bb720", func := "trivet/trivetlaw05.PairTurns", spec := "pairTurns", unfollowed := true, recurses := true, apart := false, narrowed := true }
def PairTurnsUptoSaid : Prop := pairTurnsUptoRow.holds Try.pinned (OpenSpec.upto pairTurnsSpec)

/-- 'trivetlaw05.PairFull', WHERE WHAT IT READS IS OF BULK AT MOST 1048576: true; the input reads as it did. -/
def pairFullUptoRow : OpenClaim := { program := "ytoaeapnkefjpaaa", sum := "87fd4e153d82fa3934430885d555848d424f077c5bed9c07b0f25043008bb720", func := "trivet/trivetlaw05.PairFull", spec := "pairFull", unfollowed := true, recurses := true, apart := false, narrowed := true }
def PairFullUptoSaid : Prop := pairFullUptoRow.holds Try.pinned (OpenSpec.upto pairFullSpec)

end Rows
end Go.Proofs.Ytoaeapnkefjpaaa
