/-
  No cell of these rows narrows 'for every input' (looked for: loops, veiled, ifaces, maps, wideKeys, modest, calm, conditions, laid).
  DERIVED. THE GIVEN ROWS OF THIS SEAT. 6 by the template 'for every input the law returns true; each argument reads behind the call as it read before'; 0 by the template 'total and deterministic' (their statements: YtbcbaidnamebkaaTotals.lean).
  GIVEN WITH THE SEED: the statements are not yours to turn. If you find one false, say at which input.
  Laid BY PROGRAM, IN A SANDBOX (cutbox-rows.mjs): the forced cells as the released guide's own fill.sh prints them over the translation 2d3246296e8e6b66… (all of the seat's roots in one cut). By AI agents, Wed Nov 11 2026. No macro, syntax, notation, axiom, sorry.
-/
import Derived.Test.YtbcbaidnamebkaaChecked
import GoSem.Claim
import GoSem.ClaimJoined
import GoSem.ClaimMapViews
import Derived.JoinedTies
import Derived.KernelRfl
namespace Go.Proofs.Ytbcbaidnamebkaa
/- THE CELL 'sum', in the pinned program and in every row, IS THE sha256 OF THE DUMP (.gsa) THAT YtbcbaidnamebkaaProg.lean LOADS. Nothing in Lean hashes anything: it is a label: what it is worth is what the hold of that sum in a sandbox is worth. -/
noncomputable def Try.pinned : Pinned := { name := "ytbcbaidnamebkaa", sum := "2d3246296e8e6b6608c069145af79d98b8c157f7702a29982d5720ac7516034c", checked := Try.checked }
namespace Rows
def none {H : Type} : Left H := { results := [], args := [] }

/-- 'apogeelaw10.PointTells': WHATEVER THE INPUT: true; the input reads as it did. -/
def pointTellsSpec : ChangeSpec := { name := "pointTells", fn := fun _ => fun
  | [d1, d2, d3, d4] => { results := [.lit (.bool true)], args := [d1, d2, d3, d4] }
  | _ => none }
def pointTellsRow : OpenClaim := { program := "ytbcbaidnamebkaa", sum := "2d3246296e8e6b6608c069145af79d98b8c157f7702a29982d5720ac7516034c", func := "apogee/apogeelaw10.PointTells", spec := "pointTells", inPlace := ["math/bits.Add64"], unfollowed := true, recurses := true, apart := false }
def PointTellsSaid : Prop := pointTellsRow.holds Try.pinned (OpenSpec.ofChange pointTellsSpec)

/-- ITS FALSE NEIGHBOUR: 'it returns false'. Refute it at one input. -/
def pointTellsWrong : ChangeSpec := { name := "pointTells", fn := fun _ => fun
  | [d1, d2, d3, d4] => { results := [.lit (.bool false)], args := [d1, d2, d3, d4] }
  | _ => none }
def PointTellsWrongFalsely : Prop := pointTellsRow.holds Try.pinned (OpenSpec.ofChange pointTellsWrong)

/-- 'apogeelaw10.PointTurns': WHATEVER THE INPUT: true; the input reads as it did. -/
def pointTurnsSpec : ChangeSpec := { name := "pointTurns", fn := fun _ => fun
  | [d1, d2, d3] => { results := [.lit (.bool true)], args := [d1, d2, d3] }
  | _ => none }
def pointTurnsRow : OpenClaim := { program := "ytbcbaidnamebkaa", sum := "2d3246296e8e6b6608c069145af79d98b8c157f7702a29982d5720ac7516034c", func := "apogee/apogeelaw10.PointTurns", spec := "pointTurns", inPlace := ["math/bits.Add64"], unfollowed := true, recurses := true, apart := false }
def PointTurnsSaid : Prop := pointTurnsRow.holds Try.pinned (OpenSpec.ofChange pointTurnsSpec)

/-- ITS FALSE NEIGHBOUR: 'it returns false'. Refute it at one input. -/
def pointTurnsWrong : ChangeSpec := { name := "pointTurns", fn := fun _ => fun
  | [d1, d2, d3] => { results := [.lit (.bool false)], args := [d1, d2, d3] }
  | _ => none }
def PointTurnsWrongFalsely : Prop := pointTurnsRow.holds Try.pinned (OpenSpec.ofChange pointTurnsWrong)

/-- 'apogeelaw10.PointMoves': WHATEVER THE INPUT: true; the input reads as it did. -/
def pointMovesSpec : ChangeSpec := { name := "pointMoves", fn := fun _ => fun
  | [d1, d2, d3, d4, d5, d6] => { results := [.lit (.bool true)], args := [d1, d2, d3, d4, d5, d6] }
  | _ => none }
def pointMovesRow : OpenClaim := { program := "ytbcbaidnamebkaa", sum := "2d3246296e8e6b6608c069145af79d98b8c157f7702a29982d5720ac7516034c", func := "apogee/apogeelaw10.PointMoves", spec := "pointMoves", inPlace := ["math/bits.Add64"], unfollowed := true, recurses := true, apart := false }
def PointMovesSaid : Prop := pointMovesRow.holds Try.pinned (OpenSpec.ofChange pointMovesSpec)

/-- ITS FALSE NEIGHBOUR: 'it returns false'. Refute it at one input. -/
def pointMovesWrong : ChangeSpec := { name := "pointMoves", fn := fun _ => fun
  | [d1, d2, d3, d4, d5, d6] => { results := [.lit (.bool false)], args := [d1, d2, d3, d4, d5, d6] }
  | _ => none }
def PointMovesWrongFalsely : Prop := pointMovesRow.holds Try.pinned (OpenSpec.ofChange pointMovesWrong)

/-- 'apogeelaw10.PointMeets': WHATEVER THE INPUT: true; the input reads as it did. -/
def pointMeetsSpec : ChangeSpec := { name := "pointMeets", fn := fun _ => fun
  | [d1, d2, d3, d4] => { results := [.lit (.bool true)], args := [d1, d2, d3, d4] }
  | _ => none }
def pointMeetsRow : OpenClaim := { program := "ytbcbaidnamebkaa", sum := "2d3246296e8e6b6608c069145af79d98b8c157f7702a29982d5720ac7516034c", func := "apogee/apogeelaw10.PointMeets", spec := "pointMeets", inPlace := ["math/bits.Add64"], unfollowed := true, recurses := true, apart := false }
def PointMeetsSaid : Prop := pointMeetsRow.holds Try.pinned (OpenSpec.ofChange pointMeetsSpec)

/-- ITS FALSE NEIGHBOUR: 'it returns false'. Refute it at one input. -/
def pointMeetsWrong : ChangeSpec := { name := "pointMeets", fn := fun _ => fun
  | [d1, d2, d3, d4] => { results := [.lit (.bool false)], args := [d1, d2, d3, d4] }
  | _ => none }
def PointMeetsWrongFalsely : Prop := pointMeetsRow.holds Try.pinned (OpenSpec.ofChange pointMeetsWrong)

/-- 'apogeelaw10.PointMirror': WHATEVER THE INPUT: true; the input reads as it did. -/
def pointMirrorSpec : ChangeSpec := { name := "pointMirror", fn := fun _ => fun
  | [d1, d2, d3, d4] => { results := [.lit (.bool true)], args := [d1, d2, d3, d4] }
  | _ => none }
def pointMirrorRow : OpenClaim := { program := "ytbcbaidnamebkaa", sum := "2d3246296e8e6b6608c069145af79d98b8c157f7702a29982d5720ac7516034c", func := "apogee/apogeelaw10.PointMirror", spec := "pointMirror", inPlace := ["math/bits.Add64"], unfollowed := true, recurses := true, apart := false }
def PointMirrorSaid : Prop := pointMirrorRow.holds Try.pinned (OpenSpec.ofChange pointMirrorSpec)

/-- ITS FALSE NEIGHBOUR: 'it returns false'. Refute it at one input. -/
def pointMirrorWrong : ChangeSpec := { name := "pointMirror", fn := fun _ => fun
  | [d1, d2, d3, d4] => { results := [.lit (.bool false)], args := [d1, d2, d3, d4] }
  | _ => none }
def PointMirrorWrongFalsely : Prop := pointMirrorRow.holds Try.pinned (OpenSpec.ofChange pointMirrorWrong)

/-- 'apogeelaw10.PointGrid': WHATEVER THE INPUT: true; the input reads as it did. -/
def pointGridSpec : ChangeSpec := { name := "pointGrid", fn := fun _ => fun
  | [d1, d2, d3] => { results := [.lit (.bool true)], args := [d1, d2, d3] }
  | _ => none }
def pointGridRow : OpenClaim := { program := "ytbcbaidnamebkaa", sum := "2d3246296e8e6b6608c069145af79d98b8c157f7702a29982d5720ac7516034c", func := "apogee/apogeelaw10.PointGrid", spec := "pointGrid", inPlace := ["math/bits.Add64"], unfollowed := true, recurses := true, apart := false }
def PointGridSaid : Prop := pointGridRow.holds Try.pinned (OpenSpec.ofChange pointGridSpec)

/-- ITS FALSE NEIGHBOUR: 'it returns false'. Refute it at one input. -/
def pointGridWrong : ChangeSpec := { name := "pointGrid", fn := fun _ => fun
  | [d1, d2, d3] => { results := [.lit (.bool false)], args := [d1, d2, d3] }
  | _ => none }
def PointGridWrongFalsely : Prop := pointGridRow.holds Try.pinned (OpenSpec.ofChange pointGridWrong)

/- THE SECOND FORM. 'bulk': how many values and letters a reading holds, each counted each time it is reached (what is shared counts as often as it is met; a slice's spare places count too). A statement '..UptoSaid' is the law's where the arguments, and the package variables that the reading takes, are together of bulk at most 1048576: NARROWER than '..Said'. Prove '..Said' where nothing that the law and all that it calls make is longer than what came in: it says more and counts as full. Else prove '..UptoSaid'. A law counts once. -/
mutual
def uptoBulk {H : Type} : DataW H → Nat
  | .lit (.string bytes) => bytes.length + 1
  | .lit _ => 1
  | .nil => 1
  | .ptr d => uptoBulk d + 1
  | .slice elems spare => uptoBulkAll elems + uptoBulkAll spare + 1
  | .agg parts => uptoBulkAll parts + 1
  | .iface _ d => uptoBulk d + 1
  | .map entries => uptoBulkEntries entries + 1
  | .held _ => 1
def uptoBulkAll {H : Type} : List (DataW H) → Nat
  | [] => 0
  | d :: r => uptoBulk d + uptoBulkAll r
def uptoBulkEntries {H : Type} : List (Lit × DataW H) → Nat
  | [] => 0
  | x :: r => uptoBulkEntry x + uptoBulkEntries r
def uptoBulkEntry {H : Type} : Lit × DataW H → Nat
  | (.string bytes, d) => bytes.length + uptoBulk d + 1
  | (_, d) => uptoBulk d + 1
 end
def uptoSmall : (H : Type) → List (DataW H) → Bool := fun _ ds => decide (uptoBulkAll ds ≤ 1048576)
def OpenSpec.upto (s : _root_.Go.ChangeSpec) : _root_.Go.OpenSpec := { _root_.Go.OpenSpec.ofChange s with cond := some uptoSmall }

/-- 'apogeelaw10.PointTells', WHERE WHAT IT READS IS OF BULK AT MOST 1048576: true; the input reads as it did. -/
def pointTellsUptoRow : OpenClaim := { program := "ytbcbaidnamebkaa", sum := "2d3246296e8e6b6608c069145af79d98b8c157f7702a29982d5720ac7516034c", func := "apogee/apogeelaw10.PointTells", spec := "pointTells", inPlace := ["math/bits.Add64"], unfollowed := true, recurses := true, apart := false, narrowed := true }
def PointTellsUptoSaid : Prop := pointTellsUptoRow.holds Try.pinned (OpenSpec.upto pointTellsSpec)

/-- 'apogeelaw10.PointTurns', WHERE WHAT IT READS IS OF BULK AT MOST 1048576: true; the input reads as it did. -/
def pointTurnsUptoRow : OpenClaim := { program := "ytbcbaidnamebkaa", sum := "2d3246296e8e6b6608c069145af79d98b8c157f7702a29982d5720ac7516034c", func := "apogee/apogeelaw10.PointTurns", spec := "pointTurns", inPlace := ["math/bits.Add64"], unfollowed := true, recurses := true, apart := false, narrowed := true }
def PointTurnsUptoSaid : Prop := pointTurnsUptoRow.holds Try.pinned (OpenSpec.upto pointTurnsSpec)

/-- 'apogeelaw10.PointMoves', WHERE WHAT IT READS IS OF BULK AT MOST 1048576: true; the input reads as it did. -/
def pointMovesUptoRow : OpenClaim := { program := "ytbcbaidnamebkaa", sum := "2d3246296e8e6b6608c069145af79d98b8c157f7702a29982d5720ac7516034c", func := "apogee/apogeelaw10.PointMoves", spec := "pointMoves", inPlace := ["math/bits.Add64"], unfollowed := true, recurses := true, apart := false, narrowed := true }
def PointMovesUptoSaid : Prop := pointMovesUptoRow.holds Try.pinned (OpenSpec.upto pointMovesSpec)

/-- 'apogeelaw10.PointMeets', WHERE WHAT IT READS IS OF BULK AT MOST 1048576: true; the input reads as it did. -/
def pointMeetsUptoRow : OpenClaim := { program := "ytbcbaidnamebkaa", sum := "2d3246296e8e6b6608c069145af79d98b8c157f7702a29982d5720ac7516034c", func := "apogee/apogeelaw10.PointMeets", spec := "pointMeets", inPlace := ["math/bits.Add64"], unfollowed := true, recurses := true, apart := false, narrowed := true }
def PointMeetsUptoSaid : Prop := pointMeetsUptoRow.holds Try.pinned (OpenSpec.upto pointMeetsSpec)

/-- 'apogeelaw10.PointMirror', WHERE WHAT IT READS IS OF BULK AT MOST 1048576: true; the input reads as it did. -/
def pointMirrorUptoRow : OpenClaim := { program := "ytbcbaidnamebkaa", sum := "2d3246296e8e6b6608c069145af79d98b8c157f7702a29982d5720ac7516034c", func := "apogee/apogeelaw10.PointMirror", spec := "pointMirror", inPlace := ["math/bits.Add64"], unfollowed := true, recurses := true, apart := false, narrowed := true }
def PointMirrorUptoSaid : Prop := pointMirrorUptoRow.holds Try.pinned (OpenSpec.upto pointMirrorSpec)

/-- 'apogeelaw10.PointGrid', WHERE WHAT IT READS IS OF BULK AT MOST 1048576: true; the input reads as it did. -/
def pointGridUptoRow : OpenClaim := { program := "ytbcbaidnamebkaa", sum := "2d3246296e8e6b6608c069145af79d98b8c157f7702a29982d5720ac7516034c", func := "apogee/apogeelaw10.PointGrid", spec := "pointGrid", inPlace := ["math/bits.Add64"], unfollowed := true, recurses := true, apart := false, narrowed := true }
def PointGridUptoSaid : Prop := pointGridUptoRow.holds Try.pinned (OpenSpec.upto pointGridSpec)

end Rows
end Go.Proofs.Ytbcbaidnamebkaa
