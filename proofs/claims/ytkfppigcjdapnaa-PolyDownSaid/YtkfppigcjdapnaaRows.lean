/-
  No cell of these rows narrows 'for every input' (looked for: loops, veiled, ifaces, maps, wideKeys, modest, calm, conditions, laid).
  DERIVED. THE GIVEN ROWS OF THIS SEAT. 6 by the template 'for every input the law returns true; each argument reads behind the call as it read before'; 0 by the template 'total and deterministic' (their statements: YtkfppigcjdapnaaTotals.lean).
  GIVEN WITH THE SEED: the statements are not yours to turn. If you find one false, say at which input.
  Laid BY PROGRAM, IN A SANDBOX (cutbox-rows.mjs): the forced cells as the released guide's own fill.sh prints them over the translation 4e7de4de6ee95ff8… (all of the seat's roots in one cut). By AI agents, Wed Nov 11 2026. No macro, syntax, notation, axiom, sorry.
-/
import Derived.Test.YtkfppigcjdapnaaChecked
import GoSem.Claim
import GoSem.ClaimJoined
import GoSem.ClaimMapViews
import Derived.JoinedTies
import Derived.KernelRfl
namespace Go.Proofs.Ytkfppigcjdapnaa
/- THE CELL 'sum', in the pinned program and in every row, IS THE sha256 OF THE DUMP (.gsa) THAT YtkfppigcjdapnaaProg.lean LOADS. Nothing in Lean hashes anything: it is a label: what it is worth is what the hold of that sum in a sandbox is worth. -/
noncomputable def Try.pinned : Pinned := { name := "ytkfppigcjdapnaa", sum := "4e7de4de6ee95ff85a28f6cfd64b39a967b676ba5c5aa12c6fecd7435519f124", checked := Try.checked }
namespace Rows
def none {H : Type} : Left H := { results := [], args := [] }

/-- 'apogeelaw11.PolyTells': WHATEVER THE INPUT: true; the input reads as it did. -/
def polyTellsSpec : ChangeSpec := { name := "polyTells", fn := fun _ => fun
  | [d1, d2] => { results := [.lit (.bool true)], args := [d1, d2] }
  | _ => none }
def polyTellsRow : OpenClaim := { program := "ytkfppigcjdapnaa", sum := "4e7de4de6ee95ff85a28f6cfd64b39a967b676ba5c5aa12c6fecd7435519f124", func := "apogee/apogeelaw11.PolyTells", spec := "polyTells", inPlace := ["math/bits.Add64", "math/bits.Sub64"], unfollowed := true, recurses := true, apart := false }
def PolyTellsSaid : Prop := polyTellsRow.holds Try.pinned (OpenSpec.ofChange polyTellsSpec)

/-- ITS FALSE NEIGHBOUR: 'it returns false'. Refute it at one input. -/
def polyTellsWrong : ChangeSpec := { name := "polyTells", fn := fun _ => fun
  | [d1, d2] => { results := [.lit (.bool false)], args := [d1, d2] }
  | _ => none }
def PolyTellsWrongFalsely : Prop := polyTellsRow.holds Try.pinned (OpenSpec.ofChange polyTellsWrong)

/-- 'apogeelaw11.PolyRound': WHATEVER THE INPUT: true; the input reads as it did. -/
def polyRoundSpec : ChangeSpec := { name := "polyRound", fn := fun _ => fun
  | [d1, d2, d3] => { results := [.lit (.bool true)], args := [d1, d2, d3] }
  | _ => none }
def polyRoundRow : OpenClaim := { program := "ytkfppigcjdapnaa", sum := "4e7de4de6ee95ff85a28f6cfd64b39a967b676ba5c5aa12c6fecd7435519f124", func := "apogee/apogeelaw11.PolyRound", spec := "polyRound", inPlace := ["math/bits.Add64", "math/bits.Sub64"], unfollowed := true, recurses := true, apart := false }
def PolyRoundSaid : Prop := polyRoundRow.holds Try.pinned (OpenSpec.ofChange polyRoundSpec)

/-- ITS FALSE NEIGHBOUR: 'it returns false'. Refute it at one input. -/
def polyRoundWrong : ChangeSpec := { name := "polyRound", fn := fun _ => fun
  | [d1, d2, d3] => { results := [.lit (.bool false)], args := [d1, d2, d3] }
  | _ => none }
def PolyRoundWrongFalsely : Prop := polyRoundRow.holds Try.pinned (OpenSpec.ofChange polyRoundWrong)

/-- 'apogeelaw11.PolyMoves': WHATEVER THE INPUT: true; the input reads as it did. -/
def polyMovesSpec : ChangeSpec := { name := "polyMoves", fn := fun _ => fun
  | [d1, d2, d3, d4] => { results := [.lit (.bool true)], args := [d1, d2, d3, d4] }
  | _ => none }
def polyMovesRow : OpenClaim := { program := "ytkfppigcjdapnaa", sum := "4e7de4de6ee95ff85a28f6cfd64b39a967b676ba5c5aa12c6fecd7435519f124", func := "apogee/apogeelaw11.PolyMoves", spec := "polyMoves", inPlace := ["math/bits.Add64", "math/bits.Sub64"], unfollowed := true, recurses := true, apart := false }
def PolyMovesSaid : Prop := polyMovesRow.holds Try.pinned (OpenSpec.ofChange polyMovesSpec)

/-- ITS FALSE NEIGHBOUR: 'it returns false'. Refute it at one input. -/
def polyMovesWrong : ChangeSpec := { name := "polyMoves", fn := fun _ => fun
  | [d1, d2, d3, d4] => { results := [.lit (.bool false)], args := [d1, d2, d3, d4] }
  | _ => none }
def PolyMovesWrongFalsely : Prop := polyMovesRow.holds Try.pinned (OpenSpec.ofChange polyMovesWrong)

/-- 'apogeelaw11.PolyWays': WHATEVER THE INPUT: true; the input reads as it did. -/
def polyWaysSpec : ChangeSpec := { name := "polyWays", fn := fun _ => fun
  | [d1, d2, d3] => { results := [.lit (.bool true)], args := [d1, d2, d3] }
  | _ => none }
def polyWaysRow : OpenClaim := { program := "ytkfppigcjdapnaa", sum := "4e7de4de6ee95ff85a28f6cfd64b39a967b676ba5c5aa12c6fecd7435519f124", func := "apogee/apogeelaw11.PolyWays", spec := "polyWays", inPlace := ["math/bits.Add64", "math/bits.Sub64"], unfollowed := true, recurses := true, apart := false }
def PolyWaysSaid : Prop := polyWaysRow.holds Try.pinned (OpenSpec.ofChange polyWaysSpec)

/-- ITS FALSE NEIGHBOUR: 'it returns false'. Refute it at one input. -/
def polyWaysWrong : ChangeSpec := { name := "polyWays", fn := fun _ => fun
  | [d1, d2, d3] => { results := [.lit (.bool false)], args := [d1, d2, d3] }
  | _ => none }
def PolyWaysWrongFalsely : Prop := polyWaysRow.holds Try.pinned (OpenSpec.ofChange polyWaysWrong)

/-- 'apogeelaw11.PolyTriangle': WHATEVER THE INPUT: true; the input reads as it did. -/
def polyTriangleSpec : ChangeSpec := { name := "polyTriangle", fn := fun _ => fun
  | [d1, d2, d3, d4] => { results := [.lit (.bool true)], args := [d1, d2, d3, d4] }
  | _ => none }
def polyTriangleRow : OpenClaim := { program := "ytkfppigcjdapnaa", sum := "4e7de4de6ee95ff85a28f6cfd64b39a967b676ba5c5aa12c6fecd7435519f124", func := "apogee/apogeelaw11.PolyTriangle", spec := "polyTriangle", inPlace := ["math/bits.Add64", "math/bits.Sub64"], unfollowed := true, recurses := true, apart := false }
def PolyTriangleSaid : Prop := polyTriangleRow.holds Try.pinned (OpenSpec.ofChange polyTriangleSpec)

/-- ITS FALSE NEIGHBOUR: 'it returns false'. Refute it at one input. -/
def polyTriangleWrong : ChangeSpec := { name := "polyTriangle", fn := fun _ => fun
  | [d1, d2, d3, d4] => { results := [.lit (.bool false)], args := [d1, d2, d3, d4] }
  | _ => none }
def PolyTriangleWrongFalsely : Prop := polyTriangleRow.holds Try.pinned (OpenSpec.ofChange polyTriangleWrong)

/-- 'apogeelaw11.PolyDown': WHATEVER THE INPUT: true; the input reads as it did. -/
def polyDownSpec : ChangeSpec := { name := "polyDown", fn := fun _ => fun
  | [d] => { results := [.lit (.bool true)], args := [d] }
  | _ => none }
def polyDownRow : OpenClaim := { program := "ytkfppigcjdapnaa", sum := "4e7de4de6ee95ff85a28f6cfd64b39a967b676ba5c5aa12c6fecd7435519f124", func := "apogee/apogeelaw11.PolyDown", spec := "polyDown", inPlace := ["math/bits.Add64", "math/bits.Sub64"], unfollowed := true, recurses := true, apart := false }
def PolyDownSaid : Prop := polyDownRow.holds Try.pinned (OpenSpec.ofChange polyDownSpec)

/-- ITS FALSE NEIGHBOUR: 'it returns false'. Refute it at one input. -/
def polyDownWrong : ChangeSpec := { name := "polyDown", fn := fun _ => fun
  | [d] => { results := [.lit (.bool false)], args := [d] }
  | _ => none }
def PolyDownWrongFalsely : Prop := polyDownRow.holds Try.pinned (OpenSpec.ofChange polyDownWrong)

/- THE SECOND FORM. 'bulk': how many values and letters a reading holds, each counted each time it is reached (what is shared counts as often as it is met; a slice's spare places count too). A statement '..UptoSaid' is the law's where the arguments, and the package variables that the reading takes, are together of bulk at most 1048576: NARROWER than '..Said'. Prove '..Said' where nothing that the law and all that it calls make is longer than what came in: it says more and counts as full. Else prove '..UptoSaid'. A law counts once. -/
mutual
def uptoBulk {H : Type} : DataW H → Nat
  | .lit (.string bytes) => bytes.length + 1
  | .lit _ => 1
  | .nil => 1
  | .ptr d => uptoBulk d + 1
  | .slice elems spare => uptoBulkAll elems + uptoBulkAll spare + 1
  | .agg parts => uptoBulkAll parts + 1
  | .iface _ d => uptoBulk d + 1
  | .map entries => uptoBulkEntries entries + 1
  | .held _ => 1
def uptoBulkAll {H : Type} : List (DataW H) → Nat
  | [] => 0
  | d :: r => uptoBulk d + uptoBulkAll r
def uptoBulkEntries {H : Type} : List (Lit × DataW H) → Nat
  | [] => 0
  | x :: r => uptoBulkEntry x + uptoBulkEntries r
def uptoBulkEntry {H : Type} : Lit × DataW H → Nat
  | (.string bytes, d) => bytes.length + uptoBulk d + 1
  | (_, d) => uptoBulk d + 1
 end
def uptoSmall : (H : Type) → List (DataW H) → Bool := fun _ ds => decide (uptoBulkAll ds ≤ 1048576)
def OpenSpec.upto (s : _root_.Go.ChangeSpec) : _root_.Go.OpenSpec := { _root_.Go.OpenSpec.ofChange s with cond := some uptoSmall }

/-- 'apogeelaw11.PolyTells', WHERE WHAT IT READS IS OF BULK AT MOST 1048576: true; the input reads as it did. -/
def polyTellsUptoRow : OpenClaim := { program := "ytkfppigcjdapnaa", sum := "4e7de4de6ee95ff85a28f6cfd64b39a967b676ba5c5aa12c6fecd7435519f124", func := "apogee/apogeelaw11.PolyTells", spec := "polyTells", inPlace := ["math/bits.Add64", "math/bits.Sub64"], unfollowed := true, recurses := true, apart := false, narrowed := true }
def PolyTellsUptoSaid : Prop := polyTellsUptoRow.holds Try.pinned (OpenSpec.upto polyTellsSpec)

/-- 'apogeelaw11.PolyRound', WHERE WHAT IT READS IS OF BULK AT MOST 1048576: true; the input reads as it did. -/
def polyRoundUptoRow : OpenClaim := { program := "ytkfppigcjdapnaa", sum := "4e7de4de6ee95ff85a28f6cfd64b39a967b676ba5c5aa12c6fecd7435519f124", func := "apogee/apogeelaw11.PolyRound", spec := "polyRound", inPlace := ["math/bits.Add64", "math/bits.Sub64"], unfollowed := true, recurses := true, apart := false, narrowed := true }
def PolyRoundUptoSaid : Prop := polyRoundUptoRow.holds Try.pinned (OpenSpec.upto polyRoundSpec)

/-- 'apogeelaw11.PolyMoves', WHERE WHAT IT READS IS OF BULK AT MOST 1048576: true; the input reads as it did. -/
def polyMovesUptoRow : OpenClaim := { program := "ytkfppigcjdapnaa", sum := "4e7de4de6ee95ff85a28f6cfd64b39a967b676ba5c5aa12c6fecd7435519f124", func := "apogee/apogeelaw11.PolyMoves", spec := "polyMoves", inPlace := ["math/bits.Add64", "math/bits.Sub64"], unfollowed := true, recurses := true, apart := false, narrowed := true }
def PolyMovesUptoSaid : Prop := polyMovesUptoRow.holds Try.pinned (OpenSpec.upto polyMovesSpec)

/-- 'apogeelaw11.PolyWays', WHERE WHAT IT READS IS OF BULK AT MOST 1048576: true; the input reads as it did. -/
def polyWaysUptoRow : OpenClaim := { program := "ytkfppigcjdapnaa", sum := "4e7de4de6ee95ff85a28f6cfd64b39a967b676ba5c5aa12c6fecd7435519f124", func := "apogee/apogeelaw11.PolyWays", spec := "polyWays", inPlace := ["math/bits.Add64", "math/bits.Sub64"], unfollowed := true, recurses := true, apart := false, narrowed := true }
def PolyWaysUptoSaid : Prop := polyWaysUptoRow.holds Try.pinned (OpenSpec.upto polyWaysSpec)

/-- 'apogeelaw11.PolyTriangle', WHERE WHAT IT READS IS OF BULK AT MOST 1048576: true; the input reads as it did. -/
def polyTriangleUptoRow : OpenClaim := { program := "ytkfppigcjdapnaa", sum := "4e7de4de6ee95ff85a28f6cfd64b39a967b676ba5c5aa12c6fecd7435519f124", func := "apogee/apogeelaw11.PolyTriangle", spec := "polyTriangle", inPlace := ["math/bits.Add64", "math/bits.Sub64"], unfollowed := true, recurses := true, apart := false, narrowed := true }
def PolyTriangleUptoSaid : Prop := polyTriangleUptoRow.holds Try.pinned (OpenSpec.upto polyTriangleSpec)

/-- 'apogeelaw11.PolyDown', WHERE WHAT IT READS IS OF BULK AT MOST 1048576: true; the input reads as it did. -/
def polyDownUptoRow : OpenClaim := { program := "ytkfppigcjdapnaa", sum := "4e7de4de6ee95ff85a28f6cfd64b39a967b676ba5c5aa12c6fecd7435519f124", func := "apogee/apogeelaw11.PolyDown", spec := "polyDown", inPlace := ["math/bits.Add64", "math/bits.Sub64"], unfollowed := true, recurses := true, apart := false, narrowed := true }
def PolyDownUptoSaid : Prop := polyDownUptoRow.holds Try.pinned (OpenSpec.upto polyDownSpec)

end Rows
end Go.Proofs.Ytkfppigcjdapnaa
