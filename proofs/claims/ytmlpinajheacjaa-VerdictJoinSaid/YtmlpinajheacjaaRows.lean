/-
  No cell of these rows narrows 'for every input' (looked for: loops, veiled, ifaces, maps, wideKeys, modest, calm, conditions, laid).
  DERIVED. THE GIVEN ROWS OF THIS SEAT. 3 by the template 'for every input the law returns true; each argument reads behind the call as it read before'; 0 by the template 'total and deterministic' (their statements: YtmlpinajheacjaaTotals.lean).
  GIVEN WITH THE SEED: the statements are not yours to turn. If you find one false, say at which input.
  Laid BY PROGRAM, IN A SANDBOX (cutbox-rows.mjs): the forced cells as the released guide's own fill.sh prints them over the translation e59ec568f169d483… (all of the seat's roots in one cut). By AI agents, Wed Nov 11 2026. No macro, syntax, notation, axiom, sorry.
-/
import Derived.Test.YtmlpinajheacjaaChecked
import GoSem.Claim
import GoSem.ClaimJoined
import GoSem.ClaimMapViews
import Derived.JoinedTies
import Derived.KernelRfl
namespace Go.Proofs.Ytmlpinajheacjaa
/- THE CELL 'sum', in the pinned program and in every row, IS THE sha256 OF THE DUMP (.gsa) THAT YtmlpinajheacjaaProg.lean LOADS. Nothing in Lean hashes anything: it is a label: what it is worth is what the hold of that sum in a sandbox is worth. -/
noncomputable def Try.pinned : Pinned := { name := "ytmlpinajheacjaa", sum := "e59ec568f169d483f9864b8091a37ddb3f4bc0c67e3e47d2ae563256e0c9db9b", checked := Try.checked }
namespace Rows
def none {H : Type} : Left H := { results := [], args := [] }

/-- 'apogeelaw19.VerdictTruth': WHATEVER THE INPUT: true; the input reads as it did. -/
def verdictTruthSpec : ChangeSpec := { name := "verdictTruth", fn := fun _ => fun
  | [d1, d2, d3, d4] => { results := [.lit (.bool true)], args := [d1, d2, d3, d4] }
  | _ => none }
def verdictTruthRow : OpenClaim := { program := "ytmlpinajheacjaa", sum := "e59ec568f169d483f9864b8091a37ddb3f4bc0c67e3e47d2ae563256e0c9db9b", func := "apogee/apogeelaw19.VerdictTruth", spec := "verdictTruth", inPlace := ["math/bits.Sub64", "math/bits.Add64"], unfollowed := true, recurses := true, apart := false }
def VerdictTruthSaid : Prop := verdictTruthRow.holds Try.pinned (OpenSpec.ofChange verdictTruthSpec)

/-- ITS FALSE NEIGHBOUR: 'it returns false'. Refute it at one input. -/
def verdictTruthWrong : ChangeSpec := { name := "verdictTruth", fn := fun _ => fun
  | [d1, d2, d3, d4] => { results := [.lit (.bool false)], args := [d1, d2, d3, d4] }
  | _ => none }
def VerdictTruthWrongFalsely : Prop := verdictTruthRow.holds Try.pinned (OpenSpec.ofChange verdictTruthWrong)

/-- 'apogeelaw19.VerdictJoin': WHATEVER THE INPUT: true; the input reads as it did. -/
def verdictJoinSpec : ChangeSpec := { name := "verdictJoin", fn := fun _ => fun
  | [d1, d2, d3] => { results := [.lit (.bool true)], args := [d1, d2, d3] }
  | _ => none }
def verdictJoinRow : OpenClaim := { program := "ytmlpinajheacjaa", sum := "e59ec568f169d483f9864b8091a37ddb3f4bc0c67e3e47d2ae563256e0c9db9b", func := "apogee/apogeelaw19.VerdictJoin", spec := "verdictJoin", inPlace := ["math/bits.Sub64", "math/bits.Add64"], unfollowed := true, recurses := true, apart := false }
def VerdictJoinSaid : Prop := verdictJoinRow.holds Try.pinned (OpenSpec.ofChange verdictJoinSpec)

/-- ITS FALSE NEIGHBOUR: 'it returns false'. Refute it at one input. -/
def verdictJoinWrong : ChangeSpec := { name := "verdictJoin", fn := fun _ => fun
  | [d1, d2, d3] => { results := [.lit (.bool false)], args := [d1, d2, d3] }
  | _ => none }
def VerdictJoinWrongFalsely : Prop := verdictJoinRow.holds Try.pinned (OpenSpec.ofChange verdictJoinWrong)

/-- 'apogeelaw19.VerdictEps': WHATEVER THE INPUT: true; the input reads as it did. -/
def verdictEpsSpec : ChangeSpec := { name := "verdictEps", fn := fun _ => fun
  | [d1, d2, d3, d4] => { results := [.lit (.bool true)], args := [d1, d2, d3, d4] }
  | _ => none }
def verdictEpsRow : OpenClaim := { program := "ytmlpinajheacjaa", sum := "e59ec568f169d483f9864b8091a37ddb3f4bc0c67e3e47d2ae563256e0c9db9b", func := "apogee/apogeelaw19.VerdictEps", spec := "verdictEps", inPlace := ["math/bits.Sub64", "math/bits.Add64"], unfollowed := true, recurses := true, apart := false }
def VerdictEpsSaid : Prop := verdictEpsRow.holds Try.pinned (OpenSpec.ofChange verdictEpsSpec)

/-- ITS FALSE NEIGHBOUR: 'it returns false'. Refute it at one input. -/
def verdictEpsWrong : ChangeSpec := { name := "verdictEps", fn := fun _ => fun
  | [d1, d2, d3, d4] => { results := [.lit (.bool false)], args := [d1, d2, d3, d4] }
  | _ => none }
def VerdictEpsWrongFalsely : Prop := verdictEpsRow.holds Try.pinned (OpenSpec.ofChange verdictEpsWrong)

/- THE SECOND FORM. 'bulk': how many values and letters a reading holds, each counted each time it is reached (what is shared counts as often as it is met; a slice's spare places count too). A statement '..UptoSaid' is the law's where the arguments, and the package variables that the reading takes, are together of bulk at most 1048576: NARROWER than '..Said'. Prove '..Said' where nothing that the law and all that it calls make is longer than what came in: it says more and counts as full. Else prove '..UptoSaid'. A law counts once. -/
mutual
def uptoBulk {H : Type} : DataW H → Nat
  | .lit (.string bytes) => bytes.length + 1
  | .lit _ => 1
  | .nil => 1
  | .ptr d => uptoBulk d + 1
  | .slice elems spare => uptoBulkAll elems + uptoBulkAll spare + 1
  | .agg parts => uptoBulkAll parts + 1
  | .iface _ d => uptoBulk d + 1
  | .map entries => uptoBulkEntries entries + 1
  | .held _ => 1
def uptoBulkAll {H : Type} : List (DataW H) → Nat
  | [] => 0
  | d :: r => uptoBulk d + uptoBulkAll r
def uptoBulkEntries {H : Type} : List (Lit × DataW H) → Nat
  | [] => 0
  | x :: r => uptoBulkEntry x + uptoBulkEntries r
def uptoBulkEntry {H : Type} : Lit × DataW H → Nat
  | (.string bytes, d) => bytes.length + uptoBulk d + 1
  | (_, d) => uptoBulk d + 1
 end
def uptoSmall : (H : Type) → List (DataW H) → Bool := fun _ ds => decide (uptoBulkAll ds ≤ 1048576)
def OpenSpec.upto (s : _root_.Go.ChangeSpec) : _root_.Go.OpenSpec := { _root_.Go.OpenSpec.ofChange s with cond := some uptoSmall }

/-- 'apogeelaw19.VerdictTruth', WHERE WHAT IT READS IS OF BULK AT MOST 1048576: true; the input reads as it did. -/
def verdictTruthUptoRow : OpenClaim := { program := "ytmlpinajheacjaa", sum := "e59ec568f169d483f9864b8091a37ddb3f4bc0c67e3e47d2ae563256e0c9db9b", func := "apogee/apogeelaw19.VerdictTruth", spec := "verdictTruth", inPlace := ["math/bits.Sub64", "math/bits.Add64"], unfollowed := true, recurses := true, apart := false, narrowed := true }
def VerdictTruthUptoSaid : Prop := verdictTruthUptoRow.holds Try.pinned (OpenSpec.upto verdictTruthSpec)

/-- 'apogeelaw19.VerdictJoin', WHERE WHAT IT READS IS OF BULK AT MOST 1048576: true; the input reads as it did. -/
def verdictJoinUptoRow : OpenClaim := { program := "ytmlpinajheacjaa", sum := "e59ec568f169d483f9864b8091a37ddb3f4bc0c67e3e47d2ae563256e0c9db9b", func := "apogee/apogeelaw19.VerdictJoin", spec := "verdictJoin", inPlace := ["math/bits.Sub64", "math/bits.Add64"], unfollowed := true, recurses := true, apart := false, narrowed := true }
def VerdictJoinUptoSaid : Prop := verdictJoinUptoRow.holds Try.pinned (OpenSpec.upto verdictJoinSpec)

/-- 'apogeelaw19.VerdictEps', WHERE WHAT IT READS IS OF BULK AT MOST 1048576: true; the input reads as it did. -/
def verdictEpsUptoRow : OpenClaim := { program := "ytmlpinajheacjaa", sum := "e59ec568f169d483f9864b8091a37ddb3f4bc0c67e3e47d2ae563256e0c9db9b", func := "apogee/apogeelaw19.VerdictEps", spec := "verdictEps", inPlace := ["math/bits.Sub64", "math/bits.Add64"], unfollowed := true, recurses := true, apart := false, narrowed := true }
def VerdictEpsUptoSaid : Prop := verdictEpsUptoRow.holds Try.pinned (OpenSpec.upto verdictEpsSpec)

end Rows
end Go.Proofs.Ytmlpinajheacjaa
