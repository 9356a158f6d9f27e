/-
  No cell of these rows narrows 'for every input' (looked for: loops, veiled, ifaces, maps, wideKeys, modest, calm, conditions, laid).
  DERIVED. THE GIVEN ROWS OF THIS SEAT. 5 by the template 'for every input the law returns true; each argument reads behind the call as it read before'; 0 by the template 'total and deterministic' (their statements: YtbmedgpiphibaaaTotals.lean).
  GIVEN WITH THE SEED: the statements are not yours to turn. If you find one false, say at which input.
  Laid BY PROGRAM, IN A SANDBOX (cutbox-rows.mjs): the forced cells as the released guide's own fill.sh prints them over the translation 8a7de6f6df58f671… (all of the seat's roots in one cut). By AI agents, Wed Nov 11 2026. No macro, syntax, notation, axiom, sorry.
-/
import Derived.Test.YtbmedgpiphibaaaChecked
import GoSem.Claim
import GoSem.ClaimJoined
import GoSem.ClaimMapViews
import Derived.JoinedTies
import Derived.KernelRfl
namespace Go.Proofs.Ytbmedgpiphibaaa
/- THE CELL 'sum', in the pinned program and in every row, IS THE sha256 OF THE DUMP (.gsa) THAT YtbmedgpiphibaaaProg.lean LOADS. Nothing in Lean hashes anything: it is a label: what it is worth is what the hold of that sum in a sandbox is worth. -/
noncomputable def Try.pinned : Pinned := { name := "ytbmedgpiphibaaa", sum := "8a7de6f6df58f671a46c94a3c866fd04c3da6f38441416be69525b53b4ca40bf", checked := Try.checked }
namespace Rows
def none {H : Type} : Left H := { results := [], args := [] }

/-- 'apogeelaw14.RulefilePrints': WHATEVER THE INPUT: true; the input reads as it did. -/
def rulefilePrintsSpec : ChangeSpec := { name := "rulefilePrints", fn := fun _ => fun
  | [d] => { results := [.lit (.bool true)], args := [d] }
  | _ => none }
def rulefilePrintsRow : OpenClaim := { program := "ytbmedgpiphibaaa", sum := "8a7de6f6df58f671a46c94a3c866fd04c3da6f38441416be69525b53b4ca40bf", func := "apogee/apogeelaw14.RulefilePrints", spec := "rulefilePrints", unfollowed := true, recurses := true, apart := false }
def RulefilePrintsSaid : Prop := rulefilePrintsRow.holds Try.pinned (OpenSpec.ofChange rulefilePrintsSpec)

/-- ITS FALSE NEIGHBOUR: 'it returns false'. Refute it at one input. -/
def rulefilePrintsWrong : ChangeSpec := { name := "rulefilePrints", fn := fun _ => fun
  | [d] => { results := [.lit (.bool false)], args := [d] }
  | _ => none }
def RulefilePrintsWrongFalsely : Prop := rulefilePrintsRow.holds Try.pinned (OpenSpec.ofChange rulefilePrintsWrong)

/-- 'apogeelaw14.RulefileReads': WHATEVER THE INPUT: true; the input reads as it did. -/
def rulefileReadsSpec : ChangeSpec := { name := "rulefileReads", fn := fun _ => fun
  | [d] => { results := [.lit (.bool true)], args := [d] }
  | _ => none }
def rulefileReadsRow : OpenClaim := { program := "ytbmedgpiphibaaa", sum := "8a7de6f6df58f671a46c94a3c866fd04c3da6f38441416be69525b53b4ca40bf", func := "apogee/apogeelaw14.RulefileReads", spec := "rulefileReads", unfollowed := true, recurses := true, apart := false }
def RulefileReadsSaid : Prop := rulefileReadsRow.holds Try.pinned (OpenSpec.ofChange rulefileReadsSpec)

/-- ITS FALSE NEIGHBOUR: 'it returns false'. Refute it at one input. -/
def rulefileReadsWrong : ChangeSpec := { name := "rulefileReads", fn := fun _ => fun
  | [d] => { results := [.lit (.bool false)], args := [d] }
  | _ => none }
def RulefileReadsWrongFalsely : Prop := rulefileReadsRow.holds Try.pinned (OpenSpec.ofChange rulefileReadsWrong)

/-- 'apogeelaw14.RulefileCuts': WHATEVER THE INPUT: true; the input reads as it did. -/
def rulefileCutsSpec : ChangeSpec := { name := "rulefileCuts", fn := fun _ => fun
  | [d1, d2, d3] => { results := [.lit (.bool true)], args := [d1, d2, d3] }
  | _ => none }
def rulefileCutsRow : OpenClaim := { program := "ytbmedgpiphibaaa", sum := "8a7de6f6df58f671a46c94a3c866fd04c3da6f38441416be69525b53b4ca40bf", func := "apogee/apogeelaw14.RulefileCuts", spec := "rulefileCuts", unfollowed := true, recurses := true, apart := false }
def RulefileCutsSaid : Prop := rulefileCutsRow.holds Try.pinned (OpenSpec.ofChange rulefileCutsSpec)

/-- ITS FALSE NEIGHBOUR: 'it returns false'. Refute it at one input. -/
def rulefileCutsWrong : ChangeSpec := { name := "rulefileCuts", fn := fun _ => fun
  | [d1, d2, d3] => { results := [.lit (.bool false)], args := [d1, d2, d3] }
  | _ => none }
def RulefileCutsWrongFalsely : Prop := rulefileCutsRow.holds Try.pinned (OpenSpec.ofChange rulefileCutsWrong)

/-- 'apogeelaw14.RulefileTurns': WHATEVER THE INPUT: true; the input reads as it did. -/
def rulefileTurnsSpec : ChangeSpec := { name := "rulefileTurns", fn := fun _ => fun
  | [d1, d2, d3] => { results := [.lit (.bool true)], args := [d1, d2, d3] }
  | _ => none }
def rulefileTurnsRow : OpenClaim := { program := "ytbmedgpiphibaaa", sum := "8a7de6f6df58f671a46c94a3c866fd04c3da6f38441416be69525b53b4ca40bf", func := "apogee/apogeelaw14.RulefileTurns", spec := "rulefileTurns", unfollowed := true, recurses := true, apart := false }
def RulefileTurnsSaid : Prop := rulefileTurnsRow.holds Try.pinned (OpenSpec.ofChange rulefileTurnsSpec)

/-- ITS FALSE NEIGHBOUR: 'it returns false'. Refute it at one input. -/
def rulefileTurnsWrong : ChangeSpec := { name := "rulefileTurns", fn := fun _ => fun
  | [d1, d2, d3] => { results := [.lit (.bool false)], args := [d1, d2, d3] }
  | _ => none }
def RulefileTurnsWrongFalsely : Prop := rulefileTurnsRow.holds Try.pinned (OpenSpec.ofChange rulefileTurnsWrong)

/-- 'apogeelaw14.RulefileOne': WHATEVER THE INPUT: true; the input reads as it did. -/
def rulefileOneSpec : ChangeSpec := { name := "rulefileOne", fn := fun _ => fun
  | [d1, d2] => { results := [.lit (.bool true)], args := [d1, d2] }
  | _ => none }
def rulefileOneRow : OpenClaim := { program := "ytbmedgpiphibaaa", sum := "8a7de6f6df58f671a46c94a3c866fd04c3da6f38441416be69525b53b4ca40bf", func := "apogee/apogeelaw14.RulefileOne", spec := "rulefileOne", unfollowed := true, recurses := true, apart := false }
def RulefileOneSaid : Prop := rulefileOneRow.holds Try.pinned (OpenSpec.ofChange rulefileOneSpec)

/-- ITS FALSE NEIGHBOUR: 'it returns false'. Refute it at one input. -/
def rulefileOneWrong : ChangeSpec := { name := "rulefileOne", fn := fun _ => fun
  | [d1, d2] => { results := [.lit (.bool false)], args := [d1, d2] }
  | _ => none }
def RulefileOneWrongFalsely : Prop := rulefileOneRow.holds Try.pinned (OpenSpec.ofChange rulefileOneWrong)

/- THE SECOND FORM. 'bulk': how many values and letters a reading holds, each counted each time it is reached (what is shared counts as often as it is met; a slice's spare places count too). A statement '..UptoSaid' is the law's where the arguments, and the package variables that the reading takes, are together of bulk at most 1048576: NARROWER than '..Said'. Prove '..Said' where nothing that the law and all that it calls make is longer than what came in: it says more and counts as full. Else prove '..UptoSaid'. A law counts once. -/
mutual
def uptoBulk {H : Type} : DataW H → Nat
  | .lit (.string bytes) => bytes.length + 1
  | .lit _ => 1
  | .nil => 1
  | .ptr d => uptoBulk d + 1
  | .slice elems spare => uptoBulkAll elems + uptoBulkAll spare + 1
  | .agg parts => uptoBulkAll parts + 1
  | .iface _ d => uptoBulk d + 1
  | .map entries => uptoBulkEntries entries + 1
  | .held _ => 1
def uptoBulkAll {H : Type} : List (DataW H) → Nat
  | [] => 0
  | d :: r => uptoBulk d + uptoBulkAll r
def uptoBulkEntries {H : Type} : List (Lit × DataW H) → Nat
  | [] => 0
  | x :: r => uptoBulkEntry x + uptoBulkEntries r
def uptoBulkEntry {H : Type} : Lit × DataW H → Nat
  | (.string bytes, d) => bytes.length + uptoBulk d + 1
  | (_, d) => uptoBulk d + 1
 end
def uptoSmall : (H : Type) → List (DataW H) → Bool := fun _ ds => decide (uptoBulkAll ds ≤ 1048576)
def OpenSpec.upto (s : _root_.Go.ChangeSpec) : _root_.Go.OpenSpec := { _root_.Go.OpenSpec.ofChange s with cond := some uptoSmall }

/-- 'apogeelaw14.RulefilePrints', WHERE WHAT IT READS IS OF BULK AT MOST 1048576: true; the input reads as it did. -/
def rulefilePrintsUptoRow : OpenClaim := { program := "ytbmedgpiphibaaa", sum := "8a7de6f6df58f671a46c94a3c866fd04c3da6f38441416be69525b53b4ca40bf", func := "apogee/apogeelaw14.RulefilePrints", spec := "rulefilePrints", unfollowed := true, recurses := true, apart := false, narrowed := true }
def RulefilePrintsUptoSaid : Prop := rulefilePrintsUptoRow.holds Try.pinned (OpenSpec.upto rulefilePrintsSpec)

/-- 'apogeelaw14.RulefileReads', WHERE WHAT IT READS IS OF BULK AT MOST 1048576: true; the input reads as it did. -/
def rulefileReadsUptoRow : OpenClaim := { program := "ytbmedgpiphibaaa", sum := "8a7de6f6df58f671a46c94a3c866fd04c3da6f38441416be69525b53b4ca40bf", func := "apogee/apogeelaw14.RulefileReads", spec := "rulefileReads", unfollowed := true, recurses := true, apart := false, narrowed := true }
def RulefileReadsUptoSaid : Prop := rulefileReadsUptoRow.holds Try.pinned (OpenSpec.upto rulefileReadsSpec)

/-- 'apogeelaw14.RulefileCuts', WHERE WHAT IT READS IS OF BULK AT MOST 1048576: true; the input reads as it did. -/
def rulefileCutsUptoRow : OpenClaim := { program := "ytbmedgpiphibaaa", sum := "8a7de6f6df58f671a46c94a3c866fd04c3da6f38441416be69525b53b4ca40bf", func := "apogee/apogeelaw14.RulefileCuts", spec := "rulefileCuts", unfollowed := true, recurses := true, apart := false, narrowed := true }
def RulefileCutsUptoSaid : Prop := rulefileCutsUptoRow.holds Try.pinned (OpenSpec.upto rulefileCutsSpec)

/-- 'apogeelaw14.RulefileTurns', WHERE WHAT IT READS IS OF BULK AT MOST 1048576: true; the input reads as it did. -/
def rulefileTurnsUptoRow : OpenClaim := { program := "ytbmedgpiphibaaa", sum := "8a7de6f6df58f671a46c94a3c866fd04c3da6f38441416be69525b53b4ca40bf", func := "apogee/apogeelaw14.RulefileTurns", spec := "rulefileTurns", unfollowed := true, recurses := true, apart := false, narrowed := true }
def RulefileTurnsUptoSaid : Prop := rulefileTurnsUptoRow.holds Try.pinned (OpenSpec.upto rulefileTurnsSpec)

/-- 'apogeelaw14.RulefileOne', WHERE WHAT IT READS IS OF BULK AT MOST 1048576: true; the input reads as it did. -/
def rulefileOneUptoRow : OpenClaim := { program := "ytbmedgpiphibaaa", sum := "8a7de6f6df58f671a46c94a3c866fd04c3da6f38441416be69525b53b4ca40bf", func := "apogee/apogeelaw14.RulefileOne", spec := "rulefileOne", unfollowed := true, recurses := true, apart := false, narrowed := true }
def RulefileOneUptoSaid : Prop := rulefileOneUptoRow.holds Try.pinned (OpenSpec.upto rulefileOneSpec)

end Rows
end Go.Proofs.Ytbmedgpiphibaaa
