/-
  No cell of these rows narrows 'for every input' (looked for: loops, veiled, ifaces, maps, wideKeys, modest, calm, conditions, laid).
  DERIVED. THE GIVEN ROWS OF THIS SEAT. 5 by the template 'for every input the law returns true; each argument reads behind the call as it read before'; 0 by the template 'total and deterministic' (their statements: YtffiilnmfmkpmaaTotals.lean).
  GIVEN WITH THE SEED: the statements are not yours to turn. If you find one false, say at which input.
  Laid BY PROGRAM, IN A SANDBOX (cutbox-rows.mjs): the forced cells as the released guide's own fill.sh prints them over the translation 1c74c2d15d7c2d39… (all of the seat's roots in one cut). By AI agents, Wed Nov 11 2026. No macro, syntax, notation, axiom, sorry.
-/
import Derived.Test.YtffiilnmfmkpmaaChecked
import GoSem.Claim
import GoSem.ClaimJoined
import GoSem.ClaimMapViews
import Derived.JoinedTies
import Derived.KernelRfl
namespace Go.Proofs.Ytffiilnmfmkpmaa
/- THE CELL 'sum', in the pinned program and in every row, IS THE sha256 OF THE DUMP (.gsa) THAT YtffiilnmfmkpmaaProg.lean LOADS. Nothing in Lean hashes anything: it is a label: what it is worth is what the hold of that sum in a sandbox is worth. -/
noncomputable def Try.pinned : Pinned := { name := "ytffiilnmfmkpmaa", sum := "1c74c2d15d7c2d396b2025c2a340d5fe78f97dab4a08b976d40ab96fd21ff1dc", checked := Try.checked }
namespace Rows
def none {H : Type} : Left H := { results := [], args := [] }

/-- 'apogeelaw13.RulesTells': WHATEVER THE INPUT: true; the input reads as it did. -/
def rulesTellsSpec : ChangeSpec := { name := "rulesTells", fn := fun _ => fun
  | [d1, d2] => { results := [.lit (.bool true)], args := [d1, d2] }
  | _ => none }
def rulesTellsRow : OpenClaim := { program := "ytffiilnmfmkpmaa", sum := "1c74c2d15d7c2d396b2025c2a340d5fe78f97dab4a08b976d40ab96fd21ff1dc", func := "apogee/apogeelaw13.RulesTells", spec := "rulesTells", unfollowed := true, recurses := true, apart := false }
def RulesTellsSaid : Prop := rulesTellsRow.holds Try.pinned (OpenSpec.ofChange rulesTellsSpec)

/-- ITS FALSE NEIGHBOUR: 'it returns false'. Refute it at one input. -/
def rulesTellsWrong : ChangeSpec := { name := "rulesTells", fn := fun _ => fun
  | [d1, d2] => { results := [.lit (.bool false)], args := [d1, d2] }
  | _ => none }
def RulesTellsWrongFalsely : Prop := rulesTellsRow.holds Try.pinned (OpenSpec.ofChange rulesTellsWrong)

/-- 'apogeelaw13.RulesSame': WHATEVER THE INPUT: true; the input reads as it did. -/
def rulesSameSpec : ChangeSpec := { name := "rulesSame", fn := fun _ => fun
  | [d1, d2] => { results := [.lit (.bool true)], args := [d1, d2] }
  | _ => none }
def rulesSameRow : OpenClaim := { program := "ytffiilnmfmkpmaa", sum := "1c74c2d15d7c2d396b2025c2a340d5fe78f97dab4a08b976d40ab96fd21ff1dc", func := "apogee/apogeelaw13.RulesSame", spec := "rulesSame", unfollowed := true, recurses := true, apart := false }
def RulesSameSaid : Prop := rulesSameRow.holds Try.pinned (OpenSpec.ofChange rulesSameSpec)

/-- ITS FALSE NEIGHBOUR: 'it returns false'. Refute it at one input. -/
def rulesSameWrong : ChangeSpec := { name := "rulesSame", fn := fun _ => fun
  | [d1, d2] => { results := [.lit (.bool false)], args := [d1, d2] }
  | _ => none }
def RulesSameWrongFalsely : Prop := rulesSameRow.holds Try.pinned (OpenSpec.ofChange rulesSameWrong)

/-- 'apogeelaw13.RulesFirst': WHATEVER THE INPUT: true; the input reads as it did. -/
def rulesFirstSpec : ChangeSpec := { name := "rulesFirst", fn := fun _ => fun
  | [d1, d2, d3] => { results := [.lit (.bool true)], args := [d1, d2, d3] }
  | _ => none }
def rulesFirstRow : OpenClaim := { program := "ytffiilnmfmkpmaa", sum := "1c74c2d15d7c2d396b2025c2a340d5fe78f97dab4a08b976d40ab96fd21ff1dc", func := "apogee/apogeelaw13.RulesFirst", spec := "rulesFirst", unfollowed := true, recurses := true, apart := false }
def RulesFirstSaid : Prop := rulesFirstRow.holds Try.pinned (OpenSpec.ofChange rulesFirstSpec)

/-- ITS FALSE NEIGHBOUR: 'it returns false'. Refute it at one input. -/
def rulesFirstWrong : ChangeSpec := { name := "rulesFirst", fn := fun _ => fun
  | [d1, d2, d3] => { results := [.lit (.bool false)], args := [d1, d2, d3] }
  | _ => none }
def RulesFirstWrongFalsely : Prop := rulesFirstRow.holds Try.pinned (OpenSpec.ofChange rulesFirstWrong)

/-- 'apogeelaw13.RulesWindow': WHATEVER THE INPUT: true; the input reads as it did. -/
def rulesWindowSpec : ChangeSpec := { name := "rulesWindow", fn := fun _ => fun
  | [d] => { results := [.lit (.bool true)], args := [d] }
  | _ => none }
def rulesWindowRow : OpenClaim := { program := "ytffiilnmfmkpmaa", sum := "1c74c2d15d7c2d396b2025c2a340d5fe78f97dab4a08b976d40ab96fd21ff1dc", func := "apogee/apogeelaw13.RulesWindow", spec := "rulesWindow", unfollowed := true, recurses := true, apart := false }
def RulesWindowSaid : Prop := rulesWindowRow.holds Try.pinned (OpenSpec.ofChange rulesWindowSpec)

/-- ITS FALSE NEIGHBOUR: 'it returns false'. Refute it at one input. -/
def rulesWindowWrong : ChangeSpec := { name := "rulesWindow", fn := fun _ => fun
  | [d] => { results := [.lit (.bool false)], args := [d] }
  | _ => none }
def RulesWindowWrongFalsely : Prop := rulesWindowRow.holds Try.pinned (OpenSpec.ofChange rulesWindowWrong)

/-- 'apogeelaw13.RulesPhases': WHATEVER THE INPUT: true; the input reads as it did. -/
def rulesPhasesSpec : ChangeSpec := { name := "rulesPhases", fn := fun _ => fun
  | [d1, d2] => { results := [.lit (.bool true)], args := [d1, d2] }
  | _ => none }
def rulesPhasesRow : OpenClaim := { program := "ytffiilnmfmkpmaa", sum := "1c74c2d15d7c2d396b2025c2a340d5fe78f97dab4a08b976d40ab96fd21ff1dc", func := "apogee/apogeelaw13.RulesPhases", spec := "rulesPhases", unfollowed := true, recurses := true, apart := false }
def RulesPhasesSaid : Prop := rulesPhasesRow.holds Try.pinned (OpenSpec.ofChange rulesPhasesSpec)

/-- ITS FALSE NEIGHBOUR: 'it returns false'. Refute it at one input. -/
def rulesPhasesWrong : ChangeSpec := { name := "rulesPhases", fn := fun _ => fun
  | [d1, d2] => { results := [.lit (.bool false)], args := [d1, d2] }
  | _ => none }
def RulesPhasesWrongFalsely : Prop := rulesPhasesRow.holds Try.pinned (OpenSpec.ofChange rulesPhasesWrong)

/- THE SECOND FORM. 'bulk': how many values and letters a reading holds, each counted each time it is reached (what is shared counts as often as it is met; a slice's spare places count too). A statement '..UptoSaid' is the law's where the arguments, and the package variables that the reading takes, are together of bulk at most 1048576: NARROWER than '..Said'. Prove '..Said' where nothing that the law and all that it calls make is longer than what came in: it says more and counts as full. Else prove '..UptoSaid'. A law counts once. -/
mutual
def uptoBulk {H : Type} : DataW H → Nat
  | .lit (.string bytes) => bytes.length + 1
  | .lit _ => 1
  | .nil => 1
  | .ptr d => uptoBulk d + 1
  | .slice elems spare => uptoBulkAll elems + uptoBulkAll spare + 1
  | .agg parts => uptoBulkAll parts + 1
  | .iface _ d => uptoBulk d + 1
  | .map entries => uptoBulkEntries entries + 1
  | .held _ => 1
def uptoBulkAll {H : Type} : List (DataW H) → Nat
  | [] => 0
  | d :: r => uptoBulk d + uptoBulkAll r
def uptoBulkEntries {H : Type} : List (Lit × DataW H) → Nat
  | [] => 0
  | x :: r => uptoBulkEntry x + uptoBulkEntries r
def uptoBulkEntry {H : Type} : Lit × DataW H → Nat
  | (.string bytes, d) => bytes.length + uptoBulk d + 1
  | (_, d) => uptoBulk d + 1
 end
def uptoSmall : (H : Type) → List (DataW H) → Bool := fun _ ds => decide (uptoBulkAll ds ≤ 1048576)
def OpenSpec.upto (s : _root_.Go.ChangeSpec) : _root_.Go.OpenSpec := { _root_.Go.OpenSpec.ofChange s with cond := some uptoSmall }

/-- 'apogeelaw13.RulesTells', WHERE WHAT IT READS IS OF BULK AT MOST 1048576: true; the input reads as it did. -/
def rulesTellsUptoRow : OpenClaim := { program := "ytffiilnmfmkpmaa", sum := "1c74c2d15d7c2d396b2025c2a340d5fe78f97dab4a08b976d40ab96fd21ff1dc", func := "apogee/apogeelaw13.RulesTells", spec := "rulesTells", unfollowed := true, recurses := true, apart := false, narrowed := true }
def RulesTellsUptoSaid : Prop := rulesTellsUptoRow.holds Try.pinned (OpenSpec.upto rulesTellsSpec)

/-- 'apogeelaw13.RulesSame', WHERE WHAT IT READS IS OF BULK AT MOST 1048576: true; the input reads as it did. -/
def rulesSameUptoRow : OpenClaim := { program := "ytffiilnmfmkpmaa", sum := "1c74c2d15d7c2d396b2025c2a340d5fe78f97dab4a08b976d40ab96fd21ff1dc", func := "apogee/apogeelaw13.RulesSame", spec := "rulesSame", unfollowed := true, recurses := true, apart := false, narrowed := true }
def RulesSameUptoSaid : Prop := rulesSameUptoRow.holds Try.pinned (OpenSpec.upto rulesSameSpec)

/-- 'apogeelaw13.RulesFirst', WHERE WHAT IT READS IS OF BULK AT MOST 1048576: true; the input reads as it did. -/
def rulesFirstUptoRow : OpenClaim := { program := "ytffiilnmfmkpmaa", sum := "1c74c2d15d7c2d396b2025c2a340d5fe78f97dab4a08b976d40ab96fd21ff1dc", func := "apogee/apogeelaw13.RulesFirst", spec := "rulesFirst", unfollowed := true, recurses := true, apart := false, narrowed := true }
def RulesFirstUptoSaid : Prop := rulesFirstUptoRow.holds Try.pinned (OpenSpec.upto rulesFirstSpec)

/-- 'apogeelaw13.RulesWindow', WHERE WHAT IT READS IS OF BULK AT MOST 1048576: true; the input reads as it did. -/
def rulesWindowUptoRow : OpenClaim := { program := "ytffiilnmfmkpmaa", sum := "1c74c2d15d7c2d396b2025c2a340d5fe78f97dab4a08b976d40ab96fd21ff1dc", func := "apogee/apogeelaw13.RulesWindow", spec := "rulesWindow", unfollowed := true, recurses := true, apart := false, narrowed := true }
def RulesWindowUptoSaid : Prop := rulesWindowUptoRow.holds Try.pinned (OpenSpec.upto rulesWindowSpec)

/-- 'apogeelaw13.RulesPhases', WHERE WHAT IT READS IS OF BULK AT MOST 1048576: true; the input reads as it did. -/
def rulesPhasesUptoRow : OpenClaim := { program := "ytffiilnmfmkpmaa", sum := "1c74c2d15d7c2d396b2025c2a340d5fe78f97dab4a08b976d40ab96fd21ff1dc", func := "apogee/apogeelaw13.RulesPhases", spec := "rulesPhases", unfollowed := true, recurses := true, apart := false, narrowed := true }
def RulesPhasesUptoSaid : Prop := rulesPhasesUptoRow.holds Try.pinned (OpenSpec.upto rulesPhasesSpec)

end Rows
end Go.Proofs.Ytffiilnmfmkpmaa
