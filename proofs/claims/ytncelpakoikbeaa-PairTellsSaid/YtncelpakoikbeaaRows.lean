/-
  No cell of these rows narrows 'for every input' (looked for: loops, veiled, ifaces, maps, wideKeys, modest, calm, conditions, laid).
  DERIVED. THE GIVEN ROWS OF THIS SEAT. 4 by the template 'for every input the law returns true; each argument reads behind the call as it read before'; 0 by the template 'total and deterministic' (their statements: YtncelpakoikbeaaTotals.lean).
  GIVEN WITH THE SEED: the statements are not yours to turn. If you find one false, say at which input.
  Laid BY PROGRAM, IN A SANDBOX (cutbox-rows.mjs): the forced cells as the released guide's own fill.sh prints them over the translation 675260f501db56d2… (all of the seat's roots in one cut). By AI agents, Wed Nov 11 2026. No macro, syntax, notation, axiom, sorry.
-/
import Derived.Test.YtncelpakoikbeaaChecked
import GoSem.Claim
import GoSem.ClaimJoined
import GoSem.ClaimMapViews
import Derived.JoinedTies
import Derived.KernelRfl
namespace Go.Proofs.Ytncelpakoikbeaa
/- THE CELL 'sum', in the pinned program and in every row, IS THE sha256 OF THE DUMP (.gsa) THAT YtncelpakoikbeaaProg.lean LOADS. Nothing in Lean hashes anything: it is a label: what it is worth is what the hold of that sum in a sandbox is worth. -/
noncomputable def Try.pinned : Pinned := { name := "ytncelpakoikbeaa", sum := "675260f501db56d2bc7d39b5bf3cbcc7e33d5d9d268346030b4179aed8b64318", checked := Try.checked }
namespace Rows
def none {H : Type} : Left H := { results := [], args := [] }

/-- 'apogeelaw16.PairTells': WHATEVER THE INPUT: true; the input reads as it did. -/
def pairTellsSpec : ChangeSpec := { name := "pairTells", fn := fun _ => fun
  | [d1, d2, d3, d4, d5] => { results := [.lit (.bool true)], args := [d1, d2, d3, d4, d5] }
  | _ => none }
def pairTellsRow : OpenClaim := { program := "ytncelpakoikbeaa", sum := "675260f501db56d2bc7d39b5bf3cbcc7e33d5d9d268346030b4179aed8b64318", func := "apogee/apogeelaw16.PairTells", spec := "pairTells", recurses := true, apart := false }
def PairTellsSaid : Prop := pairTellsRow.holds Try.pinned (OpenSpec.ofChange pairTellsSpec)

/-- ITS FALSE NEIGHBOUR: 'it returns false'. Refute it at one input. -/
def pairTellsWrong : ChangeSpec := { name := "pairTells", fn := fun _ => fun
  | [d1, d2, d3, d4, d5] => { results := [.lit (.bool false)], args := [d1, d2, d3, d4, d5] }
  | _ => none }
def PairTellsWrongFalsely : Prop := pairTellsRow.holds Try.pinned (OpenSpec.ofChange pairTellsWrong)

/-- 'apogeelaw16.PairStates': WHATEVER THE INPUT: true; the input reads as it did. -/
def pairStatesSpec : ChangeSpec := { name := "pairStates", fn := fun _ => fun
  | [d] => { results := [.lit (.bool true)], args := [d] }
  | _ => none }
def pairStatesRow : OpenClaim := { program := "ytncelpakoikbeaa", sum := "675260f501db56d2bc7d39b5bf3cbcc7e33d5d9d268346030b4179aed8b64318", func := "apogee/apogeelaw16.PairStates", spec := "pairStates", apart := false }
def PairStatesSaid : Prop := pairStatesRow.holds Try.pinned (OpenSpec.ofChange pairStatesSpec)

/-- ITS FALSE NEIGHBOUR: 'it returns false'. Refute it at one input. -/
def pairStatesWrong : ChangeSpec := { name := "pairStates", fn := fun _ => fun
  | [d] => { results := [.lit (.bool false)], args := [d] }
  | _ => none }
def PairStatesWrongFalsely : Prop := pairStatesRow.holds Try.pinned (OpenSpec.ofChange pairStatesWrong)

/-- 'apogeelaw16.PairEps': WHATEVER THE INPUT: true; the input reads as it did. -/
def pairEpsSpec : ChangeSpec := { name := "pairEps", fn := fun _ => fun
  | [d1, d2, d3, d4] => { results := [.lit (.bool true)], args := [d1, d2, d3, d4] }
  | _ => none }
def pairEpsRow : OpenClaim := { program := "ytncelpakoikbeaa", sum := "675260f501db56d2bc7d39b5bf3cbcc7e33d5d9d268346030b4179aed8b64318", func := "apogee/apogeelaw16.PairEps", spec := "pairEps", apart := false }
def PairEpsSaid : Prop := pairEpsRow.holds Try.pinned (OpenSpec.ofChange pairEpsSpec)

/-- ITS FALSE NEIGHBOUR: 'it returns false'. Refute it at one input. -/
def pairEpsWrong : ChangeSpec := { name := "pairEps", fn := fun _ => fun
  | [d1, d2, d3, d4] => { results := [.lit (.bool false)], args := [d1, d2, d3, d4] }
  | _ => none }
def PairEpsWrongFalsely : Prop := pairEpsRow.holds Try.pinned (OpenSpec.ofChange pairEpsWrong)

/-- 'apogeelaw16.PairHeight': WHATEVER THE INPUT: true; the input reads as it did. -/
def pairHeightSpec : ChangeSpec := { name := "pairHeight", fn := fun _ => fun
  | [d1, d2] => { results := [.lit (.bool true)], args := [d1, d2] }
  | _ => none }
def pairHeightRow : OpenClaim := { program := "ytncelpakoikbeaa", sum := "675260f501db56d2bc7d39b5bf3cbcc7e33d5d9d268346030b4179aed8b64318", func := "apogee/apogeelaw16.PairHeight", spec := "pairHeight", apart := false }
def PairHeightSaid : Prop := pairHeightRow.holds Try.pinned (OpenSpec.ofChange pairHeightSpec)

/-- ITS FALSE NEIGHBOUR: 'it returns false'. Refute it at one input. -/
def pairHeightWrong : ChangeSpec := { name := "pairHeight", fn := fun _ => fun
  | [d1, d2] => { results := [.lit (.bool false)], args := [d1, d2] }
  | _ => none }
def PairHeightWrongFalsely : Prop := pairHeightRow.holds Try.pinned (OpenSpec.ofChange pairHeightWrong)

/- THE SECOND FORM. 'bulk': how many values and letters a reading holds, each counted each time it is reached (what is shared counts as often as it is met; a slice's spare places count too). A statement '..UptoSaid' is the law's where the arguments, and the package variables that the reading takes, are together of bulk at most 1048576: NARROWER than '..Said'. Prove '..Said' where nothing that the law and all that it calls make is longer than what came in: it says more and counts as full. Else prove '..UptoSaid'. A law counts once. -/
mutual
def uptoBulk {H : Type} : DataW H → Nat
  | .lit (.string bytes) => bytes.length + 1
  | .lit _ => 1
  | .nil => 1
  | .ptr d => uptoBulk d + 1
  | .slice elems spare => uptoBulkAll elems + uptoBulkAll spare + 1
  | .agg parts => uptoBulkAll parts + 1
  | .iface _ d => uptoBulk d + 1
  | .map entries => uptoBulkEntries entries + 1
  | .held _ => 1
def uptoBulkAll {H : Type} : List (DataW H) → Nat
  | [] => 0
  | d :: r => uptoBulk d + uptoBulkAll r
def uptoBulkEntries {H : Type} : List (Lit × DataW H) → Nat
  | [] => 0
  | x :: r => uptoBulkEntry x + uptoBulkEntries r
def uptoBulkEntry {H : Type} : Lit × DataW H → Nat
  | (.string bytes, d) => bytes.length + uptoBulk d + 1
  | (_, d) => uptoBulk d + 1
 end
def uptoSmall : (H : Type) → List (DataW H) → Bool := fun _ ds => decide (uptoBulkAll ds ≤ 1048576)
def OpenSpec.upto (s : _root_.Go.ChangeSpec) : _root_.Go.OpenSpec := { _root_.Go.OpenSpec.ofChange s with cond := some uptoSmall }

/-- 'apogeelaw16.PairTells', WHERE WHAT IT READS IS OF BULK AT MOST 1048576: true; the input reads as it did. -/
def pairTellsUptoRow : OpenClaim := { program := "ytncelpakoikbeaa", sum := "675260f501db56d2bc7d39b5bf3cbcc7e33d5d9d268346030b4179aed8b64318", func := "apogee/apogeelaw16.PairTells", spec := "pairTells", recurses := true, apart := false, narrowed := true }
def PairTellsUptoSaid : Prop := pairTellsUptoRow.holds Try.pinned (OpenSpec.upto pairTellsSpec)

/-- 'apogeelaw16.PairStates', WHERE WHAT IT READS IS OF BULK AT MOST 1048576: true; the input reads as it did. -/
def pairStatesUptoRow : OpenClaim := { program := "ytncelpakoikbeaa", sum := "675260f501db56d2bc7d39b5bf3cbcc7e33d5d9d268346030b4179aed8b64318", func := "apogee/apogeelaw16.PairStates", spec := "pairStates", apart := false, narrowed := true }
def PairStatesUptoSaid : Prop := pairStatesUptoRow.holds Try.pinned (OpenSpec.upto pairStatesSpec)

/-- 'apogeelaw16.PairEps', WHERE WHAT IT READS IS OF BULK AT MOST 1048576: true; the input reads as it did. -/
def pairEpsUptoRow : OpenClaim := { program := "ytncelpakoikbeaa", sum := "675260f501db56d2bc7d39b5bf3cbcc7e33d5d9d268346030b4179aed8b64318", func := "apogee/apogeelaw16.PairEps", spec := "pairEps", apart := false, narrowed := true }
def PairEpsUptoSaid : Prop := pairEpsUptoRow.holds Try.pinned (OpenSpec.upto pairEpsSpec)

/-- 'apogeelaw16.PairHeight', WHERE WHAT IT READS IS OF BULK AT MOST 1048576: true; the input reads as it did. -/
def pairHeightUptoRow : OpenClaim := { program := "ytncelpakoikbeaa", sum := "675260f501db56d2bc7d39b5bf3cbcc7e33d5d9d268346030b4179aed8b64318", func := "apogee/apogeelaw16.PairHeight", spec := "pairHeight", apart := false, narrowed := true }
def PairHeightUptoSaid : Prop := pairHeightUptoRow.holds Try.pinned (OpenSpec.upto pairHeightSpec)

end Rows
end Go.Proofs.Ytncelpakoikbeaa
