/-
  No cell of these rows narrows 'for every input' (looked for: loops, veiled, ifaces, maps, wideKeys, modest, calm, conditions, laid).
  DERIVED. THE GIVEN ROWS OF THIS SEAT. 5 by the template 'for every input the law returns true; each argument reads behind the call as it read before'; 0 by the template 'total and deterministic' (their statements: YtnldgacamgjpnaaTotals.lean).
  GIVEN WITH THE SEED: the statements are not yours to turn. If you find one false, say at which input.
  Laid BY PROGRAM, IN A SANDBOX (cutbox-rows.mjs): the forced cells as the released guide's own fill.sh prints them over the translation 9dd2864eb76bc355… (all of the seat's roots in one cut). By AI agents, Wed Nov 11 2026. No macro, syntax, notation, axiom, sorry.
-/
import Derived.Test.YtnldgacamgjpnaaChecked
import GoSem.Claim
import GoSem.ClaimJoined
import GoSem.ClaimMapViews
import Derived.JoinedTies
import Derived.KernelRfl
namespace Go.Proofs.Ytnldgacamgjpnaa
/- THE CELL 'sum', in the pinned program and in every row, IS THE sha256 OF THE DUMP (.gsa) THAT YtnldgacamgjpnaaProg.lean LOADS. Nothing in Lean hashes anything: it is a label: what it is worth is what the hold of that sum in a sandbox is worth. -/
noncomputable def Try.pinned : Pinned := { name := "ytnldgacamgjpnaa", sum := "9dd2864eb76bc3555e38b5cde45a1fb69580dd164e99a081957aa403a6a9836e", checked := Try.checked }
namespace Rows
def none {H : Type} : Left H := { results := [], args := [] }

/-- 'apogeelaw18.ImpactSure': WHATEVER THE INPUT: true; the input reads as it did. -/
def impactSureSpec : ChangeSpec := { name := "impactSure", fn := fun _ => fun
  | [d1, d2, d3, d4] => { results := [.lit (.bool true)], args := [d1, d2, d3, d4] }
  | _ => none }
def impactSureRow : OpenClaim := { program := "ytnldgacamgjpnaa", sum := "9dd2864eb76bc3555e38b5cde45a1fb69580dd164e99a081957aa403a6a9836e", func := "apogee/apogeelaw18.ImpactSure", spec := "impactSure", inPlace := ["math/bits.Add64"], apart := false }
def ImpactSureSaid : Prop := impactSureRow.holds Try.pinned (OpenSpec.ofChange impactSureSpec)

/-- ITS FALSE NEIGHBOUR: 'it returns false'. Refute it at one input. -/
def impactSureWrong : ChangeSpec := { name := "impactSure", fn := fun _ => fun
  | [d1, d2, d3, d4] => { results := [.lit (.bool false)], args := [d1, d2, d3, d4] }
  | _ => none }
def ImpactSureWrongFalsely : Prop := impactSureRow.holds Try.pinned (OpenSpec.ofChange impactSureWrong)

/-- 'apogeelaw18.ImpactIn': WHATEVER THE INPUT: true; the input reads as it did. -/
def impactInSpec : ChangeSpec := { name := "impactIn", fn := fun _ => fun
  | [d1, d2, d3, d4, d5] => { results := [.lit (.bool true)], args := [d1, d2, d3, d4, d5] }
  | _ => none }
def impactInRow : OpenClaim := { program := "ytnldgacamgjpnaa", sum := "9dd2864eb76bc3555e38b5cde45a1fb69580dd164e99a081957aa403a6a9836e", func := "apogee/apogeelaw18.ImpactIn", spec := "impactIn", inPlace := ["math/bits.Add64"], apart := false }
def ImpactInSaid : Prop := impactInRow.holds Try.pinned (OpenSpec.ofChange impactInSpec)

/-- ITS FALSE NEIGHBOUR: 'it returns false'. Refute it at one input. -/
def impactInWrong : ChangeSpec := { name := "impactIn", fn := fun _ => fun
  | [d1, d2, d3, d4, d5] => { results := [.lit (.bool false)], args := [d1, d2, d3, d4, d5] }
  | _ => none }
def ImpactInWrongFalsely : Prop := impactInRow.holds Try.pinned (OpenSpec.ofChange impactInWrong)

/-- 'apogeelaw18.ImpactShift': WHATEVER THE INPUT: true; the input reads as it did. -/
def impactShiftSpec : ChangeSpec := { name := "impactShift", fn := fun _ => fun
  | [d1, d2, d3, d4, d5] => { results := [.lit (.bool true)], args := [d1, d2, d3, d4, d5] }
  | _ => none }
def impactShiftRow : OpenClaim := { program := "ytnldgacamgjpnaa", sum := "9dd2864eb76bc3555e38b5cde45a1fb69580dd164e99a081957aa403a6a9836e", func := "apogee/apogeelaw18.ImpactShift", spec := "impactShift", inPlace := ["math/bits.Add64"], apart := false }
def ImpactShiftSaid : Prop := impactShiftRow.holds Try.pinned (OpenSpec.ofChange impactShiftSpec)

/-- ITS FALSE NEIGHBOUR: 'it returns false'. Refute it at one input. -/
def impactShiftWrong : ChangeSpec := { name := "impactShift", fn := fun _ => fun
  | [d1, d2, d3, d4, d5] => { results := [.lit (.bool false)], args := [d1, d2, d3, d4, d5] }
  | _ => none }
def ImpactShiftWrongFalsely : Prop := impactShiftRow.holds Try.pinned (OpenSpec.ofChange impactShiftWrong)

/-- 'apogeelaw18.ImpactGoes': WHATEVER THE INPUT: true; the input reads as it did. -/
def impactGoesSpec : ChangeSpec := { name := "impactGoes", fn := fun _ => fun
  | [d1, d2] => { results := [.lit (.bool true)], args := [d1, d2] }
  | _ => none }
def impactGoesRow : OpenClaim := { program := "ytnldgacamgjpnaa", sum := "9dd2864eb76bc3555e38b5cde45a1fb69580dd164e99a081957aa403a6a9836e", func := "apogee/apogeelaw18.ImpactGoes", spec := "impactGoes", inPlace := ["math/bits.Add64"], apart := false }
def ImpactGoesSaid : Prop := impactGoesRow.holds Try.pinned (OpenSpec.ofChange impactGoesSpec)

/-- ITS FALSE NEIGHBOUR: 'it returns false'. Refute it at one input. -/
def impactGoesWrong : ChangeSpec := { name := "impactGoes", fn := fun _ => fun
  | [d1, d2] => { results := [.lit (.bool false)], args := [d1, d2] }
  | _ => none }
def ImpactGoesWrongFalsely : Prop := impactGoesRow.holds Try.pinned (OpenSpec.ofChange impactGoesWrong)

/-- 'apogeelaw18.ImpactSlack': WHATEVER THE INPUT: true; the input reads as it did. -/
def impactSlackSpec : ChangeSpec := { name := "impactSlack", fn := fun _ => fun
  | [d1, d2, d3, d4] => { results := [.lit (.bool true)], args := [d1, d2, d3, d4] }
  | _ => none }
def impactSlackRow : OpenClaim := { program := "ytnldgacamgjpnaa", sum := "9dd2864eb76bc3555e38b5cde45a1fb69580dd164e99a081957aa403a6a9836e", func := "apogee/apogeelaw18.ImpactSlack", spec := "impactSlack", inPlace := ["math/bits.Add64"], apart := false }
def ImpactSlackSaid : Prop := impactSlackRow.holds Try.pinned (OpenSpec.ofChange impactSlackSpec)

/-- ITS FALSE NEIGHBOUR: 'it returns false'. Refute it at one input. -/
def impactSlackWrong : ChangeSpec := { name := "impactSlack", fn := fun _ => fun
  | [d1, d2, d3, d4] => { results := [.lit (.bool false)], args := [d1, d2, d3, d4] }
  | _ => none }
def ImpactSlackWrongFalsely : Prop := impactSlackRow.holds Try.pinned (OpenSpec.ofChange impactSlackWrong)

/- THE SECOND FORM. 'bulk': how many values and letters a reading holds, each counted each time it is reached (what is shared counts as often as it is met; a slice's spare places count too). A statement '..UptoSaid' is the law's where the arguments, and the package variables that the reading takes, are together of bulk at most 1048576: NARROWER than '..Said'. Prove '..Said' where nothing that the law and all that it calls make is longer than what came in: it says more and counts as full. Else prove '..UptoSaid'. A law counts once. -/
mutual
def uptoBulk {H : Type} : DataW H → Nat
  | .lit (.string bytes) => bytes.length + 1
  | .lit _ => 1
  | .nil => 1
  | .ptr d => uptoBulk d + 1
  | .slice elems spare => uptoBulkAll elems + uptoBulkAll spare + 1
  | .agg parts => uptoBulkAll parts + 1
  | .iface _ d => uptoBulk d + 1
  | .map entries => uptoBulkEntries entries + 1
  | .held _ => 1
def uptoBulkAll {H : Type} : List (DataW H) → Nat
  | [] => 0
  | d :: r => uptoBulk d + uptoBulkAll r
def uptoBulkEntries {H : Type} : List (Lit × DataW H) → Nat
  | [] => 0
  | x :: r => uptoBulkEntry x + uptoBulkEntries r
def uptoBulkEntry {H : Type} : Lit × DataW H → Nat
  | (.string bytes, d) => bytes.length + uptoBulk d + 1
  | (_, d) => uptoBulk d + 1
 end
def uptoSmall : (H : Type) → List (DataW H) → Bool := fun _ ds => decide (uptoBulkAll ds ≤ 1048576)
def OpenSpec.upto (s : _root_.Go.ChangeSpec) : _root_.Go.OpenSpec := { _root_.Go.OpenSpec.ofChange s with cond := some uptoSmall }

/-- 'apogeelaw18.ImpactSure', WHERE WHAT IT READS IS OF BULK AT MOST 1048576: true; the input reads as it did. -/
def impactSureUptoRow : OpenClaim := { program := "ytnldgacamgjpnaa", sum := "9dd2864eb76bc3555e38b5cde45a1fb69580dd164e99a081957aa403a6a9836e", func := "apogee/apogeelaw18.ImpactSure", spec := "impactSure", inPlace := ["math/bits.Add64"], apart := false, narrowed := true }
def ImpactSureUptoSaid : Prop := impactSureUptoRow.holds Try.pinned (OpenSpec.upto impactSureSpec)

/-- 'apogeelaw18.ImpactIn', WHERE WHAT IT READS IS OF BULK AT MOST 1048576: true; the input reads as it did. -/
def impactInUptoRow : OpenClaim := { program := "ytnldgacamgjpnaa", sum := "9dd2864eb76bc3555e38b5cde45a1fb69580dd164e99a081957aa403a6a9836e", func := "apogee/apogeelaw18.ImpactIn", spec := "impactIn", inPlace := ["math/bits.Add64"], apart := false, narrowed := true }
def ImpactInUptoSaid : Prop := impactInUptoRow.holds Try.pinned (OpenSpec.upto impactInSpec)

/-- 'apogeelaw18.ImpactShift', WHERE WHAT IT READS IS OF BULK AT MOST 1048576: true; the input reads as it did. -/
def impactShiftUptoRow : OpenClaim := { program := "ytnldgacamgjpnaa", sum := "9dd2864eb76bc3555e38b5cde45a1fb69580dd164e99a081957aa403a6a9836e", func := "apogee/apogeelaw18.ImpactShift", spec := "impactShift", inPlace := ["math/bits.Add64"], apart := false, narrowed := true }
def ImpactShiftUptoSaid : Prop := impactShiftUptoRow.holds Try.pinned (OpenSpec.upto impactShiftSpec)

/-- 'apogeelaw18.ImpactGoes', WHERE WHAT IT READS IS OF BULK AT MOST 1048576: true; the input reads as it did. -/
def impactGoesUptoRow : OpenClaim := { program := "ytnldgacamgjpnaa", sum := "9dd2864eb76bc3555e38b5cde45a1fb69580dd164e99a081957aa403a6a9836e", func := "apogee/apogeelaw18.ImpactGoes", spec := "impactGoes", inPlace := ["math/bits.Add64"], apart := false, narrowed := true }
def ImpactGoesUptoSaid : Prop := impactGoesUptoRow.holds Try.pinned (OpenSpec.upto impactGoesSpec)

/-- 'apogeelaw18.ImpactSlack', WHERE WHAT IT READS IS OF BULK AT MOST 1048576: true; the input reads as it did. -/
def impactSlackUptoRow : OpenClaim := { program := "ytnldgacamgjpnaa", sum := "9dd2864eb76bc3555e38b5cde45a1fb69580dd164e99a081957aa403a6a9836e", func := "apogee/apogeelaw18.ImpactSlack", spec := "impactSlack", inPlace := ["math/bits.Add64"], apart := false, narrowed := true }
def ImpactSlackUptoSaid : Prop := impactSlackUptoRow.holds Try.pinned (OpenSpec.upto impactSlackSpec)

end Rows
end Go.Proofs.Ytnldgacamgjpnaa
