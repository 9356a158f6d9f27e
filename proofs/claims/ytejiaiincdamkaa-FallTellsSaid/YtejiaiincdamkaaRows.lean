/-
  No cell of these rows narrows 'for every input' (looked for: loops, veiled, ifaces, maps, wideKeys, modest, calm, conditions, laid).
  DERIVED. THE GIVEN ROWS OF THIS SEAT. 6 by the template 'for every input the law returns true; each argument reads behind the call as it read before'; 0 by the template 'total and deterministic' (their statements: YtejiaiincdamkaaTotals.lean).
  GIVEN WITH THE SEED: the statements are not yours to turn. If you find one false, say at which input.
  Laid BY PROGRAM, IN A SANDBOX (cutbox-rows.mjs): the forced cells as the released guide's own fill.sh prints them over the translation bc80d857e922f78e… (all of the seat's roots in one cut). By AI agents, Wed Nov 11 2026. No macro, syntax, notation, axiom, sorry.
-/
import Derived.Test.YtejiaiincdamkaaChecked
import GoSem.Claim
import GoSem.ClaimJoined
import GoSem.ClaimMapViews
import Derived.JoinedTies
import Derived.KernelRfl
namespace Go.Proofs.Ytejiaiincdamkaa
/- THE CELL 'sum', in the pinned program and in every row, IS THE sha256 OF THE DUMP (.gsa) THAT YtejiaiincdamkaaProg.lean LOADS. Nothing in Lean hashes anything: it is a label: what it is worth is what the hold of that sum in a sandbox is worth. -/
noncomputable def Try.pinned : Pinned := { name := "ytejiaiincdamkaa", sum := "bc80d857e922f78e930887e04c37d40537040127903f6bf90a3ec023e9ecac5c", checked := Try.checked }
namespace Rows
def none {H : Type} : Left H := { results := [], args := [] }

/-- 'apogeelaw17.FallTells': WHATEVER THE INPUT: true; the input reads as it did. -/
def fallTellsSpec : ChangeSpec := { name := "fallTells", fn := fun _ => fun
  | [d1, d2, d3, d4] => { results := [.lit (.bool true)], args := [d1, d2, d3, d4] }
  | _ => none }
def fallTellsRow : OpenClaim := { program := "ytejiaiincdamkaa", sum := "bc80d857e922f78e930887e04c37d40537040127903f6bf90a3ec023e9ecac5c", func := "apogee/apogeelaw17.FallTells", spec := "fallTells", inPlace := ["math/bits.Add64"], apart := false }
def FallTellsSaid : Prop := fallTellsRow.holds Try.pinned (OpenSpec.ofChange fallTellsSpec)

/-- ITS FALSE NEIGHBOUR: 'it returns false'. Refute it at one input. -/
def fallTellsWrong : ChangeSpec := { name := "fallTells", fn := fun _ => fun
  | [d1, d2, d3, d4] => { results := [.lit (.bool false)], args := [d1, d2, d3, d4] }
  | _ => none }
def FallTellsWrongFalsely : Prop := fallTellsRow.holds Try.pinned (OpenSpec.ofChange fallTellsWrong)

/-- 'apogeelaw17.FallSure': WHATEVER THE INPUT: true; the input reads as it did. -/
def fallSureSpec : ChangeSpec := { name := "fallSure", fn := fun _ => fun
  | [d1, d2, d3] => { results := [.lit (.bool true)], args := [d1, d2, d3] }
  | _ => none }
def fallSureRow : OpenClaim := { program := "ytejiaiincdamkaa", sum := "bc80d857e922f78e930887e04c37d40537040127903f6bf90a3ec023e9ecac5c", func := "apogee/apogeelaw17.FallSure", spec := "fallSure", inPlace := ["math/bits.Add64"], apart := false }
def FallSureSaid : Prop := fallSureRow.holds Try.pinned (OpenSpec.ofChange fallSureSpec)

/-- ITS FALSE NEIGHBOUR: 'it returns false'. Refute it at one input. -/
def fallSureWrong : ChangeSpec := { name := "fallSure", fn := fun _ => fun
  | [d1, d2, d3] => { results := [.lit (.bool false)], args := [d1, d2, d3] }
  | _ => none }
def FallSureWrongFalsely : Prop := fallSureRow.holds Try.pinned (OpenSpec.ofChange fallSureWrong)

/-- 'apogeelaw17.FallRises': WHATEVER THE INPUT: true; the input reads as it did. -/
def fallRisesSpec : ChangeSpec := { name := "fallRises", fn := fun _ => fun
  | [d1, d2, d3, d4, d5] => { results := [.lit (.bool true)], args := [d1, d2, d3, d4, d5] }
  | _ => none }
def fallRisesRow : OpenClaim := { program := "ytejiaiincdamkaa", sum := "bc80d857e922f78e930887e04c37d40537040127903f6bf90a3ec023e9ecac5c", func := "apogee/apogeelaw17.FallRises", spec := "fallRises", inPlace := ["math/bits.Add64"], apart := false }
def FallRisesSaid : Prop := fallRisesRow.holds Try.pinned (OpenSpec.ofChange fallRisesSpec)

/-- ITS FALSE NEIGHBOUR: 'it returns false'. Refute it at one input. -/
def fallRisesWrong : ChangeSpec := { name := "fallRises", fn := fun _ => fun
  | [d1, d2, d3, d4, d5] => { results := [.lit (.bool false)], args := [d1, d2, d3, d4, d5] }
  | _ => none }
def FallRisesWrongFalsely : Prop := fallRisesRow.holds Try.pinned (OpenSpec.ofChange fallRisesWrong)

/-- 'apogeelaw17.FallSpan': WHATEVER THE INPUT: true; the input reads as it did. -/
def fallSpanSpec : ChangeSpec := { name := "fallSpan", fn := fun _ => fun
  | [d1, d2, d3, d4, d5, d6] => { results := [.lit (.bool true)], args := [d1, d2, d3, d4, d5, d6] }
  | _ => none }
def fallSpanRow : OpenClaim := { program := "ytejiaiincdamkaa", sum := "bc80d857e922f78e930887e04c37d40537040127903f6bf90a3ec023e9ecac5c", func := "apogee/apogeelaw17.FallSpan", spec := "fallSpan", inPlace := ["math/bits.Add64"], apart := false }
def FallSpanSaid : Prop := fallSpanRow.holds Try.pinned (OpenSpec.ofChange fallSpanSpec)

/-- ITS FALSE NEIGHBOUR: 'it returns false'. Refute it at one input. -/
def fallSpanWrong : ChangeSpec := { name := "fallSpan", fn := fun _ => fun
  | [d1, d2, d3, d4, d5, d6] => { results := [.lit (.bool false)], args := [d1, d2, d3, d4, d5, d6] }
  | _ => none }
def FallSpanWrongFalsely : Prop := fallSpanRow.holds Try.pinned (OpenSpec.ofChange fallSpanWrong)

/-- 'apogeelaw17.FallIn': WHATEVER THE INPUT: true; the input reads as it did. -/
def fallInSpec : ChangeSpec := { name := "fallIn", fn := fun _ => fun
  | [d1, d2, d3, d4, d5, d6, d7] => { results := [.lit (.bool true)], args := [d1, d2, d3, d4, d5, d6, d7] }
  | _ => none }
def fallInRow : OpenClaim := { program := "ytejiaiincdamkaa", sum := "bc80d857e922f78e930887e04c37d40537040127903f6bf90a3ec023e9ecac5c", func := "apogee/apogeelaw17.FallIn", spec := "fallIn", inPlace := ["math/bits.Add64"], apart := false }
def FallInSaid : Prop := fallInRow.holds Try.pinned (OpenSpec.ofChange fallInSpec)

/-- ITS FALSE NEIGHBOUR: 'it returns false'. Refute it at one input. -/
def fallInWrong : ChangeSpec := { name := "fallIn", fn := fun _ => fun
  | [d1, d2, d3, d4, d5, d6, d7] => { results := [.lit (.bool false)], args := [d1, d2, d3, d4, d5, d6, d7] }
  | _ => none }
def FallInWrongFalsely : Prop := fallInRow.holds Try.pinned (OpenSpec.ofChange fallInWrong)

/-- 'apogeelaw17.FallTop': WHATEVER THE INPUT: true; the input reads as it did. -/
def fallTopSpec : ChangeSpec := { name := "fallTop", fn := fun _ => fun
  | [d1, d2, d3, d4] => { results := [.lit (.bool true)], args := [d1, d2, d3, d4] }
  | _ => none }
def fallTopRow : OpenClaim := { program := "ytejiaiincdamkaa", sum := "bc80d857e922f78e930887e04c37d40537040127903f6bf90a3ec023e9ecac5c", func := "apogee/apogeelaw17.FallTop", spec := "fallTop", inPlace := ["math/bits.Add64"], apart := false }
def FallTopSaid : Prop := fallTopRow.holds Try.pinned (OpenSpec.ofChange fallTopSpec)

/-- ITS FALSE NEIGHBOUR: 'it returns false'. Refute it at one input. -/
def fallTopWrong : ChangeSpec := { name := "fallTop", fn := fun _ => fun
  | [d1, d2, d3, d4] => { results := [.lit (.bool false)], args := [d1, d2, d3, d4] }
  | _ => none }
def FallTopWrongFalsely : Prop := fallTopRow.holds Try.pinned (OpenSpec.ofChange fallTopWrong)

/- THE SECOND FORM. 'bulk': how many values and letters a reading holds, each counted each time it is reached (what is shared counts as often as it is met; a slice's spare places count too). A statement '..UptoSaid' is the law's where the arguments, and the package variables that the reading takes, are together of bulk at most 1048576: NARROWER than '..Said'. Prove '..Said' where nothing that the law and all that it calls make is longer than what came in: it says more and counts as full. Else prove '..UptoSaid'. A law counts once. -/
mutual
def uptoBulk {H : Type} : DataW H → Nat
  | .lit (.string bytes) => bytes.length + 1
  | .lit _ => 1
  | .nil => 1
  | .ptr d => uptoBulk d + 1
  | .slice elems spare => uptoBulkAll elems + uptoBulkAll spare + 1
  | .agg parts => uptoBulkAll parts + 1
  | .iface _ d => uptoBulk d + 1
  | .map entries => uptoBulkEntries entries + 1
  | .held _ => 1
def uptoBulkAll {H : Type} : List (DataW H) → Nat
  | [] => 0
  | d :: r => uptoBulk d + uptoBulkAll r
def uptoBulkEntries {H : Type} : List (Lit × DataW H) → Nat
  | [] => 0
  | x :: r => uptoBulkEntry x + uptoBulkEntries r
def uptoBulkEntry {H : Type} : Lit × DataW H → Nat
  | (.string bytes, d) => bytes.length + uptoBulk d + 1
  | (_, d) => uptoBulk d + 1
 end
def uptoSmall : (H : Type) → List (DataW H) → Bool := fun _ ds => decide (uptoBulkAll ds ≤ 1048576)
def OpenSpec.upto (s : _root_.Go.ChangeSpec) : _root_.Go.OpenSpec := { _root_.Go.OpenSpec.ofChange s with cond := some uptoSmall }

/-- 'apogeelaw17.FallTells', WHERE WHAT IT READS IS OF BULK AT MOST 1048576: true; the input reads as it did. -/
def fallTellsUptoRow : OpenClaim := { program := "ytejiaiincdamkaa", sum := "bc80d857e922f78e930887e04c37d40537040127903f6bf90a3ec023e9ecac5c", func := "apogee/apogeelaw17.FallTells", spec := "fallTells", inPlace := ["math/bits.Add64"], apart := false, narrowed := true }
def FallTellsUptoSaid : Prop := fallTellsUptoRow.holds Try.pinned (OpenSpec.upto fallTellsSpec)

/-- 'apogeelaw17.FallSure', WHERE WHAT IT READS IS OF BULK AT MOST 1048576: true; the input reads as it did. -/
def fallSureUptoRow : OpenClaim := { program := "ytejiaiincdamkaa", sum := "bc80d857e922f78e930887e04c37d40537040127903f6bf90a3ec023e9ecac5c", func := "apogee/apogeelaw17.FallSure", spec := "fallSure", inPlace := ["math/bits.Add64"], apart := false, narrowed := true }
def FallSureUptoSaid : Prop := fallSureUptoRow.holds Try.pinned (OpenSpec.upto fallSureSpec)

/-- 'apogeelaw17.FallRises', WHERE WHAT IT READS IS OF BULK AT MOST 1048576: true; the input reads as it did. -/
def fallRisesUptoRow : OpenClaim := { program := "ytejiaiincdamkaa", sum := "bc80d857e922f78e930887e04c37d40537040127903f6bf90a3ec023e9ecac5c", func := "apogee/apogeelaw17.FallRises", spec := "fallRises", inPlace := ["math/bits.Add64"], apart := false, narrowed := true }
def FallRisesUptoSaid : Prop := fallRisesUptoRow.holds Try.pinned (OpenSpec.upto fallRisesSpec)

/-- 'apogeelaw17.FallSpan', WHERE WHAT IT READS IS OF BULK AT MOST 1048576: true; the input reads as it did. -/
def fallSpanUptoRow : OpenClaim := { program := "ytejiaiincdamkaa", sum := "bc80d857e922f78e930887e04c37d40537040127903f6bf90a3ec023e9ecac5c", func := "apogee/apogeelaw17.FallSpan", spec := "fallSpan", inPlace := ["math/bits.Add64"], apart := false, narrowed := true }
def FallSpanUptoSaid : Prop := fallSpanUptoRow.holds Try.pinned (OpenSpec.upto fallSpanSpec)

/-- 'apogeelaw17.FallIn', WHERE WHAT IT READS IS OF BULK AT MOST 1048576: true; the input reads as it did. -/
def fallInUptoRow : OpenClaim := { program := "ytejiaiincdamkaa", sum := "bc80d857e922f78e930887e04c37d40537040127903f6bf90a3ec023e9ecac5c", func := "apogee/apogeelaw17.FallIn", spec := "fallIn", inPlace := ["math/bits.Add64"], apart := false, narrowed := true }
def FallInUptoSaid : Prop := fallInUptoRow.holds Try.pinned (OpenSpec.upto fallInSpec)

/-- 'apogeelaw17.FallTop', WHERE WHAT IT READS IS OF BULK AT MOST 1048576: true; the input reads as it did. -/
def fallTopUptoRow : OpenClaim := { program := "ytejiaiincdamkaa", sum := "bc80d857e922f78e930887e04c37d40537040127903f6bf90a3ec023e9ecac5c", func := "apogee/apogeelaw17.FallTop", spec := "fallTop", inPlace := ["math/bits.Add64"], apart := false, narrowed := true }
def FallTopUptoSaid : Prop := fallTopUptoRow.holds Try.pinned (OpenSpec.upto fallTopSpec)

end Rows
end Go.Proofs.Ytejiaiincdamkaa
