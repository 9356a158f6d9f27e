/-
  No cell of these rows narrows 'for every input' (looked for: loops, veiled, ifaces, maps, wideKeys, modest, calm, conditions, laid).
  DERIVED. THE GIVEN ROWS OF THIS SEAT. 6 by the template 'for every input the law returns true; each argument reads behind the call as it read before'; 0 by the template 'total and deterministic' (their statements: YtjblhppbjebagaaTotals.lean).
  GIVEN WITH THE SEED: the statements are not yours to turn. If you find one false, say at which input.
  Laid BY PROGRAM, IN A SANDBOX (cutbox-rows.mjs): the forced cells as the released guide's own fill.sh prints them over the translation ef83c346d250b578… (all of the seat's roots in one cut). By AI agents, Wed Nov 11 2026. No macro, syntax, notation, axiom, sorry.
-/
import Derived.Test.YtjblhppbjebagaaChecked
import GoSem.Claim
import GoSem.ClaimJoined
import GoSem.ClaimMapViews
import Derived.JoinedTies
import Derived.KernelRfl
namespace Go.Proofs.Ytjblhppbjebagaa
/- THE CELL 'sum', in the pinned program and in every row, IS THE sha256 OF THE DUMP (.gsa) THAT YtjblhppbjebagaaProg.lean LOADS. Nothing in Lean hashes anything: it is a label: what it is worth is what the hold of that sum in a sandbox is worth. -/
noncomputable def Try.pinned : Pinned := { name := "ytjblhppbjebagaa", sum := "ef83c346d250b57833450a9ec1b47af0f3fa6a036bdae2772724772e8edbb148", checked := Try.checked }
namespace Rows
def none {H : Type} : Left H := { results := [], args := [] }

/-- 'apogeelaw12.BoxTells': WHATEVER THE INPUT: true; the input reads as it did. -/
def boxTellsSpec : ChangeSpec := { name := "boxTells", fn := fun _ => fun
  | [d1, d2, d3, d4] => { results := [.lit (.bool true)], args := [d1, d2, d3, d4] }
  | _ => none }
def boxTellsRow : OpenClaim := { program := "ytjblhppbjebagaa", sum := "ef83c346d250b57833450a9ec1b47af0f3fa6a036bdae2772724772e8edbb148", func := "apogee/apogeelaw12.BoxTells", spec := "boxTells", inPlace := ["math/bits.Add64"], unfollowed := true, recurses := true, apart := false }
def BoxTellsSaid : Prop := boxTellsRow.holds Try.pinned (OpenSpec.ofChange boxTellsSpec)

/-- ITS FALSE NEIGHBOUR: 'it returns false'. Refute it at one input. -/
def boxTellsWrong : ChangeSpec := { name := "boxTells", fn := fun _ => fun
  | [d1, d2, d3, d4] => { results := [.lit (.bool false)], args := [d1, d2, d3, d4] }
  | _ => none }
def BoxTellsWrongFalsely : Prop := boxTellsRow.holds Try.pinned (OpenSpec.ofChange boxTellsWrong)

/-- 'apogeelaw12.BoxMeets': WHATEVER THE INPUT: true; the input reads as it did. -/
def boxMeetsSpec : ChangeSpec := { name := "boxMeets", fn := fun _ => fun
  | [d1, d2, d3] => { results := [.lit (.bool true)], args := [d1, d2, d3] }
  | _ => none }
def boxMeetsRow : OpenClaim := { program := "ytjblhppbjebagaa", sum := "ef83c346d250b57833450a9ec1b47af0f3fa6a036bdae2772724772e8edbb148", func := "apogee/apogeelaw12.BoxMeets", spec := "boxMeets", inPlace := ["math/bits.Add64"], unfollowed := true, recurses := true, apart := false }
def BoxMeetsSaid : Prop := boxMeetsRow.holds Try.pinned (OpenSpec.ofChange boxMeetsSpec)

/-- ITS FALSE NEIGHBOUR: 'it returns false'. Refute it at one input. -/
def boxMeetsWrong : ChangeSpec := { name := "boxMeets", fn := fun _ => fun
  | [d1, d2, d3] => { results := [.lit (.bool false)], args := [d1, d2, d3] }
  | _ => none }
def BoxMeetsWrongFalsely : Prop := boxMeetsRow.holds Try.pinned (OpenSpec.ofChange boxMeetsWrong)

/-- 'apogeelaw12.BoxRelates': WHATEVER THE INPUT: true; the input reads as it did. -/
def boxRelatesSpec : ChangeSpec := { name := "boxRelates", fn := fun _ => fun
  | [d1, d2] => { results := [.lit (.bool true)], args := [d1, d2] }
  | _ => none }
def boxRelatesRow : OpenClaim := { program := "ytjblhppbjebagaa", sum := "ef83c346d250b57833450a9ec1b47af0f3fa6a036bdae2772724772e8edbb148", func := "apogee/apogeelaw12.BoxRelates", spec := "boxRelates", inPlace := ["math/bits.Add64"], unfollowed := true, recurses := true, apart := false }
def BoxRelatesSaid : Prop := boxRelatesRow.holds Try.pinned (OpenSpec.ofChange boxRelatesSpec)

/-- ITS FALSE NEIGHBOUR: 'it returns false'. Refute it at one input. -/
def boxRelatesWrong : ChangeSpec := { name := "boxRelates", fn := fun _ => fun
  | [d1, d2] => { results := [.lit (.bool false)], args := [d1, d2] }
  | _ => none }
def BoxRelatesWrongFalsely : Prop := boxRelatesRow.holds Try.pinned (OpenSpec.ofChange boxRelatesWrong)

/-- 'apogeelaw12.BoxStays': WHATEVER THE INPUT: true; the input reads as it did. -/
def boxStaysSpec : ChangeSpec := { name := "boxStays", fn := fun _ => fun
  | [d1, d2, d3, d4] => { results := [.lit (.bool true)], args := [d1, d2, d3, d4] }
  | _ => none }
def boxStaysRow : OpenClaim := { program := "ytjblhppbjebagaa", sum := "ef83c346d250b57833450a9ec1b47af0f3fa6a036bdae2772724772e8edbb148", func := "apogee/apogeelaw12.BoxStays", spec := "boxStays", inPlace := ["math/bits.Add64"], unfollowed := true, recurses := true, apart := false }
def BoxStaysSaid : Prop := boxStaysRow.holds Try.pinned (OpenSpec.ofChange boxStaysSpec)

/-- ITS FALSE NEIGHBOUR: 'it returns false'. Refute it at one input. -/
def boxStaysWrong : ChangeSpec := { name := "boxStays", fn := fun _ => fun
  | [d1, d2, d3, d4] => { results := [.lit (.bool false)], args := [d1, d2, d3, d4] }
  | _ => none }
def BoxStaysWrongFalsely : Prop := boxStaysRow.holds Try.pinned (OpenSpec.ofChange boxStaysWrong)

/-- 'apogeelaw12.BoxPoint': WHATEVER THE INPUT: true; the input reads as it did. -/
def boxPointSpec : ChangeSpec := { name := "boxPoint", fn := fun _ => fun
  | [d1, d2] => { results := [.lit (.bool true)], args := [d1, d2] }
  | _ => none }
def boxPointRow : OpenClaim := { program := "ytjblhppbjebagaa", sum := "ef83c346d250b57833450a9ec1b47af0f3fa6a036bdae2772724772e8edbb148", func := "apogee/apogeelaw12.BoxPoint", spec := "boxPoint", inPlace := ["math/bits.Add64"], unfollowed := true, recurses := true, apart := false }
def BoxPointSaid : Prop := boxPointRow.holds Try.pinned (OpenSpec.ofChange boxPointSpec)

/-- ITS FALSE NEIGHBOUR: 'it returns false'. Refute it at one input. -/
def boxPointWrong : ChangeSpec := { name := "boxPoint", fn := fun _ => fun
  | [d1, d2] => { results := [.lit (.bool false)], args := [d1, d2] }
  | _ => none }
def BoxPointWrongFalsely : Prop := boxPointRow.holds Try.pinned (OpenSpec.ofChange boxPointWrong)

/-- 'apogeelaw12.BoxOrder': WHATEVER THE INPUT: true; the input reads as it did. -/
def boxOrderSpec : ChangeSpec := { name := "boxOrder", fn := fun _ => fun
  | [d1, d2, d3, d4, d5, d6] => { results := [.lit (.bool true)], args := [d1, d2, d3, d4, d5, d6] }
  | _ => none }
def boxOrderRow : OpenClaim := { program := "ytjblhppbjebagaa", sum := "ef83c346d250b57833450a9ec1b47af0f3fa6a036bdae2772724772e8edbb148", func := "apogee/apogeelaw12.BoxOrder", spec := "boxOrder", inPlace := ["math/bits.Add64"], unfollowed := true, recurses := true, apart := false }
def BoxOrderSaid : Prop := boxOrderRow.holds Try.pinned (OpenSpec.ofChange boxOrderSpec)

/-- ITS FALSE NEIGHBOUR: 'it returns false'. Refute it at one input. -/
def boxOrderWrong : ChangeSpec := { name := "boxOrder", fn := fun _ => fun
  | [d1, d2, d3, d4, d5, d6] => { results := [.lit (.bool false)], args := [d1, d2, d3, d4, d5, d6] }
  | _ => none }
def BoxOrderWrongFalsely : Prop := boxOrderRow.holds Try.pinned (OpenSpec.ofChange boxOrderWrong)

/- THE SECOND FORM. 'bulk': how many values and letters a reading holds, each counted each time it is reached (what is shared counts as often as it is met; a slice's spare places count too). A statement '..UptoSaid' is the law's where the arguments, and the package variables that the reading takes, are together of bulk at most 1048576: NARROWER than '..Said'. Prove '..Said' where nothing that the law and all that it calls make is longer than what came in: it says more and counts as full. Else prove '..UptoSaid'. A law counts once. -/
mutual
def uptoBulk {H : Type} : DataW H → Nat
  | .lit (.string bytes) => bytes.length + 1
  | .lit _ => 1
  | .nil => 1
  | .ptr d => uptoBulk d + 1
  | .slice elems spare => uptoBulkAll elems + uptoBulkAll spare + 1
  | .agg parts => uptoBulkAll parts + 1
  | .iface _ d => uptoBulk d + 1
  | .map entries => uptoBulkEntries entries + 1
  | .held _ => 1
def uptoBulkAll {H : Type} : List (DataW H) → Nat
  | [] => 0
  | d :: r => uptoBulk d + uptoBulkAll r
def uptoBulkEntries {H : Type} : List (Lit × DataW H) → Nat
  | [] => 0
  | x :: r => uptoBulkEntry x + uptoBulkEntries r
def uptoBulkEntry {H : Type} : Lit × DataW H → Nat
  | (.string bytes, d) => bytes.length + uptoBulk d + 1
  | (_, d) => uptoBulk d + 1
 end
def uptoSmall : (H : Type) → List (DataW H) → Bool := fun _ ds => decide (uptoBulkAll ds ≤ 1048576)
def OpenSpec.upto (s : _root_.Go.ChangeSpec) : _root_.Go.OpenSpec := { _root_.Go.OpenSpec.ofChange s with cond := some uptoSmall }

/-- 'apogeelaw12.BoxTells', WHERE WHAT IT READS IS OF BULK AT MOST 1048576: true; the input reads as it did. -/
def boxTellsUptoRow : OpenClaim := { program := "ytjblhppbjebagaa", sum := "ef83c346d250b57833450a9ec1b47af0f3fa6a036bdae2772724772e8edbb148", func := "apogee/apogeelaw12.BoxTells", spec := "boxTells", inPlace := ["math/bits.Add64"], unfollowed := true, recurses := true, apart := false, narrowed := true }
def BoxTellsUptoSaid : Prop := boxTellsUptoRow.holds Try.pinned (OpenSpec.upto boxTellsSpec)

/-- 'apogeelaw12.BoxMeets', WHERE WHAT IT READS IS OF BULK AT MOST 1048576: true; the input reads as it did. -/
def boxMeetsUptoRow : OpenClaim := { program := "ytjblhppbjebagaa", sum := "ef83c346d250b57833450a9ec1b47af0f3fa6a036bdae2772724772e8edbb148", func := "apogee/apogeelaw12.BoxMeets", spec := "boxMeets", inPlace := ["math/bits.Add64"], unfollowed := true, recurses := true, apart := false, narrowed := true }
def BoxMeetsUptoSaid : Prop := boxMeetsUptoRow.holds Try.pinned (OpenSpec.upto boxMeetsSpec)

/-- 'apogeelaw12.BoxRelates', WHERE WHAT IT READS IS OF BULK AT MOST 1048576: true; the input reads as it did. -/
def boxRelatesUptoRow : OpenClaim := { program := "ytjblhppbjebagaa", sum := "ef83c346d250b57833450a9ec1b47af0f3fa6a036bdae2772724772e8edbb148", func := "apogee/apogeelaw12.BoxRelates", spec := "boxRelates", inPlace := ["math/bits.Add64"], unfollowed := true, recurses := true, apart := false, narrowed := true }
def BoxRelatesUptoSaid : Prop := boxRelatesUptoRow.holds Try.pinned (OpenSpec.upto boxRelatesSpec)

/-- 'apogeelaw12.BoxStays', WHERE WHAT IT READS IS OF BULK AT MOST 1048576: true; the input reads as it did. -/
def boxStaysUptoRow : OpenClaim := { program := "ytjblhppbjebagaa", sum := "ef83c346d250b57833450a9ec1b47af0f3fa6a036bdae2772724772e8edbb148", func := "apogee/apogeelaw12.BoxStays", spec := "boxStays", inPlace := ["math/bits.Add64"], unfollowed := true, recurses := true, apart := false, narrowed := true }
def BoxStaysUptoSaid : Prop := boxStaysUptoRow.holds Try.pinned (OpenSpec.upto boxStaysSpec)

/-- 'apogeelaw12.BoxPoint', WHERE WHAT IT READS IS OF BULK AT MOST 1048576: true; the input reads as it did. -/
def boxPointUptoRow : OpenClaim := { program := "ytjblhppbjebagaa", sum := "ef83c346d250b57833450a9ec1b47af0f3fa6a036bdae2772724772e8edbb148", func := "apogee/apogeelaw12.BoxPoint", spec := "boxPoint", inPlace := ["math/bits.Add64"], unfollowed := true, recurses := true, apart := false, narrowed := true }
def BoxPointUptoSaid : Prop := boxPointUptoRow.holds Try.pinned (OpenSpec.upto boxPointSpec)

/-- 'apogeelaw12.BoxOrder', WHERE WHAT IT READS IS OF BULK AT MOST 1048576: true; the input reads as it did. -/
def boxOrderUptoRow : OpenClaim := { program := "ytjblhppbjebagaa", sum := "ef83c346d250b57833450a9ec1b47af0f3fa6a036bdae2772724772e8edbb148", func := "apogee/apogeelaw12.BoxOrder", spec := "boxOrder", inPlace := ["math/bits.Add64"], unfollowed := true, recurses := true, apart := false, narrowed := true }
def BoxOrderUptoSaid : Prop := boxOrderUptoRow.holds Try.pinned (OpenSpec.upto boxOrderSpec)

end Rows
end Go.Proofs.Ytjblhppbjebagaa
