/-
  No cell of these rows narrows 'for every input' (looked for: loops, veiled, ifaces, maps, wideKeys, modest, calm, conditions, laid).
  DERIVED. THE GIVEN ROWS OF THIS SEAT. 5 by the template 'for every input the law returns true; each argument reads behind the call as it read before'; 0 by the template 'total and deterministic' (their statements: YtoceckjagfhfmaaTotals.lean).
  GIVEN WITH THE SEED: the statements are not yours to turn. If you find one false, say at which input.
  Laid BY PROGRAM, IN A SANDBOX (cutbox-rows.mjs): the forced cells as the released guide's own fill.sh prints them over the translation 0af7b4d93838de36… (all of the seat's roots in one cut). By AI agents, Wed Nov 11 2026. No macro, syntax, notation, axiom, sorry.
-/
import Derived.Test.YtoceckjagfhfmaaChecked
import GoSem.Claim
import GoSem.ClaimJoined
import GoSem.ClaimMapViews
import Derived.JoinedTies
import Derived.KernelRfl
namespace Go.Proofs.Ytoceckjagfhfmaa
/- THE CELL 'sum', in the pinned program and in every row, IS THE sha256 OF THE DUMP (.gsa) THAT YtoceckjagfhfmaaProg.lean LOADS. Nothing in Lean hashes anything: it is a label: what it is worth is what the hold of that sum in a sandbox is worth. -/
noncomputable def Try.pinned : Pinned := { name := "ytoceckjagfhfmaa", sum := "0af7b4d93838de364702f5867c99def632d32abbdfef80079413d16e0a5e5e9d", checked := Try.checked }
namespace Rows
def none {H : Type} : Left H := { results := [], args := [] }

/-- 'apogeelaw07.PeerWords': WHATEVER THE INPUT: true; the input reads as it did. -/
def peerWordsSpec : ChangeSpec := { name := "peerWords", fn := fun _ => fun
  | [d1, d2] => { results := [.lit (.bool true)], args := [d1, d2] }
  | _ => none }
def peerWordsRow : OpenClaim := { program := "ytoceckjagfhfmaa", sum := "0af7b4d93838de364702f5867c99def632d32abbdfef80079413d16e0a5e5e9d", func := "apogee/apogeelaw07.PeerWords", spec := "peerWords", apart := false }
def PeerWordsSaid : Prop := peerWordsRow.holds Try.pinned (OpenSpec.ofChange peerWordsSpec)

/-- ITS FALSE NEIGHBOUR: 'it returns false'. Refute it at one input. -/
def peerWordsWrong : ChangeSpec := { name := "peerWords", fn := fun _ => fun
  | [d1, d2] => { results := [.lit (.bool false)], args := [d1, d2] }
  | _ => none }
def PeerWordsWrongFalsely : Prop := peerWordsRow.holds Try.pinned (OpenSpec.ofChange peerWordsWrong)

/-- 'apogeelaw07.PeerReports': WHATEVER THE INPUT: true; the input reads as it did. -/
def peerReportsSpec : ChangeSpec := { name := "peerReports", fn := fun _ => fun
  | [d1, d2] => { results := [.lit (.bool true)], args := [d1, d2] }
  | _ => none }
def peerReportsRow : OpenClaim := { program := "ytoceckjagfhfmaa", sum := "0af7b4d93838de364702f5867c99def632d32abbdfef80079413d16e0a5e5e9d", func := "apogee/apogeelaw07.PeerReports", spec := "peerReports", apart := false }
def PeerReportsSaid : Prop := peerReportsRow.holds Try.pinned (OpenSpec.ofChange peerReportsSpec)

/-- ITS FALSE NEIGHBOUR: 'it returns false'. Refute it at one input. -/
def peerReportsWrong : ChangeSpec := { name := "peerReports", fn := fun _ => fun
  | [d1, d2] => { results := [.lit (.bool false)], args := [d1, d2] }
  | _ => none }
def PeerReportsWrongFalsely : Prop := peerReportsRow.holds Try.pinned (OpenSpec.ofChange peerReportsWrong)

/-- 'apogeelaw07.PeerCommands': WHATEVER THE INPUT: true; the input reads as it did. -/
def peerCommandsSpec : ChangeSpec := { name := "peerCommands", fn := fun _ => fun
  | [d1, d2] => { results := [.lit (.bool true)], args := [d1, d2] }
  | _ => none }
def peerCommandsRow : OpenClaim := { program := "ytoceckjagfhfmaa", sum := "0af7b4d93838de364702f5867c99def632d32abbdfef80079413d16e0a5e5e9d", func := "apogee/apogeelaw07.PeerCommands", spec := "peerCommands", apart := false }
def PeerCommandsSaid : Prop := peerCommandsRow.holds Try.pinned (OpenSpec.ofChange peerCommandsSpec)

/-- ITS FALSE NEIGHBOUR: 'it returns false'. Refute it at one input. -/
def peerCommandsWrong : ChangeSpec := { name := "peerCommands", fn := fun _ => fun
  | [d1, d2] => { results := [.lit (.bool false)], args := [d1, d2] }
  | _ => none }
def PeerCommandsWrongFalsely : Prop := peerCommandsRow.holds Try.pinned (OpenSpec.ofChange peerCommandsWrong)

/-- 'apogeelaw07.PeerBits': WHATEVER THE INPUT: true; the input reads as it did. -/
def peerBitsSpec : ChangeSpec := { name := "peerBits", fn := fun _ => fun
  | [d1, d2, d3, d4, d5] => { results := [.lit (.bool true)], args := [d1, d2, d3, d4, d5] }
  | _ => none }
def peerBitsRow : OpenClaim := { program := "ytoceckjagfhfmaa", sum := "0af7b4d93838de364702f5867c99def632d32abbdfef80079413d16e0a5e5e9d", func := "apogee/apogeelaw07.PeerBits", spec := "peerBits", apart := false }
def PeerBitsSaid : Prop := peerBitsRow.holds Try.pinned (OpenSpec.ofChange peerBitsSpec)

/-- ITS FALSE NEIGHBOUR: 'it returns false'. Refute it at one input. -/
def peerBitsWrong : ChangeSpec := { name := "peerBits", fn := fun _ => fun
  | [d1, d2, d3, d4, d5] => { results := [.lit (.bool false)], args := [d1, d2, d3, d4, d5] }
  | _ => none }
def PeerBitsWrongFalsely : Prop := peerBitsRow.holds Try.pinned (OpenSpec.ofChange peerBitsWrong)

/-- 'apogeelaw07.PeerApart': WHATEVER THE INPUT: true; the input reads as it did. -/
def peerApartSpec : ChangeSpec := { name := "peerApart", fn := fun _ => fun
  | [d1, d2] => { results := [.lit (.bool true)], args := [d1, d2] }
  | _ => none }
def peerApartRow : OpenClaim := { program := "ytoceckjagfhfmaa", sum := "0af7b4d93838de364702f5867c99def632d32abbdfef80079413d16e0a5e5e9d", func := "apogee/apogeelaw07.PeerApart", spec := "peerApart", apart := false }
def PeerApartSaid : Prop := peerApartRow.holds Try.pinned (OpenSpec.ofChange peerApartSpec)

/-- ITS FALSE NEIGHBOUR: 'it returns false'. Refute it at one input. -/
def peerApartWrong : ChangeSpec := { name := "peerApart", fn := fun _ => fun
  | [d1, d2] => { results := [.lit (.bool false)], args := [d1, d2] }
  | _ => none }
def PeerApartWrongFalsely : Prop := peerApartRow.holds Try.pinned (OpenSpec.ofChange peerApartWrong)

/- THE SECOND FORM. 'bulk': how many values and letters a reading holds, each counted each time it is reached (what is shared counts as often as it is met; a slice's spare places count too). A statement '..UptoSaid' is the law's where the arguments, and the package variables that the reading takes, are together of bulk at most 1048576: NARROWER than '..Said'. Prove '..Said' where nothing that the law and all that it calls make is longer than what came in: it says more and counts as full. Else prove '..UptoSaid'. A law counts once. -/
mutual
def uptoBulk {H : Type} : DataW H → Nat
  | .lit (.string bytes) => bytes.length + 1
  | .lit _ => 1
  | .nil => 1
  | .ptr d => uptoBulk d + 1
  | .slice elems spare => uptoBulkAll elems + uptoBulkAll spare + 1
  | .agg parts => uptoBulkAll parts + 1
  | .iface _ d => uptoBulk d + 1
  | .map entries => uptoBulkEntries entries + 1
  | .held _ => 1
def uptoBulkAll {H : Type} : List (DataW H) → Nat
  | [] => 0
  | d :: r => uptoBulk d + uptoBulkAll r
def uptoBulkEntries {H : Type} : List (Lit × DataW H) → Nat
  | [] => 0
  | x :: r => uptoBulkEntry x + uptoBulkEntries r
def uptoBulkEntry {H : Type} : Lit × DataW H → Nat
  | (.string bytes, d) => bytes.length + uptoBulk d + 1
  | (_, d) => uptoBulk d + 1
 end
def uptoSmall : (H : Type) → List (DataW H) → Bool := fun _ ds => decide (uptoBulkAll ds ≤ 1048576)
def OpenSpec.upto (s : _root_.Go.ChangeSpec) : _root_.Go.OpenSpec := { _root_.Go.OpenSpec.ofChange s with cond := some uptoSmall }

/-- 'apogeelaw07.PeerWords', WHERE WHAT IT READS IS OF BULK AT MOST 1048576: true; the input reads as it did. -/
def peerWordsUptoRow : OpenClaim := { program := "ytoceckjagfhfmaa", sum := "0af7b4d93838de364702f5867c99def632d32abbdfef80079413d16e0a5e5e9d", func := "apogee/apogeelaw07.PeerWords", spec := "peerWords", apart := false, narrowed := true }
def PeerWordsUptoSaid : Prop := peerWordsUptoRow.holds Try.pinned (OpenSpec.upto peerWordsSpec)

/-- 'apogeelaw07.PeerReports', WHERE WHAT IT READS IS OF BULK AT MOST 1048576: true; the input reads as it did. -/
def peerReportsUptoRow : OpenClaim := { program := "ytoceckjagfhfmaa", sum := "0af7b4d93838de364702f5867c99def632d32abbdfef80079413d16e0a5e5e9d", func := "apogee/apogeelaw07.PeerReports", spec := "peerReports", apart := false, narrowed := true }
def PeerReportsUptoSaid : Prop := peerReportsUptoRow.holds Try.pinned (OpenSpec.upto peerReportsSpec)

/-- 'apogeelaw07.PeerCommands', WHERE WHAT IT READS IS OF BULK AT MOST 1048576: true; the input reads as it did. -/
def peerCommandsUptoRow : OpenClaim := { program := "ytoceckjagfhfmaa", sum := "0af7b4d93838de364702f5867c99def632d32abbdfef80079413d16e0a5e5e9d", func := "apogee/apogeelaw07.PeerCommands", spec := "peerCommands", apart := false, narrowed := true }
def PeerCommandsUptoSaid : Prop := peerCommandsUptoRow.holds Try.pinned (OpenSpec.upto peerCommandsSpec)

/-- 'apogeelaw07.PeerBits', WHERE WHAT IT READS IS OF BULK AT MOST 1048576: true; the input reads as it did. -/
def peerBitsUptoRow : OpenClaim := { program := "ytoceckjagfhfmaa", sum := "0af7b4d93838de364702f5867c99def632d32abbdfef80079413d16e0a5e5e9d", func := "apogee/apogeelaw07.PeerBits", spec := "peerBits", apart := false, narrowed := true }
def PeerBitsUptoSaid : Prop := peerBitsUptoRow.holds Try.pinned (OpenSpec.upto peerBitsSpec)

/-- 'apogeelaw07.PeerApart', WHERE WHAT IT READS IS OF BULK AT MOST 1048576: true; the input reads as it did. -/
def peerApartUptoRow : OpenClaim := { program := "ytoceckjagfhfmaa", sum := "0af7b4d93838de364702f5867c99def632d32abbdfef80079413d16e0a5e5e9d", func := "apogee/apogeelaw07.PeerApart", spec := "peerApart", apart := false, narrowed := true }
def PeerApartUptoSaid : Prop := peerApartUptoRow.holds Try.pinned (OpenSpec.upto peerApartSpec)

end Rows
end Go.Proofs.Ytoceckjagfhfmaa
