/-
  No cell of these rows narrows 'for every input' (looked for: loops, veiled, ifaces, maps, wideKeys, modest, calm, conditions, laid).
  DERIVED. THE GIVEN ROWS OF THIS SEAT. 4 by the template 'for every input the law returns true; each argument reads behind the call as it read before'; 0 by the template 'total and deterministic' (their statements: YtdceaeifcniabaaTotals.lean).
  GIVEN WITH THE SEED: the statements are not yours to turn. If you find one false, say at which input.
  Laid BY PROGRAM, IN A SANDBOX (cutbox-rows.mjs): the forced cells as the released guide's own fill.sh prints them over the translation 92318706799ba4de… (all of the seat's roots in one cut). By AI agents, Wed Nov 11 2026. No macro, syntax, notation, axiom, sorry.
-/
import Derived.Test.YtdceaeifcniabaaChecked
import GoSem.Claim
import GoSem.ClaimJoined
import GoSem.ClaimMapViews
import Derived.JoinedTies
import Derived.KernelRfl
namespace Go.Proofs.Ytdceaeifcniabaa
/- THE CELL 'sum', in the pinned program and in every row, IS THE sha256 OF THE DUMP (.gsa) THAT YtdceaeifcniabaaProg.lean LOADS. Nothing in Lean hashes anything: it is a label: what it is worth is what the hold of that sum in a sandbox is worth. -/
noncomputable def Try.pinned : Pinned := { name := "ytdceaeifcniabaa", sum := "92318706799ba4de7da23b2a13fd9dd08423c71d4a481268eaeba411e3ef77c4", checked := Try.checked }
namespace Rows
def none {H : Type} : Left H := { results := [], args := [] }

/-- 'apogeelaw21.PhasePlays': WHATEVER THE INPUT: true; the input reads as it did. -/
def phasePlaysSpec : ChangeSpec := { name := "phasePlays", fn := fun _ => fun
  | [d1, d2] => { results := [.lit (.bool true)], args := [d1, d2] }
  | _ => none }
def phasePlaysRow : OpenClaim := { program := "ytdceaeifcniabaa", sum := "92318706799ba4de7da23b2a13fd9dd08423c71d4a481268eaeba411e3ef77c4", func := "apogee/apogeelaw21.PhasePlays", spec := "phasePlays", inPlace := ["sync/atomic.LoadInt64", "sync/atomic.CompareAndSwapInt64", "sync/atomic.StoreInt64"], unfollowed := true, recurses := true, apart := false }
def PhasePlaysSaid : Prop := phasePlaysRow.holds Try.pinned (OpenSpec.ofChange phasePlaysSpec)

/-- ITS FALSE NEIGHBOUR: 'it returns false'. Refute it at one input. -/
def phasePlaysWrong : ChangeSpec := { name := "phasePlays", fn := fun _ => fun
  | [d1, d2] => { results := [.lit (.bool false)], args := [d1, d2] }
  | _ => none }
def PhasePlaysWrongFalsely : Prop := phasePlaysRow.holds Try.pinned (OpenSpec.ofChange phasePlaysWrong)

/-- 'apogeelaw21.PhaseSlow': WHATEVER THE INPUT: true; the input reads as it did. -/
def phaseSlowSpec : ChangeSpec := { name := "phaseSlow", fn := fun _ => fun
  | [d1, d2] => { results := [.lit (.bool true)], args := [d1, d2] }
  | _ => none }
def phaseSlowRow : OpenClaim := { program := "ytdceaeifcniabaa", sum := "92318706799ba4de7da23b2a13fd9dd08423c71d4a481268eaeba411e3ef77c4", func := "apogee/apogeelaw21.PhaseSlow", spec := "phaseSlow", inPlace := ["sync/atomic.LoadInt64", "sync/atomic.CompareAndSwapInt64", "sync/atomic.StoreInt64"], unfollowed := true, recurses := true, apart := false }
def PhaseSlowSaid : Prop := phaseSlowRow.holds Try.pinned (OpenSpec.ofChange phaseSlowSpec)

/-- ITS FALSE NEIGHBOUR: 'it returns false'. Refute it at one input. -/
def phaseSlowWrong : ChangeSpec := { name := "phaseSlow", fn := fun _ => fun
  | [d1, d2] => { results := [.lit (.bool false)], args := [d1, d2] }
  | _ => none }
def PhaseSlowWrongFalsely : Prop := phaseSlowRow.holds Try.pinned (OpenSpec.ofChange phaseSlowWrong)

/-- 'apogeelaw21.PhaseBoth': WHATEVER THE INPUT: true; the input reads as it did. -/
def phaseBothSpec : ChangeSpec := { name := "phaseBoth", fn := fun _ => fun
  | [d1, d2] => { results := [.lit (.bool true)], args := [d1, d2] }
  | _ => none }
def phaseBothRow : OpenClaim := { program := "ytdceaeifcniabaa", sum := "92318706799ba4de7da23b2a13fd9dd08423c71d4a481268eaeba411e3ef77c4", func := "apogee/apogeelaw21.PhaseBoth", spec := "phaseBoth", inPlace := ["sync/atomic.LoadInt64", "sync/atomic.CompareAndSwapInt64", "sync/atomic.StoreInt64"], unfollowed := true, recurses := true, apart := false }
def PhaseBothSaid : Prop := phaseBothRow.holds Try.pinned (OpenSpec.ofChange phaseBothSpec)

/-- ITS FALSE NEIGHBOUR: 'it returns false'. Refute it at one input. -/
def phaseBothWrong : ChangeSpec := { name := "phaseBoth", fn := fun _ => fun
  | [d1, d2] => { results := [.lit (.bool false)], args := [d1, d2] }
  | _ => none }
def PhaseBothWrongFalsely : Prop := phaseBothRow.holds Try.pinned (OpenSpec.ofChange phaseBothWrong)

/-- 'apogeelaw21.PhaseNil': WHATEVER THE INPUT: true; the input reads as it did. -/
def phaseNilSpec : ChangeSpec := { name := "phaseNil", fn := fun _ => fun
  | [d1, d2] => { results := [.lit (.bool true)], args := [d1, d2] }
  | _ => none }
def phaseNilRow : OpenClaim := { program := "ytdceaeifcniabaa", sum := "92318706799ba4de7da23b2a13fd9dd08423c71d4a481268eaeba411e3ef77c4", func := "apogee/apogeelaw21.PhaseNil", spec := "phaseNil", inPlace := ["sync/atomic.LoadInt64", "sync/atomic.CompareAndSwapInt64", "sync/atomic.StoreInt64"], unfollowed := true, recurses := true, apart := false }
def PhaseNilSaid : Prop := phaseNilRow.holds Try.pinned (OpenSpec.ofChange phaseNilSpec)

/-- ITS FALSE NEIGHBOUR: 'it returns false'. Refute it at one input. -/
def phaseNilWrong : ChangeSpec := { name := "phaseNil", fn := fun _ => fun
  | [d1, d2] => { results := [.lit (.bool false)], args := [d1, d2] }
  | _ => none }
def PhaseNilWrongFalsely : Prop := phaseNilRow.holds Try.pinned (OpenSpec.ofChange phaseNilWrong)

/- THE SECOND FORM. 'bulk': how many values and letters a reading holds, each counted each time it is reached (what is shared counts as often as it is met; a slice's spare places count too). A statement '..UptoSaid' is the law's where the arguments, and the package variables that the reading takes, are together of bulk at most 1048576: NARROWER than '..Said'. Prove '..Said' where nothing that the law and all that it calls make is longer than what came in: it says more and counts as full. Else prove '..UptoSaid'. A law counts once. -/
mutual
def uptoBulk {H : Type} : DataW H → Nat
  | .lit (.string bytes) => bytes.length + 1
  | .lit _ => 1
  | .nil => 1
  | .ptr d => uptoBulk d + 1
  | .slice elems spare => uptoBulkAll elems + uptoBulkAll spare + 1
  | .agg parts => uptoBulkAll parts + 1
  | .iface _ d => uptoBulk d + 1
  | .map entries => uptoBulkEntries entries + 1
  | .held _ => 1
def uptoBulkAll {H : Type} : List (DataW H) → Nat
  | [] => 0
  | d :: r => uptoBulk d + uptoBulkAll r
def uptoBulkEntries {H : Type} : List (Lit × DataW H) → Nat
  | [] => 0
  | x :: r => uptoBulkEntry x + uptoBulkEntries r
def uptoBulkEntry {H : Type} : Lit × DataW H → Nat
  | (.string bytes, d) => bytes.length + uptoBulk d + 1
  | (_, d) => uptoBulk d + 1
 end
def uptoSmall : (H : Type) → List (DataW H) → Bool := fun _ ds => decide (uptoBulkAll ds ≤ 1048576)
def OpenSpec.upto (s : _root_.Go.ChangeSpec) : _root_.Go.OpenSpec := { _root_.Go.OpenSpec.ofChange s with cond := some uptoSmall }

/-- 'apogeelaw21.PhasePlays', WHERE WHAT IT READS IS OF BULK AT MOST 1048576: true; the input reads as it did. -/
def phasePlaysUptoRow : OpenClaim := { program := "ytdceaeifcniabaa", sum := "92318706799ba4de7da23b2a13fd9dd08423c71d4a481268eaeba411e3ef77c4", func := "apogee/apogeelaw21.PhasePlays", spec := "phasePlays", inPlace := ["sync/atomic.LoadInt64", "sync/atomic.CompareAndSwapInt64", "sync/atomic.StoreInt64"], unfollowed := true, recurses := true, apart := false, narrowed := true }
def PhasePlaysUptoSaid : Prop := phasePlaysUptoRow.holds Try.pinned (OpenSpec.upto phasePlaysSpec)

/-- 'apogeelaw21.PhaseSlow', WHERE WHAT IT READS IS OF BULK AT MOST 1048576: true; the input reads as it did. -/
def phaseSlowUptoRow : OpenClaim := { program := "ytdceaeifcniabaa", sum := "92318706799ba4de7da23b2a13fd9dd08423c71d4a481268eaeba411e3ef77c4", func := "apogee/apogeelaw21.PhaseSlow", spec := "phaseSlow", inPlace := ["sync/atomic.LoadInt64", "sync/atomic.CompareAndSwapInt64", "sync/atomic.StoreInt64"], unfollowed := true, recurses := true, apart := false, narrowed := true }
def PhaseSlowUptoSaid : Prop := phaseSlowUptoRow.holds Try.pinned (OpenSpec.upto phaseSlowSpec)

/-- 'apogeelaw21.PhaseBoth', WHERE WHAT IT READS IS OF BULK AT MOST 1048576: true; the input reads as it did. -/
def phaseBothUptoRow : OpenClaim := { program := "ytdceaeifcniabaa", sum := "92318706799ba4de7da23b2a13fd9dd08423c71d4a481268eaeba411e3ef77c4", func := "apogee/apogeelaw21.PhaseBoth", spec := "phaseBoth", inPlace := ["sync/atomic.LoadInt64", "sync/atomic.CompareAndSwapInt64", "sync/atomic.StoreInt64"], unfollowed := true, recurses := true, apart := false, narrowed := true }
def PhaseBothUptoSaid : Prop := phaseBothUptoRow.holds Try.pinned (OpenSpec.upto phaseBothSpec)

/-- 'apogeelaw21.PhaseNil', WHERE WHAT IT READS IS OF BULK AT MOST 1048576: true; the input reads as it did. -/
def phaseNilUptoRow : OpenClaim := { program := "ytdceaeifcniabaa", sum := "92318706799ba4de7da23b2a13fd9dd08423c71d4a481268eaeba411e3ef77c4", func := "apogee/apogeelaw21.PhaseNil", spec := "phaseNil", inPlace := ["sync/atomic.LoadInt64", "sync/atomic.CompareAndSwapInt64", "sync/atomic.StoreInt64"], unfollowed := true, recurses := true, apart := false, narrowed := true }
def PhaseNilUptoSaid : Prop := phaseNilUptoRow.holds Try.pinned (OpenSpec.upto phaseNilSpec)

end Rows
end Go.Proofs.Ytdceaeifcniabaa
