/- Walks and rows of the law PairTells, written by the session's own driver over the print: that the program's calls come to what plain functions say. -/
import Derived.Test.YtncelpakoikbeaaProg
import Derived.Below
import Derived.Deep.Draws
import Derived.Deep.AppendLies
import Derived.Maps.AppendAt
import Derived.OwnWalk
import Derived.Laws.BytesArg
import Derived.Laws.MakeOwn
import Derived.Laws.OwnMore
import Derived.Deep.OwnRows
import Derived.Tactics
import Derived.Lib.ConvBytes
import Derived.Laws.Slices
import Derived.WalkKit
import Derived.KernelRfl
import Derived.RowKit3
import Derived.Deep.LoopGhost
import Derived.Deep.QuietTactic
import Derived.BigQuiet
import Derived.WideLaws
import Derived.Deep.DeepCutAuto
import Derived.Deep.CutBlock
import Derived.Deep.RegionHeld3
import Derived.Laws.Rows
import Derived.Lib.AppendStr
import Derived.ArgAppend
import Derived.Laws.IdiomCopy
import Derived.OrdersHeld
import Derived.Laws.BitsLemmas
import Derived.RowKit
import Derived.Laws.Externs
import Derived.Lib.Hide
import Derived.StillTailTactics
import Derived.Test.YtncelpakoikbeaaWWords
import Derived.Test.YtncelpakoikbeaaWLast
import Derived.Test.YtncelpakoikbeaaWTab
import Derived.Test.YtncelpakoikbeaaWFour
import Derived.Test.YtncelpakoikbeaaWQPut
import Derived.Test.YtncelpakoikbeaaWApart
import Derived.Test.YtncelpakoikbeaaWArr
import Derived.Test.YtncelpakoikbeaaWZeros
import Derived.Test.YtncelpakoikbeaaWFoot
import Derived.Test.YtncelpakoikbeaaWKept
import Derived.Test.YtncelpakoikbeaaWShare
import Derived.Test.YtncelpakoikbeaaWN
import Derived.Test.YtncelpakoikbeaaWFootNe
import Derived.Test.YtncelpakoikbeaaWAt
import Derived.Test.YtncelpakoikbeaaWEqStruct
import Derived.Test.YtncelpakoikbeaaWRepsOne
import Derived.Test.YtncelpakoikbeaaWInv
import Derived.Test.YtncelpakoikbeaaWInvWords
import Derived.Test.YtncelpakoikbeaaWGuard
import Derived.Test.YtncelpakoikbeaaWNEv
import Derived.Test.YtncelpakoikbeaaWMore
namespace Go.Proofs.Ytncelpakoikbeaa.PPairTells
open Go.RowKit Go.Proofs.YtncelpakoikbeaaW.PrintWords Go.Proofs.YtncelpakoikbeaaW.PrintLast Go.Proofs.YtncelpakoikbeaaW.PrintMore
attribute [local go_sem] max2_int min2_int max_two min_two max_three min_three max_four min_four   -- for this text's walks alone
set_option linter.unusedVariables false
set_option linter.unusedSimpArgs false



def errW : Option Int → Value
  | none => .nilIface
  | some c => .iface 0 (.int .i64 c)
theorem errW_none : errW none = .nilIface := rfl
theorem errW_some (c : Int) : errW (some c) = .iface 0 (.int .i64 c) := rfl

theorem info2 : (Try.prog.info? 2).map (fun i => (i.zero, i.size, i.bytes)) = some (some (.int .i64 0), 1, 8) := by kernel_rfl
-- the values' own types

end Go.Proofs.Ytncelpakoikbeaa.PPairTells
