/- A number of 128 bits as a pair. -/
import Derived.Test.YtbcbaidnamebkaaPPointTurnsx
namespace Go.Proofs.Ytbcbaidnamebkaa.PPointTurns
open Go.RowKit Go.Proofs.YtbcbaidnamebkaaW.PrintWords Go.Proofs.YtbcbaidnamebkaaW.PrintLast
def hiw (v : Int) : Int := wrap64 (v / 18446744073709551616)
def low (v : Int) : Int := v % 18446744073709551616
/-- Less, the same, greater. -/
def sgn (a b : Int) : Int := if a < b then -1 else if a = b then 0 else 1
end Go.Proofs.Ytbcbaidnamebkaa.PPointTurns
