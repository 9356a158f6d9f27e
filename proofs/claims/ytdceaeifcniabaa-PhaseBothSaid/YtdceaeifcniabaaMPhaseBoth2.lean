/- The texts that the law PhaseBoth needs, part 2. No conditions. -/
import Derived.Test.YtdceaeifcniabaaProg
import Derived.Test.YtdceaeifcniabaaMPhaseBoth1
namespace Go.Proofs.Ytdceaeifcniabaa.AE
set_option linter.unusedVariables false
set_option linter.unusedSimpArgs false
set_option linter.constructorNameAsVariable false
open Go
def E3 : ETy := ⟨3, 1, false, 8, (iz 0)⟩
def E24 : ETy := ⟨24, 9, true, 88, (.agg [(.zsl true), (iz 0), (iz 0), (iz 0), (iz 0), (iz 0), (iz 0), (iz 0), (iz 0)])⟩
def E43 : ETy := ⟨43, 5, true, 56, (.agg [(.zsl true), (iz 0), (iz 0), (iz 0), (iz 0)])⟩
def E54 : ETy := ⟨54, 11, true, 104, (.agg [(.zsl true), (iz 0), (iz 0), (iz 0), (iz 0), (iz 0), (iz 0), (iz 0), (iz 0), (iz 0), .nilp])⟩
def E62 : ETy := ⟨62, 2, true, 16, (.agg [(iz 0), (iz 0)])⟩
def E71 : ETy := ⟨71, 2, true, 16, (.agg [(iz 0), (iz 0)])⟩
def E98 : ETy := ⟨98, 2, true, 16, (.agg [(iz 0), (.int .u64 0)])⟩
def E110 : ETy := ⟨110, 2, true, 16, (.agg [(iz 0), (.int .u64 0)])⟩
/-- apogee/apogeelaw21.PhaseBoth -/
def c5 : AFn := ⟨85, [(.tmp 4)], (.seq (.reg [⟨(some 2), (.box E24 (.t 0)), none⟩, ⟨(some 4), (.mov (.v bf)), none⟩]) (.seq (.seq (.reg [⟨(some 9), (.call .b (.v (.fn 7 [] [])) []), none⟩, ⟨(some 10), (.un .not (.t 9)), none⟩, ⟨(some 11), (.mov (.t 10)), none⟩, ⟨(some 12), (.load true 9 (.t 2)), (some ((some 11), false))⟩, ⟨(some 13), (.call .b (.v (.fn 8 [] [])) [(.t 12)]), (some ((some 11), false))⟩, ⟨(some 14), (.un .not (.t 13)), (some ((some 11), false))⟩, ⟨(some 15), (.pick (.t 11) (.v bt) (.t 14)), none⟩, ⟨(some 16), (.mov (.t 15)), none⟩, ⟨(some 17), (.load true 9 (.t 2)), (some ((some 16), false))⟩, ⟨(some 18), (.call i6 (.v (.fn 10 [] [])) [(.t 17)]), (some ((some 16), false))⟩, ⟨(some 19), (.bin .neq (.t 18) (.v (iz 0))), (some ((some 16), false))⟩, ⟨(some 20), (.pick (.t 16) (.v bt) (.t 19)), none⟩, ⟨(some 21), (.mov (.t 20)), none⟩, ⟨(some 22), (.mov (.t 1)), (some ((some 21), false))⟩, ⟨(some 23), (.bk .lenV [(.t 22)]), (some ((some 21), false))⟩, ⟨(some 24), (.bin .gtr (.t 23) (.v (iz 200))), (some ((some 21), false))⟩, ⟨(some 25), (.pick (.t 21) (.v bt) (.t 24)), none⟩]) (.cond (.t 25) (.seq (.reg [⟨(some 26), (.call .b (.v (.fn 7 [] [])) []), none⟩, ⟨(some 4), (.mov (.t 26)), none⟩]) .ret) .skip)) (.seq (.regS [⟨⟨(some 27), (.load true 9 (.t 2)), none⟩, none, [], []⟩, ⟨⟨(some 28), (.call .any (.v (.fn 9 [] [])) [(.t 27)]), none⟩, none, [], []⟩, ⟨⟨(some 29), (.load true 9 (.t 2)), none⟩, none, [1], []⟩, ⟨⟨(some 30), (.call .any (.v (.fn 9 [] [])) [(.t 29)]), none⟩, none, [], []⟩, ⟨⟨(some 5), (.mov (.t 28)), none⟩, none, [], []⟩, ⟨⟨(some 6), (.mov (.t 30)), none⟩, none, [], []⟩]) (.seq (.seq (.reg [⟨(some 31), (.mov (.t 6)), none⟩, ⟨(some 32), (.fldA 0 (.t 2)), none⟩, ⟨(some 33), (.load false 1 (.t 32)), none⟩, ⟨(some 34), (.bk .lenV [(.t 33)]), none⟩, ⟨(some 35), (.bin .sub (.t 34) (.v (iz 1))), none⟩, ⟨(some 36), (.call .b (.v (.fn 15 [] [])) [(.t 31), (.t 35), (.v (iz 5))]), none⟩, ⟨(some 37), (.un .not (.t 36)), none⟩]) (.cond (.t 37) (.seq (.reg [⟨(some 4), (.mov (.v bf)), none⟩]) .ret) .skip)) (.seq (.seq (.reg [⟨(some 38), (.mov (.t 1)), none⟩, ⟨(some 39), (.bk .lenV [(.t 38)]), none⟩, ⟨(some 40), (.mov (.v (iz 0))), none⟩]) (.block 0 (.loop (.seq (.reg [⟨(some 41), (.bin .lss (.t 40) (.t 39)), none⟩]) (.seq (.cond (.t 41) .skip (.exit 0)) (.seq (.block 1 (.seq (.reg [⟨(some 42), (.ixAS .b 1 (.t 38) (.t 40)), none⟩, ⟨(some 43), (.load false 1 (.t 42)), none⟩, ⟨(some 8), (.mov (.t 43)), none⟩]) (.seq (.regS [⟨⟨(some 44), (.mov (.t 5)), none⟩, none, [], []⟩, ⟨⟨(some 45), (.mov (.t 8)), none⟩, none, [], []⟩, ⟨⟨(some 46), (.mov (.t 8)), none⟩, none, [], []⟩, ⟨⟨(some 47), (.un .not (.t 46)), none⟩, none, [], []⟩, ⟨⟨(some 48), (.call .b (.v (.fn 13 [] [])) [(.t 44), (.t 45), (.t 47)]), none⟩, none, [], []⟩, ⟨⟨(some 49), (.mov (.t 48)), none⟩, none, [], []⟩, ⟨⟨(some 50), (.mov (.t 5)), (some ((some 49), false))⟩, none, [], []⟩, ⟨⟨(some 51), (.call i6 (.v (.fn 16 [] [])) [(.t 50)]), (some ((some 49), false))⟩, none, [], []⟩, ⟨⟨(some 52), (.bin .neq (.t 51) (.v (iz 0))), (some ((some 49), false))⟩, none, [], []⟩, ⟨⟨(some 53), (.pick (.t 49) (.v bt) (.t 52)), none⟩, none, [], []⟩, ⟨⟨(some 54), (.mov (.t 53)), none⟩, none, [], []⟩, ⟨⟨(some 55), (.mov (.t 6)), (some ((some 54), false))⟩, none, [], []⟩, ⟨⟨(some 56), (.call .b (.v (.fn 13 [] [])) [(.t 55), (.v bt), (.v bt)]), (some ((some 54), false))⟩, none, [], []⟩, ⟨⟨(some 57), (.pick (.t 54) (.v bt) (.t 56)), none⟩, none, [], []⟩, ⟨⟨(some 58), (.mov (.t 57)), none⟩, none, [], []⟩, ⟨⟨(some 59), (.mov (.t 6)), (some ((some 58), false))⟩, none, [], []⟩, ⟨⟨(some 60), (.call i6 (.v (.fn 16 [] [])) [(.t 59)]), (some ((some 58), false))⟩, none, [], []⟩, ⟨⟨(some 61), (.fldA 0 (.t 2)), (some ((some 58), false))⟩, none, [], []⟩, ⟨⟨(some 62), (.load false 1 (.t 61)), (some ((some 58), false))⟩, none, [16], []⟩, ⟨⟨(some 63), (.bk .lenV [(.t 62)]), (some ((some 58), false))⟩, none, [16], []⟩, ⟨⟨(some 64), (.bin .sub (.t 63) (.v (iz 1))), (some ((some 58), false))⟩, none, [], []⟩, ⟨⟨(some 65), (.bin .neq (.t 60) (.t 64)), (some ((some 58), false))⟩, none, [], []⟩, ⟨⟨(some 66), (.pick (.t 58) (.v bt) (.t 65)), none⟩, none, [], []⟩, ⟨⟨(some 67), (.mov (.t 66)), none⟩, none, [], []⟩, ⟨⟨(some 68), (.mov (.t 6)), (some ((some 67), false))⟩, none, [], []⟩, ⟨⟨(some 69), (.call .b (.v (.fn 11 [] [])) [(.t 68), (.v (iz 1099511627776)), (.v bt)]), (some ((some 67), false))⟩, none, [], []⟩, ⟨⟨(some 70), (.pick (.t 67) (.v bt) (.t 69)), none⟩, none, [], []⟩]) (.cond (.t 70) (.seq (.reg [⟨(some 4), (.mov (.v bf)), none⟩]) .ret) .skip)))) (.reg [⟨(some 71), (.bin .add (.t 40) (.v (iz 1))), none⟩, ⟨(some 40), (.mov (.t 71)), none⟩]))))))) (.seq (.reg [⟨(some 72), (.mov (.t 5)), none⟩, ⟨(some 73), (.call i6 (.v (.fn 17 [] [])) [(.t 72)]), none⟩, ⟨(some 74), (.mov (.t 1)), none⟩, ⟨(some 75), (.bk .lenV [(.t 74)]), none⟩, ⟨(some 76), (.bin .eql (.t 73) (.t 75)), none⟩, ⟨(some 77), (.mov (.t 76)), none⟩, ⟨(some 78), (.mov (.t 6)), (some ((some 77), true))⟩, ⟨(some 79), (.call i6 (.v (.fn 17 [] [])) [(.t 78)]), (some ((some 77), true))⟩, ⟨(some 80), (.mov (.t 1)), (some ((some 77), true))⟩, ⟨(some 81), (.bk .lenV [(.t 80)]), (some ((some 77), true))⟩, ⟨(some 82), (.bin .add (.t 81) (.v (iz 5))), (some ((some 77), true))⟩, ⟨(some 83), (.bin .eql (.t 79) (.t 82)), (some ((some 77), true))⟩, ⟨(some 84), (.pick (.t 77) (.t 83) (.v bf)), none⟩, ⟨(some 4), (.mov (.t 84)), none⟩]) .ret))))))⟩
/-- apogee/apogeelaw21.awake -/
def c7 : AFn := ⟨89, [(.tmp 0)], (.seq (.reg [⟨(some 0), (.mov (.v bf)), none⟩]) (.seq (.reg [⟨(some 8), (.call (.agg [.l, i6, i6, i6, i6, i6, i6, i6, i6]) (.v (.fn 21 [] [])) [(.v (iz 2))]), none⟩, ⟨(some 9), (.call .any (.v (.fn 9 [] [])) [(.t 8)]), none⟩, ⟨(some 1), (.mov (.t 9)), none⟩]) (.seq (.seq (.reg [⟨(some 10), (.mov (.t 1)), none⟩, ⟨(some 11), (.eqv false 1 [] (.t 10) (.v .nilp)), none⟩, ⟨(some 12), (.mov (.t 11)), none⟩, ⟨(some 13), (.build [(.zsl true), (iz 0), (iz 0), (iz 0), (iz 0), (iz 0), (iz 0), (iz 0), (iz 0)] []), (some ((some 12), false))⟩, ⟨(some 14), (.call .any (.v (.fn 9 [] [])) [(.t 13)]), (some ((some 12), false))⟩, ⟨(some 15), (.eqv true 1 [] (.t 14) (.v .nilp)), (some ((some 12), false))⟩, ⟨(some 16), (.pick (.t 12) (.v bt) (.t 15)), none⟩]) (.cond (.t 16) (.seq (.reg [⟨(some 0), (.mov (.v bf)), none⟩]) .ret) .skip)) (.seq (.seq (.reg [⟨(some 17), (.mov (.v (iz 0))), none⟩]) (.block 0 (.loop (.seq (.reg [⟨(some 18), (.bin .lss (.t 17) (.v (iz 5))), none⟩]) (.seq (.cond (.t 18) .skip (.exit 0)) (.seq (.block 1 (.seq (.reg [⟨(some 19), (.mov (.t 1)), none⟩, ⟨(some 20), (.call .b (.v (.fn 11 [] [])) [(.t 19), (.v (iz 500)), (.v bt)]), none⟩, ⟨(some 21), (.mov (.t 20)), none⟩, ⟨(some 22), (.mov (.t 1)), (some ((some 21), false))⟩, ⟨(some 23), (.mov (.t 1)), (some ((some 21), false))⟩, ⟨(some 24), (.call .b (.v (.fn 11 [] [])) [(.t 23), (.v (iz 500)), (.v bt)]), (some ((some 21), false))⟩, ⟨(some 25), (.call .b (.v (.fn 13 [] [])) [(.t 22), (.t 24), (.v bt)]), (some ((some 21), false))⟩, ⟨(some 26), (.pick (.t 21) (.v bt) (.t 25)), none⟩]) (.cond (.t 26) (.seq (.reg [⟨(some 0), (.mov (.v bf)), none⟩]) .ret) .skip))) (.reg [⟨(some 27), (.bin .add (.t 17) (.v (iz 1))), none⟩, ⟨(some 17), (.mov (.t 27)), none⟩]))))))) (.seq (.reg [⟨(some 28), (.mov (.t 1)), none⟩, ⟨(some 29), (.call .b (.v (.fn 11 [] [])) [(.t 28), (.v (iz 99)), (.v bt)]), none⟩, ⟨(some 30), (.mov (.t 1)), none⟩, ⟨(some 31), (.call .b (.v (.fn 11 [] [])) [(.t 30), (.v (iz 500)), (.v bf)]), none⟩, ⟨(some 32), (.mov (.t 1)), none⟩, ⟨(some 33), (.call .b (.v (.fn 11 [] [])) [(.t 32), (.v (iz 100)), (.v bt)]), none⟩, ⟨(some 2), (.mov (.t 29)), none⟩, ⟨(some 3), (.mov (.t 31)), none⟩, ⟨(some 4), (.mov (.t 33)), none⟩]) (.seq (.reg [⟨(some 34), (.mov (.t 1)), none⟩, ⟨(some 35), (.call .b (.v (.fn 13 [] [])) [(.t 34), (.v bt), (.v bf)]), none⟩, ⟨(some 5), (.mov (.t 35)), none⟩]) (.seq (.reg [⟨(some 36), (.mov (.t 1)), none⟩, ⟨(some 37), (.call .b (.v (.fn 13 [] [])) [(.t 36), (.v bt), (.v bt)]), none⟩, ⟨(some 6), (.mov (.t 37)), none⟩]) (.seq (.reg [⟨(some 38), (.mov (.t 1)), none⟩, ⟨(some 39), (.call .b (.v (.fn 15 [] [])) [(.t 38), (.v (iz 2)), (.v (iz 0))]), none⟩, ⟨(some 7), (.mov (.t 39)), none⟩]) (.seq (.reg [⟨(some 40), (.mov (.t 2)), none⟩, ⟨(some 41), (.un .not (.t 40)), none⟩, ⟨(some 42), (.mov (.t 41)), none⟩, ⟨(some 43), (.mov (.t 3)), (some ((some 42), true))⟩, ⟨(some 44), (.un .not (.t 43)), (some ((some 42), true))⟩, ⟨(some 45), (.pick (.t 42) (.t 44) (.v bf)), none⟩, ⟨(some 46), (.mov (.t 45)), none⟩, ⟨(some 47), (.mov (.t 4)), (some ((some 46), true))⟩, ⟨(some 48), (.pick (.t 46) (.t 47) (.v bf)), none⟩, ⟨(some 49), (.mov (.t 48)), none⟩, ⟨(some 50), (.mov (.t 5)), (some ((some 49), true))⟩, ⟨(some 51), (.un .not (.t 50)), (some ((some 49), true))⟩, ⟨(some 52), (.pick (.t 49) (.t 51) (.v bf)), none⟩, ⟨(some 53), (.mov (.t 52)), none⟩, ⟨(some 54), (.mov (.t 6)), (some ((some 53), true))⟩, ⟨(some 55), (.pick (.t 53) (.t 54) (.v bf)), none⟩, ⟨(some 56), (.mov (.t 55)), none⟩, ⟨(some 57), (.mov (.t 1)), (some ((some 56), true))⟩, ⟨(some 58), (.call i6 (.v (.fn 16 [] [])) [(.t 57)]), (some ((some 56), true))⟩, ⟨(some 59), (.bin .eql (.t 58) (.v (iz 1))), (some ((some 56), true))⟩, ⟨(some 60), (.pick (.t 56) (.t 59) (.v bf)), none⟩, ⟨(some 61), (.mov (.t 60)), none⟩, ⟨(some 62), (.mov (.t 1)), (some ((some 61), true))⟩, ⟨(some 63), (.call i6 (.v (.fn 17 [] [])) [(.t 62)]), (some ((some 61), true))⟩, ⟨(some 64), (.bin .eql (.t 63) (.v (iz 0))), (some ((some 61), true))⟩, ⟨(some 65), (.pick (.t 61) (.t 64) (.v bf)), none⟩, ⟨(some 66), (.mov (.t 65)), none⟩, ⟨(some 67), (.mov (.t 1)), (some ((some 66), true))⟩, ⟨(some 68), (.call .b (.v (.fn 18 [] [])) [(.t 67)]), (some ((some 66), true))⟩, ⟨(some 69), (.pick (.t 66) (.t 68) (.v bf)), none⟩, ⟨(some 70), (.mov (.t 69)), none⟩, ⟨(some 71), (.mov (.t 7)), (some ((some 70), true))⟩, ⟨(some 72), (.un .not (.t 71)), (some ((some 70), true))⟩, ⟨(some 73), (.pick (.t 70) (.t 72) (.v bf)), none⟩, ⟨(some 74), (.mov (.t 73)), none⟩, ⟨(some 75), (.mov (.t 1)), (some ((some 74), true))⟩, ⟨(some 76), (.call .b (.v (.fn 15 [] [])) [(.t 75), (.v (iz 0)), (.v (iz 7))]), (some ((some 74), true))⟩, ⟨(some 77), (.pick (.t 74) (.t 76) (.v bf)), none⟩, ⟨(some 78), (.mov (.t 77)), none⟩, ⟨(some 79), (.mov (.t 1)), (some ((some 78), true))⟩, ⟨(some 80), (.call i6 (.v (.fn 17 [] [])) [(.t 79)]), (some ((some 78), true))⟩, ⟨(some 81), (.bin .eql (.t 80) (.v (iz 7))), (some ((some 78), true))⟩, ⟨(some 82), (.pick (.t 78) (.t 81) (.v bf)), none⟩, ⟨(some 83), (.mov (.t 82)), none⟩, ⟨(some 84), (.mov (.t 1)), (some ((some 83), true))⟩, ⟨(some 85), (.call (.agg [.l, i6, i6, i6, i6]) (.v (.fn 20 [] [])) [(.t 84)]), (some ((some 83), true))⟩, ⟨(some 86), (.fld false 1 3 (.t 85)), (some ((some 83), true))⟩, ⟨(some 87), (.bin .eql (.t 86) (.v (iz 5))), (some ((some 83), true))⟩, ⟨(some 88), (.pick (.t 83) (.t 87) (.v bf)), none⟩, ⟨(some 0), (.mov (.t 88)), none⟩]) .ret)))))))))⟩
/-- apogee/apogeeref13.Few -/
def c8 : AFn := ⟨23, [(.tmp 2)], (.seq (.reg [⟨(some 1), (.box E24 (.t 0)), none⟩, ⟨(some 2), (.mov (.v bf)), none⟩]) (.seq (.seq (.reg [⟨(some 3), (.mov (.v (iz 0))), none⟩]) (.block 0 (.loop (.seq (.seq (.reg [⟨(some 4), (.mov (.t 3)), none⟩, ⟨(some 5), (.fldA 0 (.t 1)), none⟩, ⟨(some 6), (.load false 1 (.t 5)), none⟩, ⟨(some 7), (.bk .lenV [(.t 6)]), none⟩, ⟨(some 8), (.bin .lss (.t 4) (.t 7)), none⟩]) (.cond (.t 8) .skip (.exit 0))) (.seq (.block 1 (.seq (.reg [⟨(some 11), (.fldA 0 (.t 1)), none⟩, ⟨(some 12), (.load false 1 (.t 11)), none⟩, ⟨(some 13), (.mov (.t 3)), none⟩, ⟨(some 14), (.ixAS (.agg [.l, i6, i6, i6, i6]) 5 (.t 12) (.t 13)), none⟩, ⟨(some 15), (.fldA 0 (.t 14)), none⟩, ⟨(some 16), (.load false 1 (.t 15)), none⟩, ⟨(some 17), (.bk .lenV [(.t 16)]), none⟩, ⟨(some 18), (.bin .gtr (.t 17) (.v (iz 12))), none⟩]) (.cond (.t 18) (.seq (.reg [⟨(some 2), (.mov (.v bf)), none⟩]) .ret) .skip))) (.reg [⟨(some 9), (.mov (.t 3)), none⟩, ⟨(some 10), (.bin .add (.t 9) (.v (iz 1))), none⟩, ⟨(some 3), (.mov (.t 10)), none⟩])))))) (.seq (.reg [⟨(some 19), (.fldA 0 (.t 1)), none⟩, ⟨(some 20), (.load false 1 (.t 19)), none⟩, ⟨(some 21), (.bk .lenV [(.t 20)]), none⟩, ⟨(some 22), (.bin .leq (.t 21) (.v (iz 8))), none⟩, ⟨(some 2), (.mov (.t 22)), none⟩]) .ret)))⟩
/-- apogee/phase.New -/
def c9 : AFn := ⟨11, [(.tmp 2)], (.seq (.reg [⟨(some 1), (.box E24 (.t 0)), none⟩, ⟨(some 2), (.mov (.v .nilp)), none⟩]) (.seq (.seq (.reg [⟨(some 3), (.load true 9 (.t 1)), none⟩, ⟨(some 4), (.call .b (.v (.fn 22 [] [])) [(.t 3)]), none⟩, ⟨(some 5), (.un .not (.t 4)), none⟩]) (.cond (.t 5) (.seq (.reg [⟨(some 2), (.mov (.v .nilp)), none⟩]) .ret) .skip)) (.seq (.reg [⟨(some 6), (.load true 9 (.t 1)), none⟩, ⟨(some 7), (.call (.agg [.l, i6, i6, i6, i6, i6, i6, i6, i6]) (.v (.fn 23 [] [])) [(.t 6)]), none⟩, ⟨(some 8), (.call .any (.v (.fn 24 [] [])) [(.v (iz 1000000))]), none⟩, ⟨(some 9), (.build [(.zsl true), (iz 0), (iz 0), (iz 0), (iz 0), (iz 0), (iz 0), (iz 0), (iz 0), (iz 0), .nilp] [(0, (9, (.t 7))), (10, (1, (.t 8)))]), none⟩, ⟨(some 10), (.box E54 (.t 9)), none⟩, ⟨(some 2), (.mov (.t 10)), none⟩]) .ret)))⟩
/-- apogee/apogeeref13.Wrong -/
def c10 : AFn := ⟨73, [(.tmp 2)], (.seq (.reg [⟨(some 1), (.box E24 (.t 0)), none⟩, ⟨(some 2), (.mov (.v (iz 0))), none⟩]) (.seq (.seq (.reg [⟨(some 4), (.fldA 0 (.t 1)), none⟩, ⟨(some 5), (.load false 1 (.t 4)), none⟩, ⟨(some 6), (.bk .lenV [(.t 5)]), none⟩, ⟨(some 7), (.bin .lss (.t 6) (.v (iz 1))), none⟩, ⟨(some 8), (.mov (.t 7)), none⟩, ⟨(some 9), (.fldA 0 (.t 1)), (some ((some 8), false))⟩, ⟨(some 10), (.load false 1 (.t 9)), (some ((some 8), false))⟩, ⟨(some 11), (.bk .lenV [(.t 10)]), (some ((some 8), false))⟩, ⟨(some 12), (.bin .gtr (.t 11) (.v (iz 4))), (some ((some 8), false))⟩, ⟨(some 13), (.pick (.t 8) (.v bt) (.t 12)), none⟩]) (.cond (.t 13) (.seq (.reg [⟨(some 2), (.mov (.v (iz 1))), none⟩]) .ret) .skip)) (.seq (.seq (.reg [⟨(some 3), (.mov (.v (iz 0))), none⟩]) (.block 0 (.loop (.seq (.seq (.reg [⟨(some 14), (.mov (.t 3)), none⟩, ⟨(some 15), (.fldA 0 (.t 1)), none⟩, ⟨(some 16), (.load false 1 (.t 15)), none⟩, ⟨(some 17), (.bk .lenV [(.t 16)]), none⟩, ⟨(some 18), (.bin .lss (.t 14) (.t 17)), none⟩]) (.cond (.t 18) .skip (.exit 0))) (.seq (.block 1 (.seq (.reg [⟨(some 21), (.fldA 0 (.t 1)), none⟩, ⟨(some 22), (.load false 1 (.t 21)), none⟩, ⟨(some 23), (.mov (.t 3)), none⟩, ⟨(some 24), (.ixAS (.agg [.l, i6, i6, i6, i6]) 5 (.t 22) (.t 23)), none⟩, ⟨(some 25), (.load true 5 (.t 24)), none⟩, ⟨(some 26), (.call .b (.v (.fn 25 [] [])) [(.t 25)]), none⟩, ⟨(some 27), (.un .not (.t 26)), none⟩]) (.cond (.t 27) (.seq (.reg [⟨(some 2), (.mov (.v (iz 2))), none⟩]) .ret) .skip))) (.reg [⟨(some 19), (.mov (.t 3)), none⟩, ⟨(some 20), (.bin .add (.t 19) (.v (iz 1))), none⟩, ⟨(some 3), (.mov (.t 20)), none⟩])))))) (.seq (.block 2 (.seq (.reg [⟨(some 29), (.fldA 1 (.t 1)), none⟩, ⟨(some 30), (.load false 1 (.t 29)), none⟩, ⟨(some 31), (.call .b (.v (.fn 26 [] [])) [(.t 30), (.v (iz 1)), (.v (iz 50))]), none⟩, ⟨(some 32), (.un .not (.t 31)), none⟩, ⟨(some 33), (.mov (.t 32)), none⟩, ⟨(some 34), (.fldA 2 (.t 1)), (some ((some 33), false))⟩, ⟨(some 35), (.load false 1 (.t 34)), (some ((some 33), false))⟩, ⟨(some 36), (.call .b (.v (.fn 26 [] [])) [(.t 35), (.v (iz 1)), (.v (iz 50))]), (some ((some 33), false))⟩, ⟨(some 37), (.un .not (.t 36)), (some ((some 33), false))⟩, ⟨(some 38), (.pick (.t 33) (.v bt) (.t 37)), none⟩, ⟨(some 39), (.mov (.t 38)), none⟩, ⟨(some 40), (.fldA 3 (.t 1)), (some ((some 39), false))⟩, ⟨(some 41), (.load false 1 (.t 40)), (some ((some 39), false))⟩, ⟨(some 42), (.call .b (.v (.fn 26 [] [])) [(.t 41), (.v (iz 1)), (.v (iz 50))]), (some ((some 39), false))⟩, ⟨(some 43), (.un .not (.t 42)), (some ((some 39), false))⟩, ⟨(some 44), (.pick (.t 39) (.v bt) (.t 43)), none⟩, ⟨(some 28), (.mov (.t 44)), none⟩]) (.cond (.t 28) (.seq (.reg [⟨(some 2), (.mov (.v (iz 3))), none⟩]) .ret) (.seq (.reg [⟨(some 46), (.fldA 4 (.t 1)), none⟩, ⟨(some 47), (.load false 1 (.t 46)), none⟩, ⟨(some 48), (.call .b (.v (.fn 26 [] [])) [(.t 47), (.v (iz 0)), (.v (iz 1024))]), none⟩, ⟨(some 49), (.un .not (.t 48)), none⟩, ⟨(some 45), (.mov (.t 49)), none⟩]) (.cond (.t 45) (.seq (.reg [⟨(some 2), (.mov (.v (iz 4))), none⟩]) .ret) (.seq (.reg [⟨(some 51), (.fldA 5 (.t 1)), none⟩, ⟨(some 52), (.load false 1 (.t 51)), none⟩, ⟨(some 53), (.call .b (.v (.fn 26 [] [])) [(.t 52), (.v (iz 1)), (.v (iz 65536))]), none⟩, ⟨(some 54), (.un .not (.t 53)), none⟩, ⟨(some 50), (.mov (.t 54)), none⟩]) (.cond (.t 50) (.seq (.reg [⟨(some 2), (.mov (.v (iz 5))), none⟩]) .ret) (.seq (.reg [⟨(some 56), (.fldA 6 (.t 1)), none⟩, ⟨(some 57), (.load false 1 (.t 56)), none⟩, ⟨(some 58), (.call .b (.v (.fn 26 [] [])) [(.t 57), (.v (iz 1)), (.v (iz 50))]), none⟩, ⟨(some 59), (.un .not (.t 58)), none⟩, ⟨(some 55), (.mov (.t 59)), none⟩]) (.cond (.t 55) (.seq (.reg [⟨(some 2), (.mov (.v (iz 6))), none⟩]) .ret) (.seq (.reg [⟨(some 61), (.fldA 7 (.t 1)), none⟩, ⟨(some 62), (.load false 1 (.t 61)), none⟩, ⟨(some 63), (.call .b (.v (.fn 26 [] [])) [(.t 62), (.v (iz 1)), (.v (iz 1073741824))]), none⟩, ⟨(some 64), (.un .not (.t 63)), none⟩, ⟨(some 60), (.mov (.t 64)), none⟩]) (.cond (.t 60) (.seq (.reg [⟨(some 2), (.mov (.v (iz 7))), none⟩]) .ret) (.seq (.reg [⟨(some 66), (.fldA 8 (.t 1)), none⟩, ⟨(some 67), (.load false 1 (.t 66)), none⟩, ⟨(some 68), (.fldA 0 (.t 1)), none⟩, ⟨(some 69), (.load false 1 (.t 68)), none⟩, ⟨(some 70), (.bk .lenV [(.t 69)]), none⟩, ⟨(some 71), (.call .b (.v (.fn 26 [] [])) [(.t 67), (.v (iz 0)), (.t 70)]), none⟩, ⟨(some 72), (.un .not (.t 71)), none⟩, ⟨(some 65), (.mov (.t 72)), none⟩]) (.cond (.t 65) (.seq (.reg [⟨(some 2), (.mov (.v (iz 8))), none⟩]) .ret) .skip))))))))))))) (.seq (.reg [⟨(some 2), (.mov (.v (iz 0))), none⟩]) .ret)))))⟩
/-- (*apogee/phase.Machine).Wish -/
def c11 : AFn := ⟨29, [(.tmp 6)], (.seq (.reg [⟨(some 6), (.mov (.v bf)), none⟩]) (.seq (.reg [⟨(some 8), (.mov (.t 0)), none⟩, ⟨(some 9), (.call (.agg [.l, i6, i6, i6, i6]) (.v (.fn 20 [] [])) [(.t 8)]), none⟩, ⟨(some 7), (.alloc E43), none⟩, ⟨none, (.store 5 (.t 7) (.t 9)), none⟩]) (.seq (.regS [⟨⟨(some 10), (.mov (.t 2)), none⟩, none, [], []⟩, ⟨⟨(some 11), (.mov (.t 10)), none⟩, none, [], []⟩, ⟨⟨(some 12), (.mov (.t 0)), (some ((some 11), true))⟩, none, [], []⟩, ⟨⟨(some 13), (.call .b (.v (.fn 18 [] [])) [(.t 12)]), (some ((some 11), true))⟩, none, [], []⟩, ⟨⟨(some 14), (.un .not (.t 13)), (some ((some 11), true))⟩, none, [], []⟩, ⟨⟨(some 15), (.pick (.t 11) (.t 14) (.v bf)), none⟩, none, [], []⟩, ⟨⟨(some 16), (.mov (.t 15)), none⟩, none, [], []⟩, ⟨⟨(some 17), (.mov (.t 0)), (some ((some 16), true))⟩, none, [], []⟩, ⟨⟨(some 18), (.call i6 (.v (.fn 17 [] [])) [(.t 17)]), (some ((some 16), true))⟩, none, [], []⟩, ⟨⟨(some 19), (.fldA 3 (.t 7)), (some ((some 16), true))⟩, none, [], []⟩, ⟨⟨(some 20), (.load false 1 (.t 19)), (some ((some 16), true))⟩, none, [8], []⟩, ⟨⟨(some 21), (.bin .geq (.t 18) (.t 20)), (some ((some 16), true))⟩, none, [], []⟩, ⟨⟨(some 22), (.pick (.t 16) (.t 21) (.v bf)), none⟩, none, [], []⟩, ⟨⟨(some 23), (.mov (.t 22)), none⟩, none, [], []⟩, ⟨⟨(some 24), (.mov (.t 1)), (some ((some 23), true))⟩, none, [], []⟩, ⟨⟨(some 25), (.fldA 4 (.t 7)), (some ((some 23), true))⟩, none, [], []⟩, ⟨⟨(some 26), (.load false 1 (.t 25)), (some ((some 23), true))⟩, none, [], []⟩, ⟨⟨(some 27), (.bin .geq (.t 24) (.t 26)), (some ((some 23), true))⟩, none, [], []⟩, ⟨⟨(some 28), (.pick (.t 23) (.t 27) (.v bf)), none⟩, none, [], []⟩, ⟨⟨(some 6), (.mov (.t 28)), none⟩, none, [], []⟩]) .ret)))⟩
/-- (*apogee/phase.Machine).Cycle -/
def c13 : AFn := ⟨36, [(.tmp 6)], (.seq (.reg [⟨(some 6), (.mov (.v bf)), none⟩]) (.seq (.seq (.reg [⟨(some 7), (.mov (.t 0)), none⟩, ⟨(some 8), (.eqv false 1 [] (.t 7) (.v .nilp)), none⟩]) (.cond (.t 8) (.seq (.reg [⟨(some 6), (.mov (.v bf)), none⟩]) .ret) .skip)) (.seq (.seq (.reg [⟨(some 9), (.mov (.t 1)), none⟩, ⟨(some 10), (.un .not (.t 9)), none⟩, ⟨(some 11), (.mov (.t 10)), none⟩, ⟨(some 12), (.mov (.t 2)), (some ((some 11), false))⟩, ⟨(some 13), (.un .not (.t 12)), (some ((some 11), false))⟩, ⟨(some 14), (.pick (.t 11) (.v bt) (.t 13)), none⟩, ⟨(some 15), (.mov (.t 14)), none⟩, ⟨(some 16), (.mov (.t 0)), (some ((some 15), false))⟩, ⟨(some 17), (.call .b (.v (.fn 18 [] [])) [(.t 16)]), (some ((some 15), false))⟩, ⟨(some 18), (.pick (.t 15) (.v bt) (.t 17)), none⟩]) (.cond (.t 18) (.seq (.reg [⟨(some 19), (.mov (.t 0)), none⟩, ⟨(some 20), (.nilck (.t 19)), none⟩, ⟨(some 21), (.fldA 10 (.t 20)), none⟩, ⟨(some 22), (.load false 1 (.t 21)), none⟩, ⟨(some 23), (.call i6 (.v (.fn 27 [] [])) [(.t 22)]), none⟩]) (.seq (.reg [⟨(some 6), (.mov (.v bf)), none⟩]) .ret)) .skip)) (.seq (.reg [⟨(some 24), (.mov (.t 0)), none⟩, ⟨(some 25), (.nilck (.t 24)), none⟩, ⟨(some 26), (.fldA 9 (.t 25)), none⟩, ⟨(some 27), (.load false 1 (.t 26)), none⟩, ⟨(some 28), (.bin .add (.t 27) (.v (iz 1))), none⟩, ⟨(some 29), (.nilck (.t 24)), none⟩, ⟨(some 30), (.fldA 9 (.t 29)), none⟩, ⟨none, (.store 1 (.t 30) (.t 28)), none⟩]) (.seq (.reg [⟨(some 31), (.mov (.t 0)), none⟩, ⟨(some 32), (.nilck (.t 31)), none⟩, ⟨(some 33), (.fldA 10 (.t 32)), none⟩, ⟨(some 34), (.load false 1 (.t 33)), none⟩, ⟨(some 35), (.call (.tup []) (.v (.fn 28 [] [])) [(.t 34)]), none⟩]) (.seq (.reg [⟨(some 6), (.mov (.v bt)), none⟩]) .ret))))))⟩
/-- (*apogee/phase.Machine).Set -/
def c15 : AFn := ⟨41, [(.tmp 6)], (.seq (.reg [⟨(some 6), (.mov (.v bf)), none⟩]) (.seq (.seq (.reg [⟨(some 7), (.mov (.t 0)), none⟩, ⟨(some 8), (.eqv false 1 [] (.t 7) (.v .nilp)), none⟩, ⟨(some 9), (.mov (.t 8)), none⟩, ⟨(some 10), (.mov (.t 1)), (some ((some 9), false))⟩, ⟨(some 11), (.bin .lss (.t 10) (.v (iz 0))), (some ((some 9), false))⟩, ⟨(some 12), (.pick (.t 9) (.v bt) (.t 11)), none⟩, ⟨(some 13), (.mov (.t 12)), none⟩, ⟨(some 14), (.mov (.t 1)), (some ((some 13), false))⟩, ⟨(some 15), (.mov (.t 0)), (some ((some 13), false))⟩, ⟨(some 16), (.nilck (.t 15)), (some ((some 13), false))⟩, ⟨(some 17), (.fldA 0 (.t 16)), (some ((some 13), false))⟩, ⟨(some 18), (.fldA 0 (.t 17)), (some ((some 13), false))⟩, ⟨(some 19), (.load false 1 (.t 18)), (some ((some 13), false))⟩, ⟨(some 20), (.bk .lenV [(.t 19)]), (some ((some 13), false))⟩, ⟨(some 21), (.bin .geq (.t 14) (.t 20)), (some ((some 13), false))⟩, ⟨(some 22), (.pick (.t 13) (.v bt) (.t 21)), none⟩, ⟨(some 23), (.mov (.t 22)), none⟩, ⟨(some 24), (.mov (.t 2)), (some ((some 23), false))⟩, ⟨(some 25), (.bin .lss (.t 24) (.v (iz 0))), (some ((some 23), false))⟩, ⟨(some 26), (.pick (.t 23) (.v bt) (.t 25)), none⟩, ⟨(some 27), (.mov (.t 26)), none⟩, ⟨(some 28), (.mov (.t 2)), (some ((some 27), false))⟩, ⟨(some 29), (.bin .gtr (.t 28) (.v (iz 1000000))), (some ((some 27), false))⟩, ⟨(some 30), (.pick (.t 27) (.v bt) (.t 29)), none⟩]) (.cond (.t 30) (.seq (.reg [⟨(some 6), (.mov (.v bf)), none⟩]) .ret) .skip)) (.seq (.reg [⟨(some 31), (.mov (.t 0)), none⟩, ⟨(some 32), (.mov (.t 1)), none⟩, ⟨(some 33), (.nilck (.t 31)), none⟩, ⟨(some 34), (.fldA 9 (.t 33)), none⟩, ⟨none, (.store 1 (.t 34) (.t 32)), none⟩]) (.seq (.reg [⟨(some 35), (.mov (.t 0)), none⟩, ⟨(some 36), (.nilck (.t 35)), none⟩, ⟨(some 37), (.fldA 10 (.t 36)), none⟩, ⟨(some 38), (.load false 1 (.t 37)), none⟩, ⟨(some 39), (.mov (.t 2)), none⟩, ⟨(some 40), (.call (.tup []) (.v (.fn 29 [] [])) [(.t 38), (.t 39)]), none⟩]) (.seq (.reg [⟨(some 6), (.mov (.v bt)), none⟩]) .ret)))))⟩
/-- (*apogee/phase.Machine).Phase -/
def c16 : AFn := ⟨9, [(.tmp 2)], (.seq (.reg [⟨(some 2), (.mov (.v (iz 0))), none⟩]) (.seq (.seq (.reg [⟨(some 3), (.mov (.t 0)), none⟩, ⟨(some 4), (.eqv false 1 [] (.t 3) (.v .nilp)), none⟩]) (.cond (.t 4) (.seq (.reg [⟨(some 2), (.mov (.v (iz 0))), none⟩]) .ret) .skip)) (.seq (.reg [⟨(some 5), (.mov (.t 0)), none⟩, ⟨(some 6), (.nilck (.t 5)), none⟩, ⟨(some 7), (.fldA 9 (.t 6)), none⟩, ⟨(some 8), (.load false 1 (.t 7)), none⟩, ⟨(some 2), (.mov (.t 8)), none⟩]) .ret)))⟩
/-- (*apogee/phase.Machine).In -/
def c17 : AFn := ⟨10, [(.tmp 2)], (.seq (.reg [⟨(some 2), (.mov (.v (iz 0))), none⟩]) (.seq (.seq (.reg [⟨(some 3), (.mov (.t 0)), none⟩, ⟨(some 4), (.eqv false 1 [] (.t 3) (.v .nilp)), none⟩]) (.cond (.t 4) (.seq (.reg [⟨(some 2), (.mov (.v (iz 0))), none⟩]) .ret) .skip)) (.seq (.reg [⟨(some 5), (.mov (.t 0)), none⟩, ⟨(some 6), (.nilck (.t 5)), none⟩, ⟨(some 7), (.fldA 10 (.t 6)), none⟩, ⟨(some 8), (.load false 1 (.t 7)), none⟩, ⟨(some 9), (.call i6 (.v (.fn 30 [] [])) [(.t 8)]), none⟩, ⟨(some 2), (.mov (.t 9)), none⟩]) .ret)))⟩
/-- (*apogee/phase.Machine).Last -/
def c18 : AFn := ⟨19, [(.tmp 2)], (.seq (.reg [⟨(some 2), (.mov (.v bf)), none⟩]) (.seq (.regD [(⟨(some 3), (.mov (.t 0)), none⟩, []), (⟨(some 4), (.eqv false 1 [] (.t 3) (.v .nilp)), none⟩, []), (⟨(some 5), (.mov (.t 4)), none⟩, []), (⟨(some 6), (.mov (.t 0)), (some ((some 5), false))⟩, []), (⟨(some 7), (.nilck (.t 6)), (some ((some 5), false))⟩, []), (⟨(some 8), (.fldA 9 (.t 7)), (some ((some 5), false))⟩, []), (⟨(some 9), (.load false 1 (.t 8)), (some ((some 5), false))⟩, []), (⟨(some 10), (.bin .add (.t 9) (.v (iz 1))), (some ((some 5), false))⟩, []), (⟨(some 11), (.mov (.t 0)), (some ((some 5), false))⟩, []), (⟨(some 12), (.nilck (.t 11)), (some ((some 5), false))⟩, []), (⟨(some 13), (.fldA 0 (.t 12)), (some ((some 5), false))⟩, []), (⟨(some 14), (.fldA 0 (.t 13)), (some ((some 5), false))⟩, []), (⟨(some 15), (.load false 1 (.t 14)), (some ((some 5), false))⟩, []), (⟨(some 16), (.bk .lenV [(.t 15)]), (some ((some 5), false))⟩, []), (⟨(some 17), (.bin .eql (.t 10) (.t 16)), (some ((some 5), false))⟩, []), (⟨(some 18), (.pick (.t 5) (.v bt) (.t 17)), none⟩, []), (⟨(some 2), (.mov (.t 18)), none⟩, [])]) .ret))⟩
/-- (*apogee/phase.Machine).Now -/
def c20 : AFn := ⟨21, [(.cell true 5 2)], (.seq (.reg [⟨(some 2), (.alloc E43), none⟩]) (.seq (.seq (.reg [⟨(some 5), (.mov (.t 0)), none⟩, ⟨(some 6), (.eqv false 1 [] (.t 5) (.v .nilp)), none⟩]) (.cond (.t 6) (.seq (.reg [⟨(some 7), (.build [(.zsl true), (iz 0), (iz 0), (iz 0), (iz 0)] []), none⟩, ⟨none, (.store 5 (.t 2) (.t 7)), none⟩]) .ret) .skip)) (.seq (.regS [⟨⟨(some 9), (.mov (.t 0)), none⟩, none, [], []⟩, ⟨⟨(some 10), (.nilck (.t 9)), none⟩, none, [], []⟩, ⟨⟨(some 11), (.fldA 0 (.t 10)), none⟩, none, [], []⟩, ⟨⟨(some 12), (.load true 9 (.t 11)), none⟩, none, [], []⟩, ⟨⟨(some 13), (.mov (.t 0)), none⟩, none, [], []⟩, ⟨⟨(some 14), (.nilck (.t 13)), none⟩, none, [], []⟩, ⟨⟨(some 15), (.fldA 9 (.t 14)), none⟩, none, [], []⟩, ⟨⟨(some 16), (.load false 1 (.t 15)), none⟩, none, [], []⟩, ⟨⟨(some 17), (.call (.tup [(.agg [.l, i6, i6, i6, i6]), .b]) (.v (.fn 32 [] [])) [(.t 12), (.t 16)]), none⟩, none, [], [0]⟩, ⟨⟨(some 8), (.mov (.t 17)), none⟩, none, [], []⟩, ⟨⟨(some 18), (.extr (.t 8) 0), none⟩, none, [], []⟩, ⟨⟨(some 19), (.extr (.t 8) 1), none⟩, none, [], []⟩, ⟨⟨(some 3), (.alloc E43), none⟩, (some 0), [], []⟩, ⟨⟨none, (.store 5 (.t 3) (.t 18)), none⟩, none, [], []⟩, ⟨⟨(some 4), (.mov (.t 19)), none⟩, none, [], []⟩]) (.seq (.reg [⟨(some 20), (.load true 5 (.t 3)), none⟩, ⟨none, (.store 5 (.t 2) (.t 20)), none⟩]) .ret))))⟩
/-- apogee/apogeelaw13.Mission -/
def c21 : AFn := ⟨22, [(.cell true 9 2)], (.seq (.reg [⟨(some 2), (.alloc E24), none⟩]) (.seq (.reg [⟨(some 4), (.mov (.t 0)), none⟩, ⟨(some 5), (.build [(.zsl true), (iz 0), (iz 0), (iz 0), (iz 0), (iz 0), (iz 0), (iz 0), (iz 0)] [(1, (1, (.v (iz 2)))), (2, (1, (.v (iz 3)))), (3, (1, (.v (iz 4)))), (4, (1, (.v (iz 2)))), (5, (1, (.v (iz 50)))), (6, (1, (.v (iz 2)))), (7, (1, (.v (iz 10)))), (8, (1, (.t 4)))]), none⟩, ⟨(some 3), (.alloc E24), none⟩, ⟨none, (.store 9 (.t 3) (.t 5)), none⟩]) (.seq (.seq (.reg [⟨(some 6), (.mov (.t 0)), none⟩, ⟨(some 7), (.mov (.v (iz 0))), none⟩]) (.block 0 (.loop (.seq (.reg [⟨(some 8), (.bin .lss (.t 7) (.t 6)), none⟩]) (.seq (.cond (.t 8) .skip (.exit 0)) (.seq (.block 1 (.reg [⟨(some 9), (.fldA 0 (.t 3)), none⟩, ⟨(some 10), (.load false 1 (.t 9)), none⟩, ⟨(some 11), (.build [(iz 0), (iz 0)] [(0, (1, (.v (iz (-1000))))), (1, (1, (.v (iz (-1000)))))]), none⟩, ⟨(some 12), (.build [(iz 0), (iz 0)] [(0, (1, (.v (iz 1000)))), (1, (1, (.v (iz (-1000)))))]), none⟩, ⟨(some 13), (.build [(iz 0), (iz 0)] [(0, (1, (.v (iz 1000)))), (1, (1, (.v (iz 1000))))]), none⟩, ⟨(some 14), (.build [(iz 0), (iz 0)] [(0, (1, (.v (iz (-1000))))), (1, (1, (.v (iz 1000))))]), none⟩, ⟨(some 15), (.mkrow E62 4 [(0, (.t 11)), (1, (.t 12)), (2, (.t 13)), (3, (.t 14))]), none⟩, ⟨(some 16), (.build [(.zsl true), (iz 0), (iz 0), (iz 0), (iz 0)] [(0, (1, (.t 15))), (1, (1, (.v (iz 1)))), (2, (1, (.v (iz 200)))), (3, (1, (.v (iz 5)))), (4, (1, (.v (iz 100))))]), none⟩, ⟨(some 17), (.mkrow E43 1 [(0, (.t 16))]), none⟩, ⟨(some 18), (.app E43 (.t 10) (.t 17)), none⟩, ⟨(some 19), (.fldA 0 (.t 3)), none⟩, ⟨none, (.store 1 (.t 19) (.t 18)), none⟩])) (.reg [⟨(some 20), (.bin .add (.t 7) (.v (iz 1))), none⟩, ⟨(some 7), (.mov (.t 20)), none⟩]))))))) (.seq (.reg [⟨(some 21), (.load true 9 (.t 3)), none⟩, ⟨none, (.store 9 (.t 2) (.t 21)), none⟩]) .ret))))⟩
/-- apogee/rules.Right -/
def c22 : AFn := ⟨6, [(.tmp 2)], (.seq (.reg [⟨(some 1), (.box E24 (.t 0)), none⟩, ⟨(some 2), (.mov (.v bf)), none⟩]) (.seq (.reg [⟨(some 3), (.load true 9 (.t 1)), none⟩, ⟨(some 4), (.call i6 (.v (.fn 33 [] [])) [(.t 3)]), none⟩, ⟨(some 5), (.bin .eql (.t 4) (.v (iz 0))), none⟩, ⟨(some 2), (.mov (.t 5)), none⟩]) .ret))⟩
/-- apogee/rules.Copy -/
def c23 : AFn := ⟨28, [(.cell true 9 2)], (.seq (.reg [⟨(some 1), (.box E24 (.t 0)), none⟩, ⟨(some 2), (.alloc E24), none⟩]) (.seq (.reg [⟨(some 4), (.fldA 0 (.t 1)), none⟩, ⟨(some 5), (.load false 1 (.t 4)), none⟩, ⟨(some 6), (.call .l (.v (.fn 34 [] [])) [(.t 5)]), none⟩, ⟨(some 7), (.fldA 0 (.t 1)), none⟩, ⟨none, (.store 1 (.t 7) (.t 6)), none⟩]) (.seq (.seq (.reg [⟨(some 8), (.fldA 0 (.t 1)), none⟩, ⟨(some 9), (.load false 1 (.t 8)), none⟩, ⟨(some 10), (.bk .lenV [(.t 9)]), none⟩, ⟨(some 11), (.mov (.v (iz 0))), none⟩]) (.block 0 (.loop (.seq (.reg [⟨(some 12), (.bin .lss (.t 11) (.t 10)), none⟩]) (.seq (.cond (.t 12) .skip (.exit 0)) (.seq (.block 1 (.seq (.reg [⟨(some 13), (.mov (.t 11)), none⟩, ⟨(some 3), (.mov (.t 13)), none⟩]) (.regD [(⟨(some 14), (.fldA 0 (.t 1)), none⟩, []), (⟨(some 15), (.load false 1 (.t 14)), none⟩, []), (⟨(some 16), (.mov (.t 3)), none⟩, []), (⟨(some 17), (.fldA 0 (.t 1)), none⟩, []), (⟨(some 18), (.load false 1 (.t 17)), none⟩, []), (⟨(some 19), (.mov (.t 3)), none⟩, []), (⟨(some 20), (.ixAS (.agg [.l, i6, i6, i6, i6]) 5 (.t 18) (.t 19)), none⟩, []), (⟨(some 21), (.fldA 0 (.t 20)), none⟩, []), (⟨(some 22), (.load false 1 (.t 21)), none⟩, []), (⟨(some 23), (.call .l (.v (.fn 35 [] [])) [(.t 22)]), none⟩, []), (⟨(some 24), (.ixAS (.agg [.l, i6, i6, i6, i6]) 5 (.t 15) (.t 16)), none⟩, []), (⟨(some 25), (.fldA 0 (.t 24)), none⟩, []), (⟨none, (.store 1 (.t 25) (.t 23)), none⟩, [])]))) (.reg [⟨(some 26), (.bin .add (.t 11) (.v (iz 1))), none⟩, ⟨(some 11), (.mov (.t 26)), none⟩]))))))) (.seq (.reg [⟨(some 27), (.load true 9 (.t 1)), none⟩, ⟨none, (.store 9 (.t 2) (.t 27)), none⟩]) .ret))))⟩
/-- apogee/count.New -/
def c24 : AFn := ⟨8, [(.tmp 2)], (.seq (.reg [⟨(some 2), (.mov (.v .nilp)), none⟩]) (.seq (.reg [⟨(some 3), (.mov (.t 0)), none⟩, ⟨(some 4), (.bk .max [(.t 3), (.v (iz 0))]), none⟩, ⟨(some 5), (.bk .min [(.t 4), (.v (iz 1000000))]), none⟩, ⟨(some 6), (.build [(iz 0), (iz 0)] [(1, (1, (.t 5)))]), none⟩, ⟨(some 7), (.box E71 (.t 6)), none⟩, ⟨(some 2), (.mov (.t 7)), none⟩]) .ret))⟩
/-- apogee/apogeeref13.RightPhase -/
def c25 : AFn := ⟨26, [(.tmp 2)], (.seq (.reg [⟨(some 1), (.box E43 (.t 0)), none⟩, ⟨(some 2), (.mov (.v bf)), none⟩]) (.seq (.reg [⟨(some 3), (.fldA 0 (.t 1)), none⟩, ⟨(some 4), (.load false 1 (.t 3)), none⟩, ⟨(some 5), (.call .b (.v (.fn 36 [] [])) [(.t 4)]), none⟩, ⟨(some 6), (.mov (.t 5)), none⟩, ⟨(some 7), (.fldA 1 (.t 1)), (some ((some 6), true))⟩, ⟨(some 8), (.load false 1 (.t 7)), (some ((some 6), true))⟩, ⟨(some 9), (.call .b (.v (.fn 26 [] [])) [(.t 8), (.v (iz 1)), (.v (iz 100))]), (some ((some 6), true))⟩, ⟨(some 10), (.pick (.t 6) (.t 9) (.v bf)), none⟩, ⟨(some 11), (.mov (.t 10)), none⟩, ⟨(some 12), (.fldA 2 (.t 1)), (some ((some 11), true))⟩, ⟨(some 13), (.load false 1 (.t 12)), (some ((some 11), true))⟩, ⟨(some 14), (.call .b (.v (.fn 26 [] [])) [(.t 13), (.v (iz 1)), (.v (iz 65536))]), (some ((some 11), true))⟩, ⟨(some 15), (.pick (.t 11) (.t 14) (.v bf)), none⟩, ⟨(some 16), (.mov (.t 15)), none⟩, ⟨(some 17), (.fldA 3 (.t 1)), (some ((some 16), true))⟩, ⟨(some 18), (.load false 1 (.t 17)), (some ((some 16), true))⟩, ⟨(some 19), (.call .b (.v (.fn 26 [] [])) [(.t 18), (.v (iz 1)), (.v (iz 1000000))]), (some ((some 16), true))⟩, ⟨(some 20), (.pick (.t 16) (.t 19) (.v bf)), none⟩, ⟨(some 21), (.mov (.t 20)), none⟩, ⟨(some 22), (.fldA 4 (.t 1)), (some ((some 21), true))⟩, ⟨(some 23), (.load false 1 (.t 22)), (some ((some 21), true))⟩, ⟨(some 24), (.call .b (.v (.fn 26 [] [])) [(.t 23), (.v (iz 0)), (.v (iz 1073741824))]), (some ((some 21), true))⟩, ⟨(some 25), (.pick (.t 21) (.t 24) (.v bf)), none⟩, ⟨(some 2), (.mov (.t 25)), none⟩]) .ret))⟩
/-- apogee/apogeeref13.within -/
def c26 : AFn := ⟨15, [(.tmp 6)], (.seq (.reg [⟨(some 6), (.mov (.v bf)), none⟩]) (.seq (.reg [⟨(some 7), (.mov (.t 0)), none⟩, ⟨(some 8), (.mov (.t 1)), none⟩, ⟨(some 9), (.bin .geq (.t 7) (.t 8)), none⟩, ⟨(some 10), (.mov (.t 9)), none⟩, ⟨(some 11), (.mov (.t 0)), (some ((some 10), true))⟩, ⟨(some 12), (.mov (.t 2)), (some ((some 10), true))⟩, ⟨(some 13), (.bin .leq (.t 11) (.t 12)), (some ((some 10), true))⟩, ⟨(some 14), (.pick (.t 10) (.t 13) (.v bf)), none⟩, ⟨(some 6), (.mov (.t 14)), none⟩]) .ret))⟩
/-- (*apogee/count.Counter).Up -/
def c27 : AFn := ⟨5, [(.tmp 2)], (.seq (.reg [⟨(some 2), (.mov (.v (iz 0))), none⟩]) (.seq (.reg [⟨(some 3), (.mov (.t 0)), none⟩, ⟨(some 4), (.call i6 (.v (.fn 37 [] [])) [(.t 3), (.v (iz 1))]), none⟩, ⟨(some 2), (.mov (.t 4)), none⟩]) .ret))⟩
/-- (*apogee/count.Counter).Reset -/
def c28 : AFn := ⟨4, [], (.reg [⟨(some 2), (.mov (.t 0)), none⟩, ⟨(some 3), (.call (.tup []) (.v (.fn 29 [] [])) [(.t 2), (.v (iz 0))]), none⟩])⟩
/-- (*apogee/count.Counter).Set -/
def c29 : AFn := ⟨17, [], (.seq (.reg [⟨(some 4), (.mov (.t 0)), none⟩, ⟨(some 5), (.eqv true 1 [] (.t 4) (.v .nilp)), none⟩]) (.cond (.t 5) (.regD [(⟨(some 6), (.mov (.t 0)), none⟩, []), (⟨(some 7), (.nilck (.t 6)), none⟩, []), (⟨(some 8), (.fldA 0 (.t 7)), none⟩, []), (⟨(some 9), (.mov (.t 1)), none⟩, []), (⟨(some 10), (.bk .max [(.t 9), (.v (iz 0))]), none⟩, []), (⟨(some 11), (.mov (.t 0)), none⟩, []), (⟨(some 12), (.nilck (.t 11)), none⟩, []), (⟨(some 13), (.fldA 1 (.t 12)), none⟩, []), (⟨(some 14), (.load false 1 (.t 13)), none⟩, []), (⟨(some 15), (.bk .min [(.t 10), (.t 14)]), none⟩, []), (⟨(some 16), (.call (.tup []) (.v (.fn 38 [] [])) [(.t 8), (.t 15)]), none⟩, [1000000])]) .skip))⟩
/-- (*apogee/count.Counter).Value -/
def c30 : AFn := ⟨9, [(.tmp 2)], (.seq (.reg [⟨(some 2), (.mov (.v (iz 0))), none⟩]) (.seq (.seq (.reg [⟨(some 3), (.mov (.t 0)), none⟩, ⟨(some 4), (.eqv false 1 [] (.t 3) (.v .nilp)), none⟩]) (.cond (.t 4) (.seq (.reg [⟨(some 2), (.mov (.v (iz 0))), none⟩]) .ret) .skip)) (.seq (.reg [⟨(some 5), (.mov (.t 0)), none⟩, ⟨(some 6), (.nilck (.t 5)), none⟩, ⟨(some 7), (.fldA 0 (.t 6)), none⟩, ⟨(some 8), (.call i6 (.v (.fn 39 [] [])) [(.t 7)]), none⟩, ⟨(some 2), (.mov (.t 8)), none⟩]) .ret)))⟩
/-- apogee/rules.Phase -/
def c32 : AFn := ⟨26, [(.cell true 5 4), (.tmp 5)], (.seq (.reg [⟨(some 2), (.box E24 (.t 0)), none⟩, ⟨(some 4), (.alloc E43), none⟩, ⟨(some 5), (.mov (.v bf)), none⟩]) (.seq (.seq (.reg [⟨(some 6), (.mov (.t 1)), none⟩, ⟨(some 7), (.bin .lss (.t 6) (.v (iz 0))), none⟩, ⟨(some 8), (.mov (.t 7)), none⟩, ⟨(some 9), (.mov (.t 1)), (some ((some 8), false))⟩, ⟨(some 10), (.fldA 0 (.t 2)), (some ((some 8), false))⟩, ⟨(some 11), (.load false 1 (.t 10)), (some ((some 8), false))⟩, ⟨(some 12), (.bk .lenV [(.t 11)]), (some ((some 8), false))⟩, ⟨(some 13), (.bin .geq (.t 9) (.t 12)), (some ((some 8), false))⟩, ⟨(some 14), (.pick (.t 8) (.v bt) (.t 13)), none⟩]) (.cond (.t 14) (.seq (.reg [⟨(some 15), (.load true 5 (.t 4)), none⟩, ⟨none, (.store 5 (.t 4) (.t 15)), none⟩, ⟨(some 5), (.mov (.v bf)), none⟩]) .ret) .skip)) (.seq (.reg [⟨(some 16), (.fldA 0 (.t 2)), none⟩, ⟨(some 17), (.load false 1 (.t 16)), none⟩, ⟨(some 18), (.mov (.t 1)), none⟩, ⟨(some 19), (.ixAS (.agg [.l, i6, i6, i6, i6]) 5 (.t 17) (.t 18)), none⟩, ⟨(some 20), (.load true 5 (.t 19)), none⟩, ⟨none, (.store 5 (.t 4) (.t 20)), none⟩]) (.seq (.reg [⟨(some 21), (.fldA 0 (.t 4)), none⟩, ⟨(some 22), (.load false 1 (.t 21)), none⟩, ⟨(some 23), (.call .l (.v (.fn 35 [] [])) [(.t 22)]), none⟩, ⟨(some 24), (.fldA 0 (.t 4)), none⟩, ⟨none, (.store 1 (.t 24) (.t 23)), none⟩]) (.seq (.reg [⟨(some 25), (.load true 5 (.t 4)), none⟩, ⟨none, (.store 5 (.t 4) (.t 25)), none⟩, ⟨(some 5), (.mov (.v bt)), none⟩]) .ret)))))⟩
/-- apogee/rules.Wrong -/
def c33 : AFn := ⟨44, [(.tmp 2)], (.seq (.reg [⟨(some 1), (.box E24 (.t 0)), none⟩, ⟨(some 2), (.mov (.v (iz 0))), none⟩]) (.seq (.block 0 (.seq (.reg [⟨(some 4), (.fldA 0 (.t 1)), none⟩, ⟨(some 5), (.load false 1 (.t 4)), none⟩, ⟨(some 6), (.bk .lenV [(.t 5)]), none⟩, ⟨(some 7), (.call .b (.v (.fn 40 [] [])) [(.t 6), (.v (iz 1)), (.v (iz 4))]), none⟩, ⟨(some 8), (.un .not (.t 7)), none⟩, ⟨(some 3), (.mov (.t 8)), none⟩]) (.cond (.t 3) (.seq (.reg [⟨(some 2), (.mov (.v (iz 1))), none⟩]) .ret) (.seq (.reg [⟨(some 10), (.fldA 0 (.t 1)), none⟩, ⟨(some 11), (.load false 1 (.t 10)), none⟩, ⟨(some 12), (.call .b (.v (.fn 41 [] [])) [(.t 11), (.v (.fn 42 [] []))]), none⟩, ⟨(some 9), (.mov (.t 12)), none⟩]) (.cond (.t 9) (.seq (.reg [⟨(some 2), (.mov (.v (iz 2))), none⟩]) .ret) (.seq (.reg [⟨(some 14), (.call .b (.v (.fn 44 [] [])) [(.t 1)]), none⟩, ⟨(some 15), (.un .not (.t 14)), none⟩, ⟨(some 13), (.mov (.t 15)), none⟩]) (.cond (.t 13) (.seq (.reg [⟨(some 2), (.mov (.v (iz 3))), none⟩]) .ret) (.seq (.reg [⟨(some 17), (.fldA 4 (.t 1)), none⟩, ⟨(some 18), (.load false 1 (.t 17)), none⟩, ⟨(some 19), (.call .b (.v (.fn 45 [] [])) [(.t 18), (.v (iz 0)), (.v (iz 1024))]), none⟩, ⟨(some 20), (.un .not (.t 19)), none⟩, ⟨(some 16), (.mov (.t 20)), none⟩]) (.cond (.t 16) (.seq (.reg [⟨(some 2), (.mov (.v (iz 4))), none⟩]) .ret) (.seq (.reg [⟨(some 22), (.fldA 5 (.t 1)), none⟩, ⟨(some 23), (.load false 1 (.t 22)), none⟩, ⟨(some 24), (.call .b (.v (.fn 45 [] [])) [(.t 23), (.v (iz 1)), (.v (iz 65536))]), none⟩, ⟨(some 25), (.un .not (.t 24)), none⟩, ⟨(some 21), (.mov (.t 25)), none⟩]) (.cond (.t 21) (.seq (.reg [⟨(some 2), (.mov (.v (iz 5))), none⟩]) .ret) (.seq (.reg [⟨(some 27), (.fldA 6 (.t 1)), none⟩, ⟨(some 28), (.load false 1 (.t 27)), none⟩, ⟨(some 29), (.call .b (.v (.fn 40 [] [])) [(.t 28), (.v (iz 1)), (.v (iz 50))]), none⟩, ⟨(some 30), (.un .not (.t 29)), none⟩, ⟨(some 26), (.mov (.t 30)), none⟩]) (.cond (.t 26) (.seq (.reg [⟨(some 2), (.mov (.v (iz 6))), none⟩]) .ret) (.seq (.reg [⟨(some 32), (.fldA 7 (.t 1)), none⟩, ⟨(some 33), (.load false 1 (.t 32)), none⟩, ⟨(some 34), (.call .b (.v (.fn 45 [] [])) [(.t 33), (.v (iz 1)), (.v (iz 1073741824))]), none⟩, ⟨(some 35), (.un .not (.t 34)), none⟩, ⟨(some 31), (.mov (.t 35)), none⟩]) (.cond (.t 31) (.seq (.reg [⟨(some 2), (.mov (.v (iz 7))), none⟩]) .ret) (.seq (.reg [⟨(some 37), (.fldA 8 (.t 1)), none⟩, ⟨(some 38), (.load false 1 (.t 37)), none⟩, ⟨(some 39), (.fldA 0 (.t 1)), none⟩, ⟨(some 40), (.load false 1 (.t 39)), none⟩, ⟨(some 41), (.bk .lenV [(.t 40)]), none⟩, ⟨(some 42), (.call .b (.v (.fn 40 [] [])) [(.t 38), (.v (iz 0)), (.t 41)]), none⟩, ⟨(some 43), (.un .not (.t 42)), none⟩, ⟨(some 36), (.mov (.t 43)), none⟩]) (.cond (.t 36) (.seq (.reg [⟨(some 2), (.mov (.v (iz 8))), none⟩]) .ret) .skip))))))))))))))))) (.seq (.reg [⟨(some 2), (.mov (.v (iz 0))), none⟩]) .ret)))⟩
/-- slices.Clone[[]apogee/api.Phase,apogee/api.Phase] -/
def c34 : AFn := ⟨8, [(.tmp 2)], (.seq (.reg [⟨(some 2), (.mov (.v (.zsl true))), none⟩]) (.seq (.seq (.reg [⟨(some 3), (.mov (.t 0)), none⟩, ⟨(some 4), (.eqv false 2 [] (.t 3) (.v (.zsl true))), none⟩]) (.cond (.t 4) (.seq (.reg [⟨(some 2), (.mov (.v (.zsl true))), none⟩]) .ret) .skip)) (.seq (.reg [⟨(some 5), (.mkrow E43 0 []), none⟩, ⟨(some 6), (.mov (.t 0)), none⟩, ⟨(some 7), (.app E43 (.t 5) (.t 6)), none⟩, ⟨(some 2), (.mov (.t 7)), none⟩]) .ret)))⟩
/-- slices.Clone[[]apogee/api.Point,apogee/api.Point] -/
def c35 : AFn := ⟨8, [(.tmp 2)], (.seq (.reg [⟨(some 2), (.mov (.v (.zsl true))), none⟩]) (.seq (.seq (.reg [⟨(some 3), (.mov (.t 0)), none⟩, ⟨(some 4), (.eqv false 2 [] (.t 3) (.v (.zsl true))), none⟩]) (.cond (.t 4) (.seq (.reg [⟨(some 2), (.mov (.v (.zsl true))), none⟩]) .ret) .skip)) (.seq (.reg [⟨(some 5), (.mkrow E62 0 []), none⟩, ⟨(some 6), (.mov (.t 0)), none⟩, ⟨(some 7), (.app E62 (.t 5) (.t 6)), none⟩, ⟨(some 2), (.mov (.t 7)), none⟩]) .ret)))⟩
/-- apogee/apogeeref11.Right -/
def c36 : AFn := ⟨47, [(.tmp 2)], (.seq (.reg [⟨(some 2), (.mov (.v bf)), none⟩]) (.seq (.seq (.reg [⟨(some 3), (.mov (.v (iz 0))), none⟩]) (.block 0 (.loop (.seq (.seq (.reg [⟨(some 4), (.mov (.t 3)), none⟩, ⟨(some 5), (.mov (.t 0)), none⟩, ⟨(some 6), (.bk .lenV [(.t 5)]), none⟩, ⟨(some 7), (.bin .lss (.t 4) (.t 6)), none⟩, ⟨(some 8), (.mov (.t 7)), none⟩, ⟨(some 9), (.mov (.t 0)), (some ((some 8), true))⟩, ⟨(some 10), (.bk .lenV [(.t 9)]), (some ((some 8), true))⟩, ⟨(some 11), (.bin .leq (.t 10) (.v (iz 8))), (some ((some 8), true))⟩, ⟨(some 12), (.pick (.t 8) (.t 11) (.v bf)), none⟩]) (.cond (.t 12) .skip (.exit 0))) (.seq (.block 1 (.seq (.reg [⟨(some 15), (.mov (.t 0)), none⟩, ⟨(some 16), (.mov (.t 3)), none⟩, ⟨(some 17), (.ixAS ag2 2 (.t 15) (.t 16)), none⟩, ⟨(some 18), (.fldA 0 (.t 17)), none⟩, ⟨(some 19), (.load false 1 (.t 18)), none⟩, ⟨(some 20), (.bin .lss (.t 19) (.v (iz (-1073741824)))), none⟩, ⟨(some 21), (.mov (.t 20)), none⟩, ⟨(some 22), (.mov (.t 0)), (some ((some 21), false))⟩, ⟨(some 23), (.mov (.t 3)), (some ((some 21), false))⟩, ⟨(some 24), (.ixAS ag2 2 (.t 22) (.t 23)), (some ((some 21), false))⟩, ⟨(some 25), (.fldA 0 (.t 24)), (some ((some 21), false))⟩, ⟨(some 26), (.load false 1 (.t 25)), (some ((some 21), false))⟩, ⟨(some 27), (.bin .gtr (.t 26) (.v (iz 1073741824))), (some ((some 21), false))⟩, ⟨(some 28), (.pick (.t 21) (.v bt) (.t 27)), none⟩, ⟨(some 29), (.mov (.t 28)), none⟩, ⟨(some 30), (.mov (.t 0)), (some ((some 29), false))⟩, ⟨(some 31), (.mov (.t 3)), (some ((some 29), false))⟩, ⟨(some 32), (.ixAS ag2 2 (.t 30) (.t 31)), (some ((some 29), false))⟩, ⟨(some 33), (.fldA 1 (.t 32)), (some ((some 29), false))⟩, ⟨(some 34), (.load false 1 (.t 33)), (some ((some 29), false))⟩, ⟨(some 35), (.bin .lss (.t 34) (.v (iz (-1073741824)))), (some ((some 29), false))⟩, ⟨(some 36), (.pick (.t 29) (.v bt) (.t 35)), none⟩, ⟨(some 37), (.mov (.t 36)), none⟩, ⟨(some 38), (.mov (.t 0)), (some ((some 37), false))⟩, ⟨(some 39), (.mov (.t 3)), (some ((some 37), false))⟩, ⟨(some 40), (.ixAS ag2 2 (.t 38) (.t 39)), (some ((some 37), false))⟩, ⟨(some 41), (.fldA 1 (.t 40)), (some ((some 37), false))⟩, ⟨(some 42), (.load false 1 (.t 41)), (some ((some 37), false))⟩, ⟨(some 43), (.bin .gtr (.t 42) (.v (iz 1073741824))), (some ((some 37), false))⟩, ⟨(some 44), (.pick (.t 37) (.v bt) (.t 43)), none⟩]) (.cond (.t 44) (.seq (.reg [⟨(some 2), (.mov (.v bf)), none⟩]) .ret) .skip))) (.reg [⟨(some 13), (.mov (.t 3)), none⟩, ⟨(some 14), (.bin .add (.t 13) (.v (iz 1))), none⟩, ⟨(some 3), (.mov (.t 14)), none⟩])))))) (.seq (.reg [⟨(some 45), (.mov (.t 0)), none⟩, ⟨(some 46), (.call .b (.v (.fn 46 [] [])) [(.t 45)]), none⟩, ⟨(some 2), (.mov (.t 46)), none⟩]) .ret)))⟩
/-- (*apogee/count.Counter).Add -/
def c37 : AFn := ⟨31, [(.tmp 4)], (.seq (.reg [⟨(some 4), (.mov (.v (iz 0))), none⟩]) (.seq (.seq (.reg [⟨(some 7), (.mov (.t 0)), none⟩, ⟨(some 8), (.eqv false 1 [] (.t 7) (.v .nilp)), none⟩]) (.cond (.t 8) (.seq (.reg [⟨(some 4), (.mov (.v (iz 0))), none⟩]) .ret) .skip)) (.block 0 (.loop (.block 1 (.seq (.reg [⟨(some 9), (.mov (.t 0)), none⟩, ⟨(some 10), (.nilck (.t 9)), none⟩, ⟨(some 11), (.fldA 0 (.t 10)), none⟩, ⟨(some 12), (.call i6 (.v (.fn 39 [] [])) [(.t 11)]), none⟩, ⟨(some 5), (.mov (.t 12)), none⟩]) (.seq (.reg [⟨(some 13), (.mov (.t 5)), none⟩, ⟨(some 14), (.mov (.t 1)), none⟩, ⟨(some 15), (.bk .max [(.t 14), (.v (iz 0))]), none⟩, ⟨(some 16), (.mov (.t 0)), none⟩, ⟨(some 17), (.nilck (.t 16)), none⟩, ⟨(some 18), (.fldA 1 (.t 17)), none⟩, ⟨(some 19), (.load false 1 (.t 18)), none⟩, ⟨(some 20), (.mov (.t 5)), none⟩, ⟨(some 21), (.bin .sub (.t 19) (.t 20)), none⟩, ⟨(some 22), (.bk .min [(.t 15), (.t 21)]), none⟩, ⟨(some 23), (.bin .add (.t 13) (.t 22)), none⟩, ⟨(some 6), (.mov (.t 23)), none⟩]) (.seq (.reg [⟨(some 24), (.mov (.t 0)), none⟩, ⟨(some 25), (.nilck (.t 24)), none⟩, ⟨(some 26), (.fldA 0 (.t 25)), none⟩, ⟨(some 27), (.mov (.t 5)), none⟩, ⟨(some 28), (.mov (.t 6)), none⟩, ⟨(some 29), (.call .b (.v (.fn 47 [] [])) [(.t 26), (.t 27), (.t 28)]), none⟩]) (.cond (.t 29) (.seq (.reg [⟨(some 30), (.mov (.t 6)), none⟩, ⟨(some 4), (.mov (.t 30)), none⟩]) .ret) .skip)))))))))⟩
/-- (*sync/atomic.Int64).Store -/
def c38 : AFn := ⟨9, [], (.reg [⟨(some 4), (.mov (.t 0)), none⟩, ⟨(some 5), (.nilck (.t 4)), none⟩, ⟨(some 6), (.fldA 0 (.t 5)), none⟩, ⟨(some 7), (.mov (.t 1)), none⟩, ⟨(some 8), (.call (.tup []) (.v (.fn 48 [] [])) [(.t 6), (.t 7)]), none⟩])⟩
/-- (*sync/atomic.Int64).Load -/
def c39 : AFn := ⟨7, [(.tmp 2)], (.seq (.reg [⟨(some 2), (.mov (.v (iz 0))), none⟩]) (.seq (.reg [⟨(some 3), (.mov (.t 0)), none⟩, ⟨(some 4), (.nilck (.t 3)), none⟩, ⟨(some 5), (.fldA 0 (.t 4)), none⟩, ⟨(some 6), (.call i6 (.v (.fn 49 [] [])) [(.t 5)]), none⟩, ⟨(some 2), (.mov (.t 6)), none⟩]) .ret))⟩
/-- apogee/rules.within[int] -/
def c40 : AFn := ⟨15, [(.tmp 6)], (.seq (.reg [⟨(some 6), (.mov (.v bf)), none⟩]) (.seq (.reg [⟨(some 7), (.mov (.t 0)), none⟩, ⟨(some 8), (.mov (.t 1)), none⟩, ⟨(some 9), (.bin .geq (.t 7) (.t 8)), none⟩, ⟨(some 10), (.mov (.t 9)), none⟩, ⟨(some 11), (.mov (.t 0)), (some ((some 10), true))⟩, ⟨(some 12), (.mov (.t 2)), (some ((some 10), true))⟩, ⟨(some 13), (.bin .leq (.t 11) (.t 12)), (some ((some 10), true))⟩, ⟨(some 14), (.pick (.t 10) (.t 13) (.v bf)), none⟩, ⟨(some 6), (.mov (.t 14)), none⟩]) .ret))⟩
/-- slices.ContainsFunc[[]apogee/api.Phase,apogee/api.Phase] -/
def c41 : AFn := ⟨9, [(.tmp 4)], (.seq (.reg [⟨(some 4), (.mov (.v bf)), none⟩]) (.seq (.reg [⟨(some 5), (.mov (.t 0)), none⟩, ⟨(some 6), (.mov (.t 1)), none⟩, ⟨(some 7), (.call i6 (.v (.fn 50 [] [])) [(.t 5), (.t 6)]), none⟩, ⟨(some 8), (.bin .geq (.t 7) (.v (iz 0))), none⟩, ⟨(some 4), (.mov (.t 8)), none⟩]) .ret))⟩
/-- apogee/rules.Wrong$1 -/
def c42 : AFn := ⟨6, [(.tmp 2)], (.seq (.reg [⟨(some 1), (.box E43 (.t 0)), none⟩, ⟨(some 2), (.mov (.v bf)), none⟩]) (.seq (.reg [⟨(some 3), (.load true 5 (.t 1)), none⟩, ⟨(some 4), (.call .b (.v (.fn 43 [] [])) [(.t 3)]), none⟩, ⟨(some 5), (.un .not (.t 4)), none⟩, ⟨(some 2), (.mov (.t 5)), none⟩]) .ret))⟩
/-- apogee/rules.RightPhase -/
def c43 : AFn := ⟨26, [(.tmp 2)], (.seq (.reg [⟨(some 1), (.box E43 (.t 0)), none⟩, ⟨(some 2), (.mov (.v bf)), none⟩]) (.seq (.reg [⟨(some 3), (.fldA 0 (.t 1)), none⟩, ⟨(some 4), (.load false 1 (.t 3)), none⟩, ⟨(some 5), (.call .b (.v (.fn 51 [] [])) [(.t 4)]), none⟩, ⟨(some 6), (.mov (.t 5)), none⟩, ⟨(some 7), (.fldA 1 (.t 1)), (some ((some 6), true))⟩, ⟨(some 8), (.load false 1 (.t 7)), (some ((some 6), true))⟩, ⟨(some 9), (.call .b (.v (.fn 45 [] [])) [(.t 8), (.v (iz 1)), (.v (iz 100))]), (some ((some 6), true))⟩, ⟨(some 10), (.pick (.t 6) (.t 9) (.v bf)), none⟩, ⟨(some 11), (.mov (.t 10)), none⟩, ⟨(some 12), (.fldA 2 (.t 1)), (some ((some 11), true))⟩, ⟨(some 13), (.load false 1 (.t 12)), (some ((some 11), true))⟩, ⟨(some 14), (.call .b (.v (.fn 45 [] [])) [(.t 13), (.v (iz 1)), (.v (iz 65536))]), (some ((some 11), true))⟩, ⟨(some 15), (.pick (.t 11) (.t 14) (.v bf)), none⟩, ⟨(some 16), (.mov (.t 15)), none⟩, ⟨(some 17), (.fldA 3 (.t 1)), (some ((some 16), true))⟩, ⟨(some 18), (.load false 1 (.t 17)), (some ((some 16), true))⟩, ⟨(some 19), (.call .b (.v (.fn 40 [] [])) [(.t 18), (.v (iz 1)), (.v (iz 1000000))]), (some ((some 16), true))⟩, ⟨(some 20), (.pick (.t 16) (.t 19) (.v bf)), none⟩, ⟨(some 21), (.mov (.t 20)), none⟩, ⟨(some 22), (.fldA 4 (.t 1)), (some ((some 21), true))⟩, ⟨(some 23), (.load false 1 (.t 22)), (some ((some 21), true))⟩, ⟨(some 24), (.call .b (.v (.fn 45 [] [])) [(.t 23), (.v (iz 0)), (.v (iz 1073741824))]), (some ((some 21), true))⟩, ⟨(some 25), (.pick (.t 21) (.t 24) (.v bf)), none⟩, ⟨(some 2), (.mov (.t 25)), none⟩]) .ret))⟩
/-- apogee/rules.limits -/
def c44 : AFn := ⟨33, [(.tmp 2)], (.seq (.reg [⟨(some 2), (.mov (.v bf)), none⟩]) (.seq (.regD [(⟨(some 3), (.mov (.t 0)), none⟩, []), (⟨(some 4), (.nilck (.t 3)), none⟩, []), (⟨(some 5), (.fldA 1 (.t 4)), none⟩, []), (⟨(some 6), (.load false 1 (.t 5)), none⟩, []), (⟨(some 7), (.mov (.t 0)), none⟩, []), (⟨(some 8), (.nilck (.t 7)), none⟩, []), (⟨(some 9), (.fldA 2 (.t 8)), none⟩, []), (⟨(some 10), (.load false 1 (.t 9)), none⟩, []), (⟨(some 11), (.mov (.t 0)), none⟩, []), (⟨(some 12), (.nilck (.t 11)), none⟩, []), (⟨(some 13), (.fldA 3 (.t 12)), none⟩, []), (⟨(some 14), (.load false 1 (.t 13)), none⟩, []), (⟨(some 15), (.bk .min [(.t 6), (.t 10), (.t 14)]), none⟩, []), (⟨(some 16), (.call .b (.v (.fn 40 [] [])) [(.t 15), (.v (iz 1)), (.v (iz 50))]), none⟩, [1000000]), (⟨(some 17), (.mov (.t 16)), none⟩, []), (⟨(some 18), (.mov (.t 0)), (some ((some 17), true))⟩, []), (⟨(some 19), (.nilck (.t 18)), (some ((some 17), true))⟩, []), (⟨(some 20), (.fldA 1 (.t 19)), (some ((some 17), true))⟩, []), (⟨(some 21), (.load false 1 (.t 20)), (some ((some 17), true))⟩, []), (⟨(some 22), (.mov (.t 0)), (some ((some 17), true))⟩, []), (⟨(some 23), (.nilck (.t 22)), (some ((some 17), true))⟩, []), (⟨(some 24), (.fldA 2 (.t 23)), (some ((some 17), true))⟩, []), (⟨(some 25), (.load false 1 (.t 24)), (some ((some 17), true))⟩, []), (⟨(some 26), (.mov (.t 0)), (some ((some 17), true))⟩, []), (⟨(some 27), (.nilck (.t 26)), (some ((some 17), true))⟩, []), (⟨(some 28), (.fldA 3 (.t 27)), (some ((some 17), true))⟩, []), (⟨(some 29), (.load false 1 (.t 28)), (some ((some 17), true))⟩, []), (⟨(some 30), (.bk .max [(.t 21), (.t 25), (.t 29)]), (some ((some 17), true))⟩, []), (⟨(some 31), (.call .b (.v (.fn 40 [] [])) [(.t 30), (.v (iz 1)), (.v (iz 50))]), (some ((some 17), true))⟩, [1000000]), (⟨(some 32), (.pick (.t 17) (.t 31) (.v bf)), none⟩, []), (⟨(some 2), (.mov (.t 32)), none⟩, [])]) .ret))⟩
/-- apogee/rules.within[int64] -/
def c45 : AFn := ⟨15, [(.tmp 6)], (.seq (.reg [⟨(some 6), (.mov (.v bf)), none⟩]) (.seq (.reg [⟨(some 7), (.mov (.t 0)), none⟩, ⟨(some 8), (.mov (.t 1)), none⟩, ⟨(some 9), (.bin .geq (.t 7) (.t 8)), none⟩, ⟨(some 10), (.mov (.t 9)), none⟩, ⟨(some 11), (.mov (.t 0)), (some ((some 10), true))⟩, ⟨(some 12), (.mov (.t 2)), (some ((some 10), true))⟩, ⟨(some 13), (.bin .leq (.t 11) (.t 12)), (some ((some 10), true))⟩, ⟨(some 14), (.pick (.t 10) (.t 13) (.v bf)), none⟩, ⟨(some 6), (.mov (.t 14)), none⟩]) .ret))⟩
/-- apogee/apogeeref11.Simple -/
def c46 : AFn := ⟨100, [(.tmp 2)], (.seq (.reg [⟨(some 2), (.mov (.v bf)), none⟩]) (.seq (.reg [⟨(some 11), (.mov (.t 0)), none⟩, ⟨(some 12), (.bk .lenV [(.t 11)]), none⟩, ⟨(some 3), (.mov (.t 12)), none⟩]) (.seq (.seq (.reg [⟨(some 13), (.mov (.t 3)), none⟩, ⟨(some 14), (.bin .lss (.t 13) (.v (iz 3))), none⟩, ⟨(some 15), (.mov (.t 14)), none⟩, ⟨(some 16), (.mov (.t 3)), (some ((some 15), false))⟩, ⟨(some 17), (.bin .gtr (.t 16) (.v (iz 8))), (some ((some 15), false))⟩, ⟨(some 18), (.pick (.t 15) (.v bt) (.t 17)), none⟩]) (.cond (.t 18) (.seq (.reg [⟨(some 2), (.mov (.v bf)), none⟩]) .ret) .skip)) (.seq (.seq (.reg [⟨(some 4), (.mov (.v (iz 0))), none⟩]) (.block 0 (.loop (.seq (.seq (.reg [⟨(some 19), (.mov (.t 4)), none⟩, ⟨(some 20), (.mov (.t 3)), none⟩, ⟨(some 21), (.bin .lss (.t 19) (.t 20)), none⟩]) (.cond (.t 21) .skip (.exit 0))) (.seq (.block 1 (.seq (.reg [⟨(some 24), (.mov (.t 0)), none⟩, ⟨(some 25), (.mov (.t 4)), none⟩, ⟨(some 26), (.ixAS ag2 2 (.t 24) (.t 25)), none⟩, ⟨(some 27), (.load true 2 (.t 26)), none⟩, ⟨(some 28), (.call .b (.v (.fn 52 [] [])) [(.t 27)]), none⟩, ⟨(some 29), (.un .not (.t 28)), none⟩]) (.cond (.t 29) (.seq (.reg [⟨(some 2), (.mov (.v bf)), none⟩]) .ret) .skip))) (.reg [⟨(some 22), (.mov (.t 4)), none⟩, ⟨(some 23), (.bin .add (.t 22) (.v (iz 1))), none⟩, ⟨(some 4), (.mov (.t 23)), none⟩])))))) (.seq (.seq (.reg [⟨(some 5), (.mov (.v (iz 0))), none⟩]) (.block 2 (.loop (.seq (.seq (.reg [⟨(some 30), (.mov (.t 5)), none⟩, ⟨(some 31), (.mov (.t 3)), none⟩, ⟨(some 32), (.bin .lss (.t 30) (.t 31)), none⟩]) (.cond (.t 32) .skip (.exit 2))) (.seq (.block 3 (.seq (.reg [⟨(some 35), (.mov (.t 5)), none⟩, ⟨(some 36), (.bin .add (.t 35) (.v (iz 1))), none⟩, ⟨(some 6), (.mov (.t 36)), none⟩]) (.block 4 (.loop (.seq (.seq (.reg [⟨(some 37), (.mov (.t 6)), none⟩, ⟨(some 38), (.mov (.t 3)), none⟩, ⟨(some 39), (.bin .lss (.t 37) (.t 38)), none⟩]) (.cond (.t 39) .skip (.exit 4))) (.seq (.block 5 (.seq (.regD [(⟨(some 42), (.mov (.t 0)), none⟩, []), (⟨(some 43), (.mov (.t 5)), none⟩, []), (⟨(some 44), (.ixAS ag2 2 (.t 42) (.t 43)), none⟩, []), (⟨(some 45), (.load true 2 (.t 44)), none⟩, []), (⟨(some 46), (.mov (.t 0)), none⟩, []), (⟨(some 47), (.mov (.t 5)), none⟩, []), (⟨(some 48), (.call ag2 (.v (.fn 53 [] [])) [(.t 46), (.t 47)]), none⟩, []), (⟨(some 49), (.mov (.t 0)), none⟩, []), (⟨(some 50), (.mov (.t 6)), none⟩, []), (⟨(some 51), (.ixAS ag2 2 (.t 49) (.t 50)), none⟩, []), (⟨(some 52), (.load true 2 (.t 51)), none⟩, []), (⟨(some 53), (.mov (.t 0)), none⟩, []), (⟨(some 54), (.mov (.t 6)), none⟩, []), (⟨(some 55), (.call ag2 (.v (.fn 53 [] [])) [(.t 53), (.t 54)]), none⟩, []), (⟨(some 7), (.alloc E62), none⟩, []), (⟨(some 8), (.alloc E62), none⟩, []), (⟨(some 9), (.alloc E62), none⟩, []), (⟨(some 10), (.alloc E62), none⟩, []), (⟨none, (.store 2 (.t 7) (.t 45)), none⟩, [10]), (⟨none, (.store 2 (.t 8) (.t 48)), none⟩, [10]), (⟨none, (.store 2 (.t 9) (.t 52)), none⟩, []), (⟨none, (.store 2 (.t 10) (.t 55)), none⟩, [])]) (.block 6 (.seq (.reg [⟨(some 57), (.load true 2 (.t 7)), none⟩, ⟨(some 58), (.load true 2 (.t 9)), none⟩, ⟨(some 59), (.eqv false 4 i62 (.t 57) (.t 58)), none⟩, ⟨(some 56), (.mov (.t 59)), none⟩]) (.cond (.t 56) (.seq (.reg [⟨(some 2), (.mov (.v bf)), none⟩]) .ret) (.seq (.reg [⟨(some 61), (.mov (.t 6)), none⟩, ⟨(some 62), (.mov (.t 5)), none⟩, ⟨(some 63), (.bin .add (.t 62) (.v (iz 1))), none⟩, ⟨(some 64), (.bin .eql (.t 61) (.t 63)), none⟩, ⟨(some 60), (.mov (.t 64)), none⟩]) (.cond (.t 60) (.seq (.reg [⟨(some 65), (.load true 2 (.t 10)), none⟩, ⟨(some 66), (.load true 2 (.t 7)), none⟩, ⟨(some 67), (.load true 2 (.t 8)), none⟩, ⟨(some 68), (.call .b (.v (.fn 54 [] [])) [(.t 65), (.t 66), (.t 67)]), none⟩, ⟨(some 69), (.mov (.t 68)), none⟩, ⟨(some 70), (.load true 2 (.t 7)), (some ((some 69), false))⟩, ⟨(some 71), (.load true 2 (.t 9)), (some ((some 69), false))⟩, ⟨(some 72), (.load true 2 (.t 10)), (some ((some 69), false))⟩, ⟨(some 73), (.call .b (.v (.fn 54 [] [])) [(.t 70), (.t 71), (.t 72)]), (some ((some 69), false))⟩, ⟨(some 74), (.pick (.t 69) (.v bt) (.t 73)), none⟩]) (.cond (.t 74) (.seq (.reg [⟨(some 2), (.mov (.v bf)), none⟩]) .ret) .skip)) (.seq (.reg [⟨(some 76), (.mov (.t 5)), none⟩, ⟨(some 77), (.bin .eql (.t 76) (.v (iz 0))), none⟩, ⟨(some 78), (.mov (.t 77)), none⟩, ⟨(some 79), (.mov (.t 6)), (some ((some 78), true))⟩, ⟨(some 80), (.mov (.t 3)), (some ((some 78), true))⟩, ⟨(some 81), (.bin .sub (.t 80) (.v (iz 1))), (some ((some 78), true))⟩, ⟨(some 82), (.bin .eql (.t 79) (.t 81)), (some ((some 78), true))⟩, ⟨(some 83), (.pick (.t 78) (.t 82) (.v bf)), none⟩, ⟨(some 75), (.mov (.t 83)), none⟩]) (.cond (.t 75) (.seq (.reg [⟨(some 84), (.load true 2 (.t 9)), none⟩, ⟨(some 85), (.load true 2 (.t 7)), none⟩, ⟨(some 86), (.load true 2 (.t 8)), none⟩, ⟨(some 87), (.call .b (.v (.fn 54 [] [])) [(.t 84), (.t 85), (.t 86)]), none⟩, ⟨(some 88), (.mov (.t 87)), none⟩, ⟨(some 89), (.load true 2 (.t 8)), (some ((some 88), false))⟩, ⟨(some 90), (.load true 2 (.t 9)), (some ((some 88), false))⟩, ⟨(some 91), (.load true 2 (.t 10)), (some ((some 88), false))⟩, ⟨(some 92), (.call .b (.v (.fn 54 [] [])) [(.t 89), (.t 90), (.t 91)]), (some ((some 88), false))⟩, ⟨(some 93), (.pick (.t 88) (.v bt) (.t 92)), none⟩]) (.cond (.t 93) (.seq (.reg [⟨(some 2), (.mov (.v bf)), none⟩]) .ret) .skip)) (.seq (.reg [⟨(some 95), (.load true 2 (.t 7)), none⟩, ⟨(some 96), (.load true 2 (.t 8)), none⟩, ⟨(some 97), (.load true 2 (.t 9)), none⟩, ⟨(some 98), (.load true 2 (.t 10)), none⟩, ⟨(some 99), (.call .b (.v (.fn 55 [] [])) [(.t 95), (.t 96), (.t 97), (.t 98)]), none⟩, ⟨(some 94), (.mov (.t 99)), none⟩]) (.cond (.t 94) (.seq (.reg [⟨(some 2), (.mov (.v bf)), none⟩]) .ret) .skip))))))))))) (.reg [⟨(some 40), (.mov (.t 6)), none⟩, ⟨(some 41), (.bin .add (.t 40) (.v (iz 1))), none⟩, ⟨(some 6), (.mov (.t 41)), none⟩]))))))) (.reg [⟨(some 33), (.mov (.t 5)), none⟩, ⟨(some 34), (.bin .add (.t 33) (.v (iz 1))), none⟩, ⟨(some 5), (.mov (.t 34)), none⟩])))))) (.seq (.reg [⟨(some 2), (.mov (.v bt)), none⟩]) .ret))))))⟩
/-- (*sync/atomic.Int64).CompareAndSwap -/
def c47 : AFn := ⟨13, [(.tmp 6)], (.seq (.reg [⟨(some 6), (.mov (.v bf)), none⟩]) (.seq (.reg [⟨(some 7), (.mov (.t 0)), none⟩, ⟨(some 8), (.nilck (.t 7)), none⟩, ⟨(some 9), (.fldA 0 (.t 8)), none⟩, ⟨(some 10), (.mov (.t 1)), none⟩, ⟨(some 11), (.mov (.t 2)), none⟩, ⟨(some 12), (.call .b (.v (.fn 56 [] [])) [(.t 9), (.t 10), (.t 11)]), none⟩, ⟨(some 6), (.mov (.t 12)), none⟩]) .ret))⟩
/-- slices.IndexFunc[[]apogee/api.Phase,apogee/api.Phase] -/
def c50 : AFn := ⟨19, [(.tmp 4)], (.seq (.reg [⟨(some 4), (.mov (.v (iz 0))), none⟩]) (.seq (.seq (.reg [⟨(some 6), (.mov (.t 0)), none⟩, ⟨(some 7), (.bk .lenV [(.t 6)]), none⟩, ⟨(some 8), (.mov (.v (iz 0))), none⟩]) (.block 0 (.loop (.seq (.reg [⟨(some 9), (.bin .lss (.t 8) (.t 7)), none⟩]) (.seq (.cond (.t 9) .skip (.exit 0)) (.seq (.block 1 (.seq (.reg [⟨(some 10), (.mov (.t 8)), none⟩, ⟨(some 5), (.mov (.t 10)), none⟩]) (.seq (.reg [⟨(some 11), (.mov (.t 1)), none⟩, ⟨(some 12), (.mov (.t 0)), none⟩, ⟨(some 13), (.mov (.t 5)), none⟩, ⟨(some 14), (.ixAS (.agg [.l, i6, i6, i6, i6]) 5 (.t 12) (.t 13)), none⟩, ⟨(some 15), (.load true 5 (.t 14)), none⟩, ⟨(some 16), (.call .b (.t 11) [(.t 15)]), none⟩]) (.cond (.t 16) (.seq (.reg [⟨(some 17), (.mov (.t 5)), none⟩, ⟨(some 4), (.mov (.t 17)), none⟩]) .ret) .skip)))) (.reg [⟨(some 18), (.bin .add (.t 8) (.v (iz 1))), none⟩, ⟨(some 8), (.mov (.t 18)), none⟩]))))))) (.seq (.reg [⟨(some 4), (.mov (.v (iz (-1)))), none⟩]) .ret)))⟩
/-- apogee/poly.Right -/
def c51 : AFn := ⟨10, [(.tmp 2)], (.seq (.reg [⟨(some 2), (.mov (.v bf)), none⟩]) (.seq (.reg [⟨(some 3), (.mov (.t 0)), none⟩, ⟨(some 4), (.call .b (.v (.fn 57 [] [])) [(.t 3)]), none⟩, ⟨(some 5), (.mov (.t 4)), none⟩, ⟨(some 6), (.mov (.t 0)), (some ((some 5), true))⟩, ⟨(some 7), (.call .b (.v (.fn 58 [] [])) [(.t 6), (.v (.fn 59 [] []))]), (some ((some 5), true))⟩, ⟨(some 8), (.un .not (.t 7)), (some ((some 5), true))⟩, ⟨(some 9), (.pick (.t 5) (.t 8) (.v bf)), none⟩, ⟨(some 2), (.mov (.t 9)), none⟩]) .ret))⟩
/-- apogee/apogeeref10.Right -/
def c52 : AFn := ⟨21, [(.tmp 2)], (.seq (.reg [⟨(some 1), (.box E62 (.t 0)), none⟩, ⟨(some 2), (.mov (.v bf)), none⟩]) (.seq (.reg [⟨(some 3), (.fldA 0 (.t 1)), none⟩, ⟨(some 4), (.load false 1 (.t 3)), none⟩, ⟨(some 5), (.bin .geq (.t 4) (.v (iz (-1099511627776)))), none⟩, ⟨(some 6), (.mov (.t 5)), none⟩, ⟨(some 7), (.fldA 0 (.t 1)), (some ((some 6), true))⟩, ⟨(some 8), (.load false 1 (.t 7)), (some ((some 6), true))⟩, ⟨(some 9), (.bin .leq (.t 8) (.v (iz 1099511627776))), (some ((some 6), true))⟩, ⟨(some 10), (.pick (.t 6) (.t 9) (.v bf)), none⟩, ⟨(some 11), (.mov (.t 10)), none⟩, ⟨(some 12), (.fldA 1 (.t 1)), (some ((some 11), true))⟩, ⟨(some 13), (.load false 1 (.t 12)), (some ((some 11), true))⟩, ⟨(some 14), (.bin .geq (.t 13) (.v (iz (-1099511627776)))), (some ((some 11), true))⟩, ⟨(some 15), (.pick (.t 11) (.t 14) (.v bf)), none⟩, ⟨(some 16), (.mov (.t 15)), none⟩, ⟨(some 17), (.fldA 1 (.t 1)), (some ((some 16), true))⟩, ⟨(some 18), (.load false 1 (.t 17)), (some ((some 16), true))⟩, ⟨(some 19), (.bin .leq (.t 18) (.v (iz 1099511627776))), (some ((some 16), true))⟩, ⟨(some 20), (.pick (.t 16) (.t 19) (.v bf)), none⟩, ⟨(some 2), (.mov (.t 20)), none⟩]) .ret))⟩
/-- apogee/apogeeref11.next -/
def c53 : AFn := ⟨13, [(.cell true 2 4)], (.seq (.reg [⟨(some 4), (.alloc E62), none⟩]) (.seq (.reg [⟨(some 5), (.mov (.t 0)), none⟩, ⟨(some 6), (.mov (.t 1)), none⟩, ⟨(some 7), (.bin .add (.t 6) (.v (iz 1))), none⟩, ⟨(some 8), (.mov (.t 0)), none⟩, ⟨(some 9), (.bk .lenV [(.t 8)]), none⟩, ⟨(some 10), (.bin .rem (.t 7) (.t 9)), none⟩, ⟨(some 11), (.ixAS ag2 2 (.t 5) (.t 10)), none⟩, ⟨(some 12), (.load true 2 (.t 11)), none⟩, ⟨none, (.store 2 (.t 4) (.t 12)), none⟩]) .ret))⟩
/-- apogee/apogeeref10.On -/
def c54 : AFn := ⟨65, [(.tmp 6)], (.seq (.reg [⟨(some 3), (.box E62 (.t 0)), none⟩, ⟨(some 4), (.box E62 (.t 1)), none⟩, ⟨(some 5), (.box E62 (.t 2)), none⟩, ⟨(some 6), (.mov (.v bf)), none⟩]) (.seq (.seq (.reg [⟨(some 7), (.load true 2 (.t 4)), none⟩, ⟨(some 8), (.call .b (.v (.fn 52 [] [])) [(.t 7)]), none⟩, ⟨(some 9), (.un .not (.t 8)), none⟩, ⟨(some 10), (.mov (.t 9)), none⟩, ⟨(some 11), (.load true 2 (.t 5)), (some ((some 10), false))⟩, ⟨(some 12), (.call .b (.v (.fn 52 [] [])) [(.t 11)]), (some ((some 10), false))⟩, ⟨(some 13), (.un .not (.t 12)), (some ((some 10), false))⟩, ⟨(some 14), (.pick (.t 10) (.v bt) (.t 13)), none⟩, ⟨(some 15), (.mov (.t 14)), none⟩, ⟨(some 16), (.load true 2 (.t 3)), (some ((some 15), false))⟩, ⟨(some 17), (.call .b (.v (.fn 52 [] [])) [(.t 16)]), (some ((some 15), false))⟩, ⟨(some 18), (.un .not (.t 17)), (some ((some 15), false))⟩, ⟨(some 19), (.pick (.t 15) (.v bt) (.t 18)), none⟩, ⟨(some 20), (.mov (.t 19)), none⟩, ⟨(some 21), (.load true 2 (.t 4)), (some ((some 20), false))⟩, ⟨(some 22), (.load true 2 (.t 5)), (some ((some 20), false))⟩, ⟨(some 23), (.load true 2 (.t 3)), (some ((some 20), false))⟩, ⟨(some 24), (.call i6 (.v (.fn 60 [] [])) [(.t 21), (.t 22), (.t 23)]), (some ((some 20), false))⟩, ⟨(some 25), (.bin .neq (.t 24) (.v (iz 0))), (some ((some 20), false))⟩, ⟨(some 26), (.pick (.t 20) (.v bt) (.t 25)), none⟩]) (.cond (.t 26) (.seq (.reg [⟨(some 6), (.mov (.v bf)), none⟩]) .ret) .skip)) (.seq (.reg [⟨(some 27), (.fldA 0 (.t 3)), none⟩, ⟨(some 28), (.load false 1 (.t 27)), none⟩, ⟨(some 29), (.fldA 0 (.t 4)), none⟩, ⟨(some 30), (.load false 1 (.t 29)), none⟩, ⟨(some 31), (.fldA 0 (.t 5)), none⟩, ⟨(some 32), (.load false 1 (.t 31)), none⟩, ⟨(some 33), (.bk .min [(.t 30), (.t 32)]), none⟩, ⟨(some 34), (.bin .geq (.t 28) (.t 33)), none⟩, ⟨(some 35), (.mov (.t 34)), none⟩, ⟨(some 36), (.fldA 0 (.t 3)), (some ((some 35), true))⟩, ⟨(some 37), (.load false 1 (.t 36)), (some ((some 35), true))⟩, ⟨(some 38), (.fldA 0 (.t 4)), (some ((some 35), true))⟩, ⟨(some 39), (.load false 1 (.t 38)), (some ((some 35), true))⟩, ⟨(some 40), (.fldA 0 (.t 5)), (some ((some 35), true))⟩, ⟨(some 41), (.load false 1 (.t 40)), (some ((some 35), true))⟩, ⟨(some 42), (.bk .max [(.t 39), (.t 41)]), (some ((some 35), true))⟩, ⟨(some 43), (.bin .leq (.t 37) (.t 42)), (some ((some 35), true))⟩, ⟨(some 44), (.pick (.t 35) (.t 43) (.v bf)), none⟩, ⟨(some 45), (.mov (.t 44)), none⟩, ⟨(some 46), (.fldA 1 (.t 3)), (some ((some 45), true))⟩, ⟨(some 47), (.load false 1 (.t 46)), (some ((some 45), true))⟩, ⟨(some 48), (.fldA 1 (.t 4)), (some ((some 45), true))⟩, ⟨(some 49), (.load false 1 (.t 48)), (some ((some 45), true))⟩, ⟨(some 50), (.fldA 1 (.t 5)), (some ((some 45), true))⟩, ⟨(some 51), (.load false 1 (.t 50)), (some ((some 45), true))⟩, ⟨(some 52), (.bk .min [(.t 49), (.t 51)]), (some ((some 45), true))⟩, ⟨(some 53), (.bin .geq (.t 47) (.t 52)), (some ((some 45), true))⟩, ⟨(some 54), (.pick (.t 45) (.t 53) (.v bf)), none⟩, ⟨(some 55), (.mov (.t 54)), none⟩, ⟨(some 56), (.fldA 1 (.t 3)), (some ((some 55), true))⟩, ⟨(some 57), (.load false 1 (.t 56)), (some ((some 55), true))⟩, ⟨(some 58), (.fldA 1 (.t 4)), (some ((some 55), true))⟩, ⟨(some 59), (.load false 1 (.t 58)), (some ((some 55), true))⟩, ⟨(some 60), (.fldA 1 (.t 5)), (some ((some 55), true))⟩, ⟨(some 61), (.load false 1 (.t 60)), (some ((some 55), true))⟩, ⟨(some 62), (.bk .max [(.t 59), (.t 61)]), (some ((some 55), true))⟩, ⟨(some 63), (.bin .leq (.t 57) (.t 62)), (some ((some 55), true))⟩, ⟨(some 64), (.pick (.t 55) (.t 63) (.v bf)), none⟩, ⟨(some 6), (.mov (.t 64)), none⟩]) .ret)))⟩
/-- apogee/apogeeref10.Meet -/
def c55 : AFn := ⟨71, [(.tmp 8)], (.seq (.reg [⟨(some 4), (.box E62 (.t 0)), none⟩, ⟨(some 5), (.box E62 (.t 1)), none⟩, ⟨(some 6), (.box E62 (.t 2)), none⟩, ⟨(some 7), (.box E62 (.t 3)), none⟩, ⟨(some 8), (.mov (.v bf)), none⟩]) (.seq (.seq (.reg [⟨(some 9), (.load true 2 (.t 4)), none⟩, ⟨(some 10), (.call .b (.v (.fn 52 [] [])) [(.t 9)]), none⟩, ⟨(some 11), (.un .not (.t 10)), none⟩, ⟨(some 12), (.mov (.t 11)), none⟩, ⟨(some 13), (.load true 2 (.t 5)), (some ((some 12), false))⟩, ⟨(some 14), (.call .b (.v (.fn 52 [] [])) [(.t 13)]), (some ((some 12), false))⟩, ⟨(some 15), (.un .not (.t 14)), (some ((some 12), false))⟩, ⟨(some 16), (.pick (.t 12) (.v bt) (.t 15)), none⟩, ⟨(some 17), (.mov (.t 16)), none⟩, ⟨(some 18), (.load true 2 (.t 6)), (some ((some 17), false))⟩, ⟨(some 19), (.call .b (.v (.fn 52 [] [])) [(.t 18)]), (some ((some 17), false))⟩, ⟨(some 20), (.un .not (.t 19)), (some ((some 17), false))⟩, ⟨(some 21), (.pick (.t 17) (.v bt) (.t 20)), none⟩, ⟨(some 22), (.mov (.t 21)), none⟩, ⟨(some 23), (.load true 2 (.t 7)), (some ((some 22), false))⟩, ⟨(some 24), (.call .b (.v (.fn 52 [] [])) [(.t 23)]), (some ((some 22), false))⟩, ⟨(some 25), (.un .not (.t 24)), (some ((some 22), false))⟩, ⟨(some 26), (.pick (.t 22) (.v bt) (.t 25)), none⟩]) (.cond (.t 26) (.seq (.reg [⟨(some 8), (.mov (.v bf)), none⟩]) .ret) .skip)) (.seq (.seq (.reg [⟨(some 27), (.load true 2 (.t 4)), none⟩, ⟨(some 28), (.load true 2 (.t 6)), none⟩, ⟨(some 29), (.load true 2 (.t 7)), none⟩, ⟨(some 30), (.call .b (.v (.fn 54 [] [])) [(.t 27), (.t 28), (.t 29)]), none⟩, ⟨(some 31), (.mov (.t 30)), none⟩, ⟨(some 32), (.load true 2 (.t 5)), (some ((some 31), false))⟩, ⟨(some 33), (.load true 2 (.t 6)), (some ((some 31), false))⟩, ⟨(some 34), (.load true 2 (.t 7)), (some ((some 31), false))⟩, ⟨(some 35), (.call .b (.v (.fn 54 [] [])) [(.t 32), (.t 33), (.t 34)]), (some ((some 31), false))⟩, ⟨(some 36), (.pick (.t 31) (.v bt) (.t 35)), none⟩, ⟨(some 37), (.mov (.t 36)), none⟩, ⟨(some 38), (.load true 2 (.t 6)), (some ((some 37), false))⟩, ⟨(some 39), (.load true 2 (.t 4)), (some ((some 37), false))⟩, ⟨(some 40), (.load true 2 (.t 5)), (some ((some 37), false))⟩, ⟨(some 41), (.call .b (.v (.fn 54 [] [])) [(.t 38), (.t 39), (.t 40)]), (some ((some 37), false))⟩, ⟨(some 42), (.pick (.t 37) (.v bt) (.t 41)), none⟩, ⟨(some 43), (.mov (.t 42)), none⟩, ⟨(some 44), (.load true 2 (.t 7)), (some ((some 43), false))⟩, ⟨(some 45), (.load true 2 (.t 4)), (some ((some 43), false))⟩, ⟨(some 46), (.load true 2 (.t 5)), (some ((some 43), false))⟩, ⟨(some 47), (.call .b (.v (.fn 54 [] [])) [(.t 44), (.t 45), (.t 46)]), (some ((some 43), false))⟩, ⟨(some 48), (.pick (.t 43) (.v bt) (.t 47)), none⟩]) (.cond (.t 48) (.seq (.reg [⟨(some 8), (.mov (.v bt)), none⟩]) .ret) .skip)) (.seq (.regD [(⟨(some 49), (.load true 2 (.t 4)), none⟩, []), (⟨(some 50), (.load true 2 (.t 5)), none⟩, []), (⟨(some 51), (.load true 2 (.t 6)), none⟩, []), (⟨(some 52), (.call i6 (.v (.fn 60 [] [])) [(.t 49), (.t 50), (.t 51)]), none⟩, []), (⟨(some 53), (.load true 2 (.t 4)), none⟩, []), (⟨(some 54), (.load true 2 (.t 5)), none⟩, []), (⟨(some 55), (.load true 2 (.t 7)), none⟩, []), (⟨(some 56), (.call i6 (.v (.fn 60 [] [])) [(.t 53), (.t 54), (.t 55)]), none⟩, [1000000]), (⟨(some 57), (.bin .mul (.t 52) (.t 56)), none⟩, []), (⟨(some 58), (.bin .lss (.t 57) (.v (iz 0))), none⟩, []), (⟨(some 59), (.mov (.t 58)), none⟩, []), (⟨(some 60), (.load true 2 (.t 6)), (some ((some 59), true))⟩, []), (⟨(some 61), (.load true 2 (.t 7)), (some ((some 59), true))⟩, []), (⟨(some 62), (.load true 2 (.t 4)), (some ((some 59), true))⟩, []), (⟨(some 63), (.call i6 (.v (.fn 60 [] [])) [(.t 60), (.t 61), (.t 62)]), (some ((some 59), true))⟩, []), (⟨(some 64), (.load true 2 (.t 6)), (some ((some 59), true))⟩, []), (⟨(some 65), (.load true 2 (.t 7)), (some ((some 59), true))⟩, []), (⟨(some 66), (.load true 2 (.t 5)), (some ((some 59), true))⟩, []), (⟨(some 67), (.call i6 (.v (.fn 60 [] [])) [(.t 64), (.t 65), (.t 66)]), (some ((some 59), true))⟩, [1000000]), (⟨(some 68), (.bin .mul (.t 63) (.t 67)), (some ((some 59), true))⟩, []), (⟨(some 69), (.bin .lss (.t 68) (.v (iz 0))), (some ((some 59), true))⟩, []), (⟨(some 70), (.pick (.t 59) (.t 69) (.v bf)), none⟩, []), (⟨(some 8), (.mov (.t 70)), none⟩, [])]) .ret))))⟩
/-- apogee/poly.Simple -/
def c57 : AFn := ⟨44, [(.tmp 2)], (.seq (.reg [⟨(some 2), (.mov (.v bf)), none⟩]) (.seq (.reg [⟨(some 6), (.mov (.t 0)), none⟩, ⟨(some 7), (.bk .lenV [(.t 6)]), none⟩, ⟨(some 3), (.mov (.t 7)), none⟩]) (.seq (.seq (.reg [⟨(some 8), (.mov (.t 3)), none⟩, ⟨(some 9), (.bin .lss (.t 8) (.v (iz 3))), none⟩, ⟨(some 10), (.mov (.t 9)), none⟩, ⟨(some 11), (.mov (.t 3)), (some ((some 10), false))⟩, ⟨(some 12), (.bin .gtr (.t 11) (.v (iz 8))), (some ((some 10), false))⟩, ⟨(some 13), (.pick (.t 10) (.v bt) (.t 12)), none⟩, ⟨(some 14), (.mov (.t 13)), none⟩, ⟨(some 15), (.mov (.t 0)), (some ((some 14), false))⟩, ⟨(some 16), (.call .b (.v (.fn 58 [] [])) [(.t 15), (.v (.fn 61 [] []))]), (some ((some 14), false))⟩, ⟨(some 17), (.pick (.t 14) (.v bt) (.t 16)), none⟩]) (.cond (.t 17) (.seq (.reg [⟨(some 2), (.mov (.v bf)), none⟩]) .ret) .skip)) (.seq (.seq (.reg [⟨(some 18), (.mov (.t 3)), none⟩, ⟨(some 19), (.mov (.v (iz 0))), none⟩]) (.block 0 (.loop (.seq (.reg [⟨(some 20), (.bin .lss (.t 19) (.t 18)), none⟩]) (.seq (.cond (.t 20) .skip (.exit 0)) (.seq (.block 1 (.seq (.reg [⟨(some 21), (.mov (.t 19)), none⟩, ⟨(some 4), (.mov (.t 21)), none⟩]) (.seq (.reg [⟨(some 22), (.mov (.t 4)), none⟩, ⟨(some 23), (.mov (.v (iz 0))), none⟩]) (.block 2 (.loop (.seq (.reg [⟨(some 24), (.bin .lss (.t 23) (.t 22)), none⟩]) (.seq (.cond (.t 24) .skip (.exit 2)) (.seq (.block 3 (.seq (.reg [⟨(some 25), (.mov (.t 23)), none⟩, ⟨(some 5), (.mov (.t 25)), none⟩]) (.seq (.regD [(⟨(some 26), (.mov (.t 0)), none⟩, []), (⟨(some 27), (.mov (.t 4)), none⟩, []), (⟨(some 28), (.ixAS ag2 2 (.t 26) (.t 27)), none⟩, []), (⟨(some 29), (.load true 2 (.t 28)), none⟩, []), (⟨(some 30), (.mov (.t 0)), none⟩, []), (⟨(some 31), (.mov (.t 5)), none⟩, []), (⟨(some 32), (.ixAS ag2 2 (.t 30) (.t 31)), none⟩, []), (⟨(some 33), (.load true 2 (.t 32)), none⟩, []), (⟨(some 34), (.eqv false 4 i62 (.t 29) (.t 33)), none⟩, []), (⟨(some 35), (.mov (.t 34)), none⟩, []), (⟨(some 36), (.mov (.t 0)), (some ((some 35), false))⟩, []), (⟨(some 37), (.mov (.t 5)), (some ((some 35), false))⟩, []), (⟨(some 38), (.mov (.t 4)), (some ((some 35), false))⟩, []), (⟨(some 39), (.call .b (.v (.fn 63 [] [])) [(.t 36), (.t 37), (.t 38)]), (some ((some 35), false))⟩, [1000000]), (⟨(some 40), (.un .not (.t 39)), (some ((some 35), false))⟩, []), (⟨(some 41), (.pick (.t 35) (.v bt) (.t 40)), none⟩, [])]) (.cond (.t 41) (.seq (.reg [⟨(some 2), (.mov (.v bf)), none⟩]) .ret) .skip)))) (.reg [⟨(some 42), (.bin .add (.t 23) (.v (iz 1))), none⟩, ⟨(some 23), (.mov (.t 42)), none⟩]))))))))) (.reg [⟨(some 43), (.bin .add (.t 19) (.v (iz 1))), none⟩, ⟨(some 19), (.mov (.t 43)), none⟩]))))))) (.seq (.reg [⟨(some 2), (.mov (.v bt)), none⟩]) .ret)))))⟩
/-- slices.ContainsFunc[[]apogee/api.Point,apogee/api.Point] -/
def c58 : AFn := ⟨9, [(.tmp 4)], (.seq (.reg [⟨(some 4), (.mov (.v bf)), none⟩]) (.seq (.reg [⟨(some 5), (.mov (.t 0)), none⟩, ⟨(some 6), (.mov (.t 1)), none⟩, ⟨(some 7), (.call i6 (.v (.fn 64 [] [])) [(.t 5), (.t 6)]), none⟩, ⟨(some 8), (.bin .geq (.t 7) (.v (iz 0))), none⟩, ⟨(some 4), (.mov (.t 8)), none⟩]) .ret))⟩
/-- apogee/poly.far -/
def c59 : AFn := ⟨15, [(.tmp 2)], (.seq (.reg [⟨(some 1), (.box E62 (.t 0)), none⟩, ⟨(some 2), (.mov (.v bf)), none⟩]) (.seq (.reg [⟨(some 3), (.fldA 0 (.t 1)), none⟩, ⟨(some 4), (.load false 1 (.t 3)), none⟩, ⟨(some 5), (.fldA 0 (.t 1)), none⟩, ⟨(some 6), (.load false 1 (.t 5)), none⟩, ⟨(some 7), (.un .neg (.t 6)), none⟩, ⟨(some 8), (.fldA 1 (.t 1)), none⟩, ⟨(some 9), (.load false 1 (.t 8)), none⟩, ⟨(some 10), (.fldA 1 (.t 1)), none⟩, ⟨(some 11), (.load false 1 (.t 10)), none⟩, ⟨(some 12), (.un .neg (.t 11)), none⟩, ⟨(some 13), (.bk .max [(.t 4), (.t 7), (.t 9), (.t 12)]), none⟩, ⟨(some 14), (.bin .gtr (.t 13) (.v (iz 1073741824))), none⟩, ⟨(some 2), (.mov (.t 14)), none⟩]) .ret))⟩
/-- apogee/apogeeref10.Turn -/
def c60 : AFn := ⟨43, [(.tmp 6)], (.seq (.reg [⟨(some 3), (.box E62 (.t 0)), none⟩, ⟨(some 4), (.box E62 (.t 1)), none⟩, ⟨(some 5), (.box E62 (.t 2)), none⟩, ⟨(some 6), (.mov (.v (iz 0))), none⟩]) (.seq (.seq (.reg [⟨(some 7), (.load true 2 (.t 3)), none⟩, ⟨(some 8), (.call .b (.v (.fn 52 [] [])) [(.t 7)]), none⟩, ⟨(some 9), (.un .not (.t 8)), none⟩, ⟨(some 10), (.mov (.t 9)), none⟩, ⟨(some 11), (.load true 2 (.t 4)), (some ((some 10), false))⟩, ⟨(some 12), (.call .b (.v (.fn 52 [] [])) [(.t 11)]), (some ((some 10), false))⟩, ⟨(some 13), (.un .not (.t 12)), (some ((some 10), false))⟩, ⟨(some 14), (.pick (.t 10) (.v bt) (.t 13)), none⟩, ⟨(some 15), (.mov (.t 14)), none⟩, ⟨(some 16), (.load true 2 (.t 5)), (some ((some 15), false))⟩, ⟨(some 17), (.call .b (.v (.fn 52 [] [])) [(.t 16)]), (some ((some 15), false))⟩, ⟨(some 18), (.un .not (.t 17)), (some ((some 15), false))⟩, ⟨(some 19), (.pick (.t 15) (.v bt) (.t 18)), none⟩]) (.cond (.t 19) (.seq (.reg [⟨(some 6), (.mov (.v (iz 0))), none⟩]) .ret) .skip)) (.seq (.regD [(⟨(some 20), (.fldA 0 (.t 4)), none⟩, []), (⟨(some 21), (.load false 1 (.t 20)), none⟩, []), (⟨(some 22), (.fldA 0 (.t 3)), none⟩, []), (⟨(some 23), (.load false 1 (.t 22)), none⟩, []), (⟨(some 24), (.bin .sub (.t 21) (.t 23)), none⟩, []), (⟨(some 25), (.fldA 1 (.t 5)), none⟩, []), (⟨(some 26), (.load false 1 (.t 25)), none⟩, []), (⟨(some 27), (.fldA 1 (.t 3)), none⟩, []), (⟨(some 28), (.load false 1 (.t 27)), none⟩, []), (⟨(some 29), (.bin .sub (.t 26) (.t 28)), none⟩, []), (⟨(some 30), (.call (.agg [i6, (.i .u64)]) (.v (.fn 66 [] [])) [(.t 24), (.t 29)]), none⟩, []), (⟨(some 31), (.fldA 1 (.t 4)), none⟩, []), (⟨(some 32), (.load false 1 (.t 31)), none⟩, []), (⟨(some 33), (.fldA 1 (.t 3)), none⟩, []), (⟨(some 34), (.load false 1 (.t 33)), none⟩, []), (⟨(some 35), (.bin .sub (.t 32) (.t 34)), none⟩, []), (⟨(some 36), (.fldA 0 (.t 5)), none⟩, []), (⟨(some 37), (.load false 1 (.t 36)), none⟩, []), (⟨(some 38), (.fldA 0 (.t 3)), none⟩, []), (⟨(some 39), (.load false 1 (.t 38)), none⟩, []), (⟨(some 40), (.bin .sub (.t 37) (.t 39)), none⟩, []), (⟨(some 41), (.call (.agg [i6, (.i .u64)]) (.v (.fn 66 [] [])) [(.t 35), (.t 40)]), none⟩, [1000000]), (⟨(some 42), (.call i6 (.v (.fn 65 [] [])) [(.t 30), (.t 41)]), none⟩, [1000000]), (⟨(some 6), (.mov (.t 42)), none⟩, [])]) .ret)))⟩
/-- apogee/poly.Simple$1 -/
def c61 : AFn := ⟨6, [(.tmp 2)], (.seq (.reg [⟨(some 1), (.box E62 (.t 0)), none⟩, ⟨(some 2), (.mov (.v bf)), none⟩]) (.seq (.reg [⟨(some 3), (.load true 2 (.t 1)), none⟩, ⟨(some 4), (.call .b (.v (.fn 62 [] [])) [(.t 3)]), none⟩, ⟨(some 5), (.un .not (.t 4)), none⟩, ⟨(some 2), (.mov (.t 5)), none⟩]) .ret))⟩
/-- apogee/point.Right -/
def c62 : AFn := ⟨11, [(.tmp 2)], (.seq (.reg [⟨(some 1), (.box E62 (.t 0)), none⟩, ⟨(some 2), (.mov (.v bf)), none⟩]) (.seq (.reg [⟨(some 3), (.fldA 0 (.t 1)), none⟩, ⟨(some 4), (.load false 1 (.t 3)), none⟩, ⟨(some 5), (.call .b (.v (.fn 67 [] [])) [(.t 4)]), none⟩, ⟨(some 6), (.mov (.t 5)), none⟩, ⟨(some 7), (.fldA 1 (.t 1)), (some ((some 6), true))⟩, ⟨(some 8), (.load false 1 (.t 7)), (some ((some 6), true))⟩, ⟨(some 9), (.call .b (.v (.fn 67 [] [])) [(.t 8)]), (some ((some 6), true))⟩, ⟨(some 10), (.pick (.t 6) (.t 9) (.v bf)), none⟩, ⟨(some 2), (.mov (.t 10)), none⟩]) .ret))⟩
/-- apogee/poly.apart -/
def c63 : AFn := ⟨70, [(.tmp 6)], (.seq (.reg [⟨(some 6), (.mov (.v bf)), none⟩]) (.seq (.reg [⟨(some 12), (.mov (.t 0)), none⟩, ⟨(some 13), (.bk .lenV [(.t 12)]), none⟩, ⟨(some 7), (.mov (.t 13)), none⟩]) (.seq (.reg [⟨(some 15), (.mov (.t 0)), none⟩, ⟨(some 16), (.mov (.t 1)), none⟩, ⟨(some 17), (.call (.tup [ag2, ag2]) (.v (.fn 68 [] [])) [(.t 15), (.t 16)]), none⟩, ⟨(some 14), (.mov (.t 17)), none⟩, ⟨(some 18), (.extr (.t 14) 0), none⟩, ⟨(some 19), (.extr (.t 14) 1), none⟩, ⟨(some 8), (.alloc E62), none⟩, ⟨(some 9), (.alloc E62), none⟩, ⟨none, (.store 2 (.t 8) (.t 18)), none⟩, ⟨none, (.store 2 (.t 9) (.t 19)), none⟩]) (.seq (.reg [⟨(some 21), (.mov (.t 0)), none⟩, ⟨(some 22), (.mov (.t 2)), none⟩, ⟨(some 23), (.call (.tup [ag2, ag2]) (.v (.fn 68 [] [])) [(.t 21), (.t 22)]), none⟩, ⟨(some 20), (.mov (.t 23)), none⟩, ⟨(some 24), (.extr (.t 20) 0), none⟩, ⟨(some 25), (.extr (.t 20) 1), none⟩, ⟨(some 10), (.alloc E62), none⟩, ⟨(some 11), (.alloc E62), none⟩, ⟨none, (.store 2 (.t 10) (.t 24)), none⟩, ⟨none, (.store 2 (.t 11) (.t 25)), none⟩]) (.seq (.block 0 (.seq (.reg [⟨(some 27), (.mov (.t 1)), none⟩, ⟨(some 28), (.bin .add (.t 27) (.v (iz 1))), none⟩, ⟨(some 29), (.mov (.t 7)), none⟩, ⟨(some 30), (.bin .rem (.t 28) (.t 29)), none⟩, ⟨(some 31), (.mov (.t 2)), none⟩, ⟨(some 32), (.bin .eql (.t 30) (.t 31)), none⟩, ⟨(some 26), (.mov (.t 32)), none⟩]) (.cond (.t 26) (.seq (.reg [⟨(some 33), (.load true 2 (.t 11)), none⟩, ⟨(some 34), (.load true 2 (.t 8)), none⟩, ⟨(some 35), (.load true 2 (.t 9)), none⟩, ⟨(some 36), (.call .b (.v (.fn 69 [] [])) [(.t 33), (.t 34), (.t 35)]), none⟩, ⟨(some 37), (.un .not (.t 36)), none⟩, ⟨(some 38), (.mov (.t 37)), none⟩, ⟨(some 39), (.load true 2 (.t 8)), (some ((some 38), true))⟩, ⟨(some 40), (.load true 2 (.t 10)), (some ((some 38), true))⟩, ⟨(some 41), (.load true 2 (.t 11)), (some ((some 38), true))⟩, ⟨(some 42), (.call .b (.v (.fn 69 [] [])) [(.t 39), (.t 40), (.t 41)]), (some ((some 38), true))⟩, ⟨(some 43), (.un .not (.t 42)), (some ((some 38), true))⟩, ⟨(some 44), (.pick (.t 38) (.t 43) (.v bf)), none⟩, ⟨(some 6), (.mov (.t 44)), none⟩]) .ret) (.seq (.reg [⟨(some 46), (.mov (.t 2)), none⟩, ⟨(some 47), (.bin .add (.t 46) (.v (iz 1))), none⟩, ⟨(some 48), (.mov (.t 7)), none⟩, ⟨(some 49), (.bin .rem (.t 47) (.t 48)), none⟩, ⟨(some 50), (.mov (.t 1)), none⟩, ⟨(some 51), (.bin .eql (.t 49) (.t 50)), none⟩, ⟨(some 45), (.mov (.t 51)), none⟩]) (.cond (.t 45) (.seq (.reg [⟨(some 52), (.load true 2 (.t 10)), none⟩, ⟨(some 53), (.load true 2 (.t 8)), none⟩, ⟨(some 54), (.load true 2 (.t 9)), none⟩, ⟨(some 55), (.call .b (.v (.fn 69 [] [])) [(.t 52), (.t 53), (.t 54)]), none⟩, ⟨(some 56), (.un .not (.t 55)), none⟩, ⟨(some 57), (.mov (.t 56)), none⟩, ⟨(some 58), (.load true 2 (.t 9)), (some ((some 57), true))⟩, ⟨(some 59), (.load true 2 (.t 10)), (some ((some 57), true))⟩, ⟨(some 60), (.load true 2 (.t 11)), (some ((some 57), true))⟩, ⟨(some 61), (.call .b (.v (.fn 69 [] [])) [(.t 58), (.t 59), (.t 60)]), (some ((some 57), true))⟩, ⟨(some 62), (.un .not (.t 61)), (some ((some 57), true))⟩, ⟨(some 63), (.pick (.t 57) (.t 62) (.v bf)), none⟩, ⟨(some 6), (.mov (.t 63)), none⟩]) .ret) .skip))))) (.seq (.reg [⟨(some 64), (.load true 2 (.t 8)), none⟩, ⟨(some 65), (.load true 2 (.t 9)), none⟩, ⟨(some 66), (.load true 2 (.t 10)), none⟩, ⟨(some 67), (.load true 2 (.t 11)), none⟩, ⟨(some 68), (.call .b (.v (.fn 70 [] [])) [(.t 64), (.t 65), (.t 66), (.t 67)]), none⟩, ⟨(some 69), (.un .not (.t 68)), none⟩, ⟨(some 6), (.mov (.t 69)), none⟩]) .ret))))))⟩
/-- slices.IndexFunc[[]apogee/api.Point,apogee/api.Point] -/
def c64 : AFn := ⟨19, [(.tmp 4)], (.seq (.reg [⟨(some 4), (.mov (.v (iz 0))), none⟩]) (.seq (.seq (.reg [⟨(some 6), (.mov (.t 0)), none⟩, ⟨(some 7), (.bk .lenV [(.t 6)]), none⟩, ⟨(some 8), (.mov (.v (iz 0))), none⟩]) (.block 0 (.loop (.seq (.reg [⟨(some 9), (.bin .lss (.t 8) (.t 7)), none⟩]) (.seq (.cond (.t 9) .skip (.exit 0)) (.seq (.block 1 (.seq (.reg [⟨(some 10), (.mov (.t 8)), none⟩, ⟨(some 5), (.mov (.t 10)), none⟩]) (.seq (.reg [⟨(some 11), (.mov (.t 1)), none⟩, ⟨(some 12), (.mov (.t 0)), none⟩, ⟨(some 13), (.mov (.t 5)), none⟩, ⟨(some 14), (.ixAS ag2 2 (.t 12) (.t 13)), none⟩, ⟨(some 15), (.load true 2 (.t 14)), none⟩, ⟨(some 16), (.call .b (.t 11) [(.t 15)]), none⟩]) (.cond (.t 16) (.seq (.reg [⟨(some 17), (.mov (.t 5)), none⟩, ⟨(some 4), (.mov (.t 17)), none⟩]) .ret) .skip)))) (.reg [⟨(some 18), (.bin .add (.t 8) (.v (iz 1))), none⟩, ⟨(some 8), (.mov (.t 18)), none⟩]))))))) (.seq (.reg [⟨(some 4), (.mov (.v (iz (-1)))), none⟩]) .ret)))⟩
/-- apogee/apogeeref01.Cmp -/
def c65 : AFn := ⟨29, [(.tmp 4)], (.seq (.reg [⟨(some 2), (.box E98 (.t 0)), none⟩, ⟨(some 3), (.box E98 (.t 1)), none⟩, ⟨(some 4), (.mov (.v (iz 0))), none⟩]) (.seq (.block 0 (.seq (.reg [⟨(some 6), (.fldA 0 (.t 2)), none⟩, ⟨(some 7), (.load false 1 (.t 6)), none⟩, ⟨(some 8), (.fldA 0 (.t 3)), none⟩, ⟨(some 9), (.load false 1 (.t 8)), none⟩, ⟨(some 10), (.bin .lss (.t 7) (.t 9)), none⟩, ⟨(some 11), (.mov (.t 10)), none⟩, ⟨(some 12), (.fldA 0 (.t 2)), (some ((some 11), false))⟩, ⟨(some 13), (.load false 1 (.t 12)), (some ((some 11), false))⟩, ⟨(some 14), (.fldA 0 (.t 3)), (some ((some 11), false))⟩, ⟨(some 15), (.load false 1 (.t 14)), (some ((some 11), false))⟩, ⟨(some 16), (.bin .eql (.t 13) (.t 15)), (some ((some 11), false))⟩, ⟨(some 17), (.mov (.t 16)), (some ((some 11), false))⟩, ⟨(some 18), (.fldA 1 (.t 2)), (some ((some 17), true))⟩, ⟨(some 19), (.load false 1 (.t 18)), (some ((some 17), true))⟩, ⟨(some 20), (.fldA 1 (.t 3)), (some ((some 17), true))⟩, ⟨(some 21), (.load false 1 (.t 20)), (some ((some 17), true))⟩, ⟨(some 22), (.bin .lss (.t 19) (.t 21)), (some ((some 17), true))⟩, ⟨(some 23), (.pick (.t 17) (.t 22) (.v bf)), (some ((some 11), false))⟩, ⟨(some 24), (.pick (.t 11) (.v bt) (.t 23)), none⟩, ⟨(some 5), (.mov (.t 24)), none⟩]) (.cond (.t 5) (.seq (.reg [⟨(some 4), (.mov (.v (iz (-1)))), none⟩]) .ret) (.seq (.reg [⟨(some 26), (.load true 2 (.t 2)), none⟩, ⟨(some 27), (.load true 2 (.t 3)), none⟩, ⟨(some 28), (.eqv false 4 [i6, (.i .u64)] (.t 26) (.t 27)), none⟩, ⟨(some 25), (.mov (.t 28)), none⟩]) (.cond (.t 25) (.seq (.reg [⟨(some 4), (.mov (.v (iz 0))), none⟩]) .ret) .skip))))) (.seq (.reg [⟨(some 4), (.mov (.v (iz 1))), none⟩]) .ret)))⟩
/-- apogee/apogeeref01.Mul -/
def c66 : AFn := ⟨36, [(.cell true 2 4)], (.seq (.reg [⟨(some 4), (.alloc E98), none⟩]) (.seq (.reg [⟨(some 9), (.mov (.t 0)), none⟩, ⟨(some 10), (.call (.agg [i6, (.i .u64)]) (.v (.fn 71 [] [])) [(.t 9)]), none⟩, ⟨(some 5), (.alloc E98), none⟩, ⟨none, (.store 2 (.t 5) (.t 10)), none⟩]) (.seq (.reg [⟨(some 11), (.build [(iz 0), (.int .u64 0)] []), none⟩, ⟨(some 6), (.alloc E98), none⟩, ⟨none, (.store 2 (.t 6) (.t 11)), none⟩]) (.seq (.reg [⟨(some 12), (.mov (.t 1)), none⟩, ⟨(some 13), (.conv .u64 (.t 12)), none⟩, ⟨(some 7), (.mov (.t 13)), none⟩]) (.seq (.seq (.reg [⟨(some 8), (.mov (.v (iz 0))), none⟩]) (.block 0 (.loop (.seq (.seq (.reg [⟨(some 14), (.mov (.t 8)), none⟩, ⟨(some 15), (.bin .lss (.t 14) (.v (iz 64))), none⟩]) (.cond (.t 15) .skip (.exit 0))) (.seq (.block 1 (.seq (.seq (.reg [⟨(some 18), (.mov (.t 7)), none⟩, ⟨(some 19), (.mov (.t 8)), none⟩, ⟨(some 20), (.bin .shr (.t 18) (.t 19)), none⟩, ⟨(some 21), (.bin .and (.t 20) (.v (.int .u64 1))), none⟩, ⟨(some 22), (.bin .eql (.t 21) (.v (.int .u64 1))), none⟩]) (.cond (.t 22) (.reg [⟨(some 23), (.load true 2 (.t 6)), none⟩, ⟨(some 24), (.load true 2 (.t 5)), none⟩, ⟨(some 25), (.call (.agg [i6, (.i .u64)]) (.v (.fn 72 [] [])) [(.t 23), (.t 24)]), none⟩, ⟨none, (.store 2 (.t 6) (.t 25)), none⟩]) .skip)) (.reg [⟨(some 26), (.load true 2 (.t 5)), none⟩, ⟨(some 27), (.load true 2 (.t 5)), none⟩, ⟨(some 28), (.call (.agg [i6, (.i .u64)]) (.v (.fn 72 [] [])) [(.t 26), (.t 27)]), none⟩, ⟨none, (.store 2 (.t 5) (.t 28)), none⟩]))) (.reg [⟨(some 16), (.mov (.t 8)), none⟩, ⟨(some 17), (.bin .add (.t 16) (.v (iz 1))), none⟩, ⟨(some 8), (.mov (.t 17)), none⟩])))))) (.seq (.seq (.reg [⟨(some 29), (.mov (.t 1)), none⟩, ⟨(some 30), (.bin .lss (.t 29) (.v (iz 0))), none⟩]) (.cond (.t 30) (.regD [(⟨(some 31), (.load true 2 (.t 6)), none⟩, []), (⟨(some 32), (.load true 2 (.t 5)), none⟩, []), (⟨(some 33), (.call (.agg [i6, (.i .u64)]) (.v (.fn 73 [] [])) [(.t 32)]), none⟩, []), (⟨(some 34), (.call (.agg [i6, (.i .u64)]) (.v (.fn 72 [] [])) [(.t 31), (.t 33)]), none⟩, [1000000]), (⟨none, (.store 2 (.t 6) (.t 34)), none⟩, [])]) .skip)) (.seq (.reg [⟨(some 35), (.load true 2 (.t 6)), none⟩, ⟨none, (.store 2 (.t 4) (.t 35)), none⟩]) .ret)))))))⟩
/-- apogee/point.within -/
def c67 : AFn := ⟨9, [(.tmp 2)], (.seq (.reg [⟨(some 2), (.mov (.v bf)), none⟩]) (.seq (.reg [⟨(some 3), (.mov (.t 0)), none⟩, ⟨(some 4), (.bin .geq (.t 3) (.v (iz (-1099511627776)))), none⟩, ⟨(some 5), (.mov (.t 4)), none⟩, ⟨(some 6), (.mov (.t 0)), (some ((some 5), true))⟩, ⟨(some 7), (.bin .leq (.t 6) (.v (iz 1099511627776))), (some ((some 5), true))⟩, ⟨(some 8), (.pick (.t 5) (.t 7) (.v bf)), none⟩, ⟨(some 2), (.mov (.t 8)), none⟩]) .ret))⟩
/-- apogee/poly.edge -/
def c68 : AFn := ⟨18, [(.cell true 2 4), (.cell true 2 5)], (.seq (.reg [⟨(some 4), (.alloc E62), none⟩, ⟨(some 5), (.alloc E62), none⟩]) (.seq (.regD [(⟨(some 6), (.mov (.t 0)), none⟩, []), (⟨(some 7), (.mov (.t 1)), none⟩, []), (⟨(some 8), (.ixAS ag2 2 (.t 6) (.t 7)), none⟩, []), (⟨(some 9), (.load true 2 (.t 8)), none⟩, []), (⟨(some 10), (.mov (.t 0)), none⟩, []), (⟨(some 11), (.mov (.t 1)), none⟩, []), (⟨(some 12), (.bin .add (.t 11) (.v (iz 1))), none⟩, []), (⟨(some 13), (.mov (.t 0)), none⟩, []), (⟨(some 14), (.bk .lenV [(.t 13)]), none⟩, []), (⟨(some 15), (.bin .rem (.t 12) (.t 14)), none⟩, []), (⟨(some 16), (.ixAS ag2 2 (.t 10) (.t 15)), none⟩, []), (⟨(some 17), (.load true 2 (.t 16)), none⟩, []), (⟨none, (.store 2 (.t 4) (.t 9)), none⟩, [11]), (⟨none, (.store 2 (.t 5) (.t 17)), none⟩, [])]) .ret))⟩
/-- apogee/point.On -/
def c69 : AFn := ⟨37, [(.tmp 6)], (.seq (.reg [⟨(some 3), (.box E62 (.t 0)), none⟩, ⟨(some 4), (.box E62 (.t 1)), none⟩, ⟨(some 5), (.box E62 (.t 2)), none⟩, ⟨(some 6), (.mov (.v bf)), none⟩]) (.seq (.reg [⟨(some 7), (.load true 2 (.t 3)), none⟩, ⟨(some 8), (.load true 2 (.t 4)), none⟩, ⟨(some 9), (.load true 2 (.t 5)), none⟩, ⟨(some 10), (.mkrow E62 3 [(0, (.t 7)), (1, (.t 8)), (2, (.t 9))]), none⟩, ⟨(some 11), (.call .b (.v (.fn 74 [] [])) [(.t 10)]), none⟩, ⟨(some 12), (.mov (.t 11)), none⟩, ⟨(some 13), (.load true 2 (.t 4)), (some ((some 12), true))⟩, ⟨(some 14), (.load true 2 (.t 5)), (some ((some 12), true))⟩, ⟨(some 15), (.load true 2 (.t 3)), (some ((some 12), true))⟩, ⟨(some 16), (.call i6 (.v (.fn 75 [] [])) [(.t 13), (.t 14), (.t 15)]), (some ((some 12), true))⟩, ⟨(some 17), (.bin .eql (.t 16) (.v (iz 0))), (some ((some 12), true))⟩, ⟨(some 18), (.pick (.t 12) (.t 17) (.v bf)), none⟩, ⟨(some 19), (.mov (.t 18)), none⟩, ⟨(some 20), (.fldA 0 (.t 3)), (some ((some 19), true))⟩, ⟨(some 21), (.load false 1 (.t 20)), (some ((some 19), true))⟩, ⟨(some 22), (.fldA 0 (.t 4)), (some ((some 19), true))⟩, ⟨(some 23), (.load false 1 (.t 22)), (some ((some 19), true))⟩, ⟨(some 24), (.fldA 0 (.t 5)), (some ((some 19), true))⟩, ⟨(some 25), (.load false 1 (.t 24)), (some ((some 19), true))⟩, ⟨(some 26), (.call .b (.v (.fn 76 [] [])) [(.t 21), (.t 23), (.t 25)]), (some ((some 19), true))⟩, ⟨(some 27), (.pick (.t 19) (.t 26) (.v bf)), none⟩, ⟨(some 28), (.mov (.t 27)), none⟩, ⟨(some 29), (.fldA 1 (.t 3)), (some ((some 28), true))⟩, ⟨(some 30), (.load false 1 (.t 29)), (some ((some 28), true))⟩, ⟨(some 31), (.fldA 1 (.t 4)), (some ((some 28), true))⟩, ⟨(some 32), (.load false 1 (.t 31)), (some ((some 28), true))⟩, ⟨(some 33), (.fldA 1 (.t 5)), (some ((some 28), true))⟩, ⟨(some 34), (.load false 1 (.t 33)), (some ((some 28), true))⟩, ⟨(some 35), (.call .b (.v (.fn 76 [] [])) [(.t 30), (.t 32), (.t 34)]), (some ((some 28), true))⟩, ⟨(some 36), (.pick (.t 28) (.t 35) (.v bf)), none⟩, ⟨(some 6), (.mov (.t 36)), none⟩]) .ret))⟩
/-- apogee/point.Meet -/
def c70 : AFn := ⟨56, [(.tmp 8)], (.seq (.reg [⟨(some 4), (.box E62 (.t 0)), none⟩, ⟨(some 5), (.box E62 (.t 1)), none⟩, ⟨(some 6), (.box E62 (.t 2)), none⟩, ⟨(some 7), (.box E62 (.t 3)), none⟩, ⟨(some 8), (.mov (.v bf)), none⟩]) (.seq (.block 0 (.seq (.reg [⟨(some 10), (.load true 2 (.t 4)), none⟩, ⟨(some 11), (.load true 2 (.t 5)), none⟩, ⟨(some 12), (.load true 2 (.t 6)), none⟩, ⟨(some 13), (.load true 2 (.t 7)), none⟩, ⟨(some 14), (.mkrow E62 4 [(0, (.t 10)), (1, (.t 11)), (2, (.t 12)), (3, (.t 13))]), none⟩, ⟨(some 15), (.call .b (.v (.fn 74 [] [])) [(.t 14)]), none⟩, ⟨(some 16), (.un .not (.t 15)), none⟩, ⟨(some 9), (.mov (.t 16)), none⟩]) (.cond (.t 9) (.seq (.reg [⟨(some 8), (.mov (.v bf)), none⟩]) .ret) (.seq (.seq (.reg [⟨(some 18), (.load true 2 (.t 4)), none⟩, ⟨(some 19), (.load true 2 (.t 6)), none⟩, ⟨(some 20), (.load true 2 (.t 7)), none⟩, ⟨(some 21), (.call .b (.v (.fn 69 [] [])) [(.t 18), (.t 19), (.t 20)]), none⟩, ⟨(some 17), (.mov (.t 21)), none⟩]) (.cond (.t 17) .skip (.seq (.reg [⟨(some 22), (.load true 2 (.t 5)), none⟩, ⟨(some 23), (.load true 2 (.t 6)), none⟩, ⟨(some 24), (.load true 2 (.t 7)), none⟩, ⟨(some 25), (.call .b (.v (.fn 69 [] [])) [(.t 22), (.t 23), (.t 24)]), none⟩, ⟨(some 17), (.mov (.t 25)), none⟩]) (.cond (.t 17) .skip (.seq (.reg [⟨(some 26), (.load true 2 (.t 6)), none⟩, ⟨(some 27), (.load true 2 (.t 4)), none⟩, ⟨(some 28), (.load true 2 (.t 5)), none⟩, ⟨(some 29), (.call .b (.v (.fn 69 [] [])) [(.t 26), (.t 27), (.t 28)]), none⟩, ⟨(some 17), (.mov (.t 29)), none⟩]) (.cond (.t 17) .skip (.reg [⟨(some 30), (.load true 2 (.t 7)), none⟩, ⟨(some 31), (.load true 2 (.t 4)), none⟩, ⟨(some 32), (.load true 2 (.t 5)), none⟩, ⟨(some 33), (.call .b (.v (.fn 69 [] [])) [(.t 30), (.t 31), (.t 32)]), none⟩, ⟨(some 17), (.mov (.t 33)), none⟩]))))))) (.cond (.t 17) (.seq (.reg [⟨(some 8), (.mov (.v bt)), none⟩]) .ret) .skip))))) (.seq (.regD [(⟨(some 34), (.load true 2 (.t 4)), none⟩, []), (⟨(some 35), (.load true 2 (.t 5)), none⟩, []), (⟨(some 36), (.load true 2 (.t 6)), none⟩, []), (⟨(some 37), (.call i6 (.v (.fn 75 [] [])) [(.t 34), (.t 35), (.t 36)]), none⟩, []), (⟨(some 38), (.load true 2 (.t 4)), none⟩, []), (⟨(some 39), (.load true 2 (.t 5)), none⟩, []), (⟨(some 40), (.load true 2 (.t 7)), none⟩, []), (⟨(some 41), (.call i6 (.v (.fn 75 [] [])) [(.t 38), (.t 39), (.t 40)]), none⟩, [1000000]), (⟨(some 42), (.bin .mul (.t 37) (.t 41)), none⟩, []), (⟨(some 43), (.bin .lss (.t 42) (.v (iz 0))), none⟩, []), (⟨(some 44), (.mov (.t 43)), none⟩, []), (⟨(some 45), (.load true 2 (.t 6)), (some ((some 44), true))⟩, []), (⟨(some 46), (.load true 2 (.t 7)), (some ((some 44), true))⟩, []), (⟨(some 47), (.load true 2 (.t 4)), (some ((some 44), true))⟩, []), (⟨(some 48), (.call i6 (.v (.fn 75 [] [])) [(.t 45), (.t 46), (.t 47)]), (some ((some 44), true))⟩, []), (⟨(some 49), (.load true 2 (.t 6)), (some ((some 44), true))⟩, []), (⟨(some 50), (.load true 2 (.t 7)), (some ((some 44), true))⟩, []), (⟨(some 51), (.load true 2 (.t 5)), (some ((some 44), true))⟩, []), (⟨(some 52), (.call i6 (.v (.fn 75 [] [])) [(.t 49), (.t 50), (.t 51)]), (some ((some 44), true))⟩, [1000000]), (⟨(some 53), (.bin .mul (.t 48) (.t 52)), (some ((some 44), true))⟩, []), (⟨(some 54), (.bin .lss (.t 53) (.v (iz 0))), (some ((some 44), true))⟩, []), (⟨(some 55), (.pick (.t 44) (.t 54) (.v bf)), none⟩, []), (⟨(some 8), (.mov (.t 55)), none⟩, [])]) .ret)))⟩
/-- apogee/apogeeref01.Of -/
def c71 : AFn := ⟨11, [(.cell true 2 2)], (.seq (.reg [⟨(some 2), (.alloc E98), none⟩]) (.seq (.seq (.reg [⟨(some 3), (.mov (.t 0)), none⟩, ⟨(some 4), (.bin .lss (.t 3) (.v (iz 0))), none⟩]) (.cond (.t 4) (.seq (.reg [⟨(some 5), (.mov (.t 0)), none⟩, ⟨(some 6), (.conv .u64 (.t 5)), none⟩, ⟨(some 7), (.build [(iz 0), (.int .u64 0)] [(0, (1, (.v (iz (-1))))), (1, (1, (.t 6)))]), none⟩, ⟨none, (.store 2 (.t 2) (.t 7)), none⟩]) .ret) .skip)) (.seq (.reg [⟨(some 8), (.mov (.t 0)), none⟩, ⟨(some 9), (.conv .u64 (.t 8)), none⟩, ⟨(some 10), (.build [(iz 0), (.int .u64 0)] [(0, (1, (.v (iz 0)))), (1, (1, (.t 9)))]), none⟩, ⟨none, (.store 2 (.t 2) (.t 10)), none⟩]) .ret)))⟩
/-- apogee/apogeeref01.plus -/
def c72 : AFn := ⟨39, [(.cell true 2 4)], (.seq (.reg [⟨(some 2), (.box E98 (.t 0)), none⟩, ⟨(some 3), (.box E98 (.t 1)), none⟩, ⟨(some 4), (.alloc E98), none⟩]) (.seq (.regD [(⟨(some 11), (.load true 2 (.t 2)), none⟩, []), (⟨(some 12), (.call .l (.v (.fn 77 [] [])) [(.t 11)]), none⟩, []), (⟨(some 13), (.load true 2 (.t 3)), none⟩, []), (⟨(some 14), (.call .l (.v (.fn 77 [] [])) [(.t 13)]), none⟩, [1000000]), (⟨(some 5), (.mov (.t 12)), none⟩, []), (⟨(some 6), (.mov (.t 14)), none⟩, [])]) (.seq (.reg [⟨(some 7), (.mov (.v (.zsl true))), none⟩]) (.seq (.reg [⟨(some 8), (.mov (.v (iz 0))), none⟩]) (.seq (.seq (.reg [⟨(some 9), (.mov (.v (iz 0))), none⟩]) (.block 0 (.loop (.seq (.seq (.reg [⟨(some 15), (.mov (.t 9)), none⟩, ⟨(some 16), (.bin .lss (.t 15) (.v (iz 128))), none⟩]) (.cond (.t 16) .skip (.exit 0))) (.seq (.block 1 (.seq (.regD [(⟨(some 19), (.mov (.t 5)), none⟩, []), (⟨(some 20), (.mov (.t 9)), none⟩, []), (⟨(some 21), (.ixAS i6 1 (.t 19) (.t 20)), none⟩, []), (⟨(some 22), (.load false 1 (.t 21)), none⟩, []), (⟨(some 23), (.mov (.t 6)), none⟩, []), (⟨(some 24), (.mov (.t 9)), none⟩, []), (⟨(some 25), (.ixAS i6 1 (.t 23) (.t 24)), none⟩, []), (⟨(some 26), (.load false 1 (.t 25)), none⟩, []), (⟨(some 27), (.bin .add (.t 22) (.t 26)), none⟩, []), (⟨(some 28), (.mov (.t 8)), none⟩, []), (⟨(some 29), (.bin .add (.t 27) (.t 28)), none⟩, []), (⟨(some 10), (.mov (.t 29)), none⟩, [])]) (.seq (.reg [⟨(some 30), (.mov (.t 7)), none⟩, ⟨(some 31), (.mov (.t 10)), none⟩, ⟨(some 32), (.bin .rem (.t 31) (.v (iz 2))), none⟩, ⟨(some 33), (.mkrow E3 1 [(0, (.t 32))]), none⟩, ⟨(some 34), (.app E3 (.t 30) (.t 33)), none⟩, ⟨(some 7), (.mov (.t 34)), none⟩]) (.reg [⟨(some 35), (.mov (.t 10)), none⟩, ⟨(some 36), (.bin .quo (.t 35) (.v (iz 2))), none⟩, ⟨(some 8), (.mov (.t 36)), none⟩])))) (.reg [⟨(some 17), (.mov (.t 9)), none⟩, ⟨(some 18), (.bin .add (.t 17) (.v (iz 1))), none⟩, ⟨(some 9), (.mov (.t 18)), none⟩])))))) (.seq (.reg [⟨(some 37), (.mov (.t 7)), none⟩, ⟨(some 38), (.call (.agg [i6, (.i .u64)]) (.v (.fn 78 [] [])) [(.t 37)]), none⟩, ⟨none, (.store 2 (.t 4) (.t 38)), none⟩]) .ret))))))⟩
/-- apogee/apogeeref01.Flip -/
def c73 : AFn := ⟨12, [(.cell true 2 2)], (.seq (.reg [⟨(some 1), (.box E98 (.t 0)), none⟩, ⟨(some 2), (.alloc E98), none⟩]) (.seq (.reg [⟨(some 3), (.fldA 0 (.t 1)), none⟩, ⟨(some 4), (.load false 1 (.t 3)), none⟩, ⟨(some 5), (.un .xor (.t 4)), none⟩, ⟨(some 6), (.fldA 1 (.t 1)), none⟩, ⟨(some 7), (.load false 1 (.t 6)), none⟩, ⟨(some 8), (.un .xor (.t 7)), none⟩, ⟨(some 9), (.build [(iz 0), (.int .u64 0)] [(0, (1, (.t 5))), (1, (1, (.t 8)))]), none⟩, ⟨(some 10), (.build [(iz 0), (.int .u64 0)] [(0, (1, (.v (iz 0)))), (1, (1, (.v (.int .u64 1))))]), none⟩, ⟨(some 11), (.call (.agg [i6, (.i .u64)]) (.v (.fn 72 [] [])) [(.t 9), (.t 10)]), none⟩, ⟨none, (.store 2 (.t 2) (.t 11)), none⟩]) .ret))⟩
/-- apogee/point.right -/
def c74 : AFn := ⟨6, [(.tmp 2)], (.seq (.reg [⟨(some 2), (.mov (.v bf)), none⟩]) (.seq (.reg [⟨(some 3), (.mov (.t 0)), none⟩, ⟨(some 4), (.call .b (.v (.fn 58 [] [])) [(.t 3), (.v (.fn 79 [] []))]), none⟩, ⟨(some 5), (.un .not (.t 4)), none⟩, ⟨(some 2), (.mov (.t 5)), none⟩]) .ret))⟩
/-- apogee/point.Turn -/
def c75 : AFn := ⟨36, [(.tmp 6)], (.seq (.reg [⟨(some 3), (.box E62 (.t 0)), none⟩, ⟨(some 4), (.box E62 (.t 1)), none⟩, ⟨(some 5), (.box E62 (.t 2)), none⟩, ⟨(some 6), (.mov (.v (iz 0))), none⟩]) (.seq (.seq (.reg [⟨(some 7), (.load true 2 (.t 3)), none⟩, ⟨(some 8), (.load true 2 (.t 4)), none⟩, ⟨(some 9), (.load true 2 (.t 5)), none⟩, ⟨(some 10), (.mkrow E62 3 [(0, (.t 7)), (1, (.t 8)), (2, (.t 9))]), none⟩, ⟨(some 11), (.call .b (.v (.fn 74 [] [])) [(.t 10)]), none⟩, ⟨(some 12), (.un .not (.t 11)), none⟩]) (.cond (.t 12) (.seq (.reg [⟨(some 6), (.mov (.v (iz 0))), none⟩]) .ret) .skip)) (.seq (.regD [(⟨(some 13), (.fldA 0 (.t 4)), none⟩, []), (⟨(some 14), (.load false 1 (.t 13)), none⟩, []), (⟨(some 15), (.fldA 0 (.t 3)), none⟩, []), (⟨(some 16), (.load false 1 (.t 15)), none⟩, []), (⟨(some 17), (.bin .sub (.t 14) (.t 16)), none⟩, []), (⟨(some 18), (.fldA 1 (.t 5)), none⟩, []), (⟨(some 19), (.load false 1 (.t 18)), none⟩, []), (⟨(some 20), (.fldA 1 (.t 3)), none⟩, []), (⟨(some 21), (.load false 1 (.t 20)), none⟩, []), (⟨(some 22), (.bin .sub (.t 19) (.t 21)), none⟩, []), (⟨(some 23), (.call (.agg [i6, (.i .u64)]) (.v (.fn 80 [] [])) [(.t 17), (.t 22)]), none⟩, []), (⟨(some 24), (.fldA 1 (.t 4)), none⟩, []), (⟨(some 25), (.load false 1 (.t 24)), none⟩, []), (⟨(some 26), (.fldA 1 (.t 3)), none⟩, []), (⟨(some 27), (.load false 1 (.t 26)), none⟩, []), (⟨(some 28), (.bin .sub (.t 25) (.t 27)), none⟩, []), (⟨(some 29), (.fldA 0 (.t 5)), none⟩, []), (⟨(some 30), (.load false 1 (.t 29)), none⟩, []), (⟨(some 31), (.fldA 0 (.t 3)), none⟩, []), (⟨(some 32), (.load false 1 (.t 31)), none⟩, []), (⟨(some 33), (.bin .sub (.t 30) (.t 32)), none⟩, []), (⟨(some 34), (.call (.agg [i6, (.i .u64)]) (.v (.fn 80 [] [])) [(.t 28), (.t 33)]), none⟩, [1000000]), (⟨(some 35), (.call i6 (.v (.fn 81 [] [])) [(.t 23), (.t 34)]), none⟩, [1000000]), (⟨(some 6), (.mov (.t 35)), none⟩, [])]) .ret)))⟩
/-- apogee/point.between -/
def c76 : AFn := ⟨19, [(.tmp 6)], (.seq (.reg [⟨(some 6), (.mov (.v bf)), none⟩]) (.seq (.reg [⟨(some 7), (.mov (.t 1)), none⟩, ⟨(some 8), (.mov (.t 2)), none⟩, ⟨(some 9), (.bk .min [(.t 7), (.t 8)]), none⟩, ⟨(some 10), (.mov (.t 0)), none⟩, ⟨(some 11), (.bin .leq (.t 9) (.t 10)), none⟩, ⟨(some 12), (.mov (.t 11)), none⟩, ⟨(some 13), (.mov (.t 0)), (some ((some 12), true))⟩, ⟨(some 14), (.mov (.t 1)), (some ((some 12), true))⟩, ⟨(some 15), (.mov (.t 2)), (some ((some 12), true))⟩, ⟨(some 16), (.bk .max [(.t 14), (.t 15)]), (some ((some 12), true))⟩, ⟨(some 17), (.bin .leq (.t 13) (.t 16)), (some ((some 12), true))⟩, ⟨(some 18), (.pick (.t 12) (.t 17) (.v bf)), none⟩, ⟨(some 6), (.mov (.t 18)), none⟩]) .ret))⟩
/-- apogee/apogeeref01.bits -/
def c77 : AFn := ⟨34, [(.tmp 2)], (.seq (.reg [⟨(some 1), (.box E98 (.t 0)), none⟩, ⟨(some 2), (.mov (.v (.zsl true))), none⟩]) (.seq (.reg [⟨(some 3), (.mov (.v (.zsl true))), none⟩]) (.seq (.seq (.reg [⟨(some 4), (.mov (.v (iz 0))), none⟩]) (.block 0 (.loop (.seq (.seq (.reg [⟨(some 6), (.mov (.t 4)), none⟩, ⟨(some 7), (.bin .lss (.t 6) (.v (iz 64))), none⟩]) (.cond (.t 7) .skip (.exit 0))) (.seq (.block 1 (.reg [⟨(some 10), (.mov (.t 3)), none⟩, ⟨(some 11), (.fldA 1 (.t 1)), none⟩, ⟨(some 12), (.load false 1 (.t 11)), none⟩, ⟨(some 13), (.mov (.t 4)), none⟩, ⟨(some 14), (.bin .shr (.t 12) (.t 13)), none⟩, ⟨(some 15), (.bin .and (.t 14) (.v (.int .u64 1))), none⟩, ⟨(some 16), (.conv .i64 (.t 15)), none⟩, ⟨(some 17), (.mkrow E3 1 [(0, (.t 16))]), none⟩, ⟨(some 18), (.app E3 (.t 10) (.t 17)), none⟩, ⟨(some 3), (.mov (.t 18)), none⟩])) (.reg [⟨(some 8), (.mov (.t 4)), none⟩, ⟨(some 9), (.bin .add (.t 8) (.v (iz 1))), none⟩, ⟨(some 4), (.mov (.t 9)), none⟩])))))) (.seq (.seq (.reg [⟨(some 5), (.mov (.v (iz 0))), none⟩]) (.block 2 (.loop (.seq (.seq (.reg [⟨(some 19), (.mov (.t 5)), none⟩, ⟨(some 20), (.bin .lss (.t 19) (.v (iz 64))), none⟩]) (.cond (.t 20) .skip (.exit 2))) (.seq (.block 3 (.reg [⟨(some 23), (.mov (.t 3)), none⟩, ⟨(some 24), (.fldA 0 (.t 1)), none⟩, ⟨(some 25), (.load false 1 (.t 24)), none⟩, ⟨(some 26), (.conv .u64 (.t 25)), none⟩, ⟨(some 27), (.mov (.t 5)), none⟩, ⟨(some 28), (.bin .shr (.t 26) (.t 27)), none⟩, ⟨(some 29), (.bin .and (.t 28) (.v (.int .u64 1))), none⟩, ⟨(some 30), (.conv .i64 (.t 29)), none⟩, ⟨(some 31), (.mkrow E3 1 [(0, (.t 30))]), none⟩, ⟨(some 32), (.app E3 (.t 23) (.t 31)), none⟩, ⟨(some 3), (.mov (.t 32)), none⟩])) (.reg [⟨(some 21), (.mov (.t 5)), none⟩, ⟨(some 22), (.bin .add (.t 21) (.v (iz 1))), none⟩, ⟨(some 5), (.mov (.t 22)), none⟩])))))) (.seq (.reg [⟨(some 33), (.mov (.t 3)), none⟩, ⟨(some 2), (.mov (.t 33)), none⟩]) .ret)))))⟩
/-- apogee/apogeeref01.value -/
def c78 : AFn := ⟨36, [(.cell true 2 2)], (.seq (.reg [⟨(some 2), (.alloc E98), none⟩]) (.seq (.reg [⟨(some 6), (.build [(iz 0), (.int .u64 0)] []), none⟩, ⟨(some 3), (.alloc E98), none⟩, ⟨none, (.store 2 (.t 3) (.t 6)), none⟩]) (.seq (.reg [⟨(some 4), (.mov (.v (.int .u64 0))), none⟩]) (.seq (.seq (.reg [⟨(some 5), (.mov (.v (iz 0))), none⟩]) (.block 0 (.loop (.seq (.seq (.reg [⟨(some 7), (.mov (.t 5)), none⟩, ⟨(some 8), (.bin .lss (.t 7) (.v (iz 64))), none⟩]) (.cond (.t 8) .skip (.exit 0))) (.seq (.block 1 (.seq (.seq (.reg [⟨(some 11), (.mov (.t 0)), none⟩, ⟨(some 12), (.mov (.t 5)), none⟩, ⟨(some 13), (.ixAS i6 1 (.t 11) (.t 12)), none⟩, ⟨(some 14), (.load false 1 (.t 13)), none⟩, ⟨(some 15), (.bin .eql (.t 14) (.v (iz 1))), none⟩]) (.cond (.t 15) (.regD [(⟨(some 16), (.fldA 1 (.t 3)), none⟩, []), (⟨(some 17), (.load false 1 (.t 16)), none⟩, []), (⟨(some 18), (.mov (.t 5)), none⟩, []), (⟨(some 19), (.bin .shl (.v (.int .u64 1)) (.t 18)), none⟩, []), (⟨(some 20), (.bin .or (.t 17) (.t 19)), none⟩, []), (⟨(some 21), (.fldA 1 (.t 3)), none⟩, []), (⟨none, (.store 1 (.t 21) (.t 20)), none⟩, [])]) .skip)) (.seq (.reg [⟨(some 22), (.mov (.t 0)), none⟩, ⟨(some 23), (.mov (.t 5)), none⟩, ⟨(some 24), (.bin .add (.v (iz 64)) (.t 23)), none⟩, ⟨(some 25), (.ixAS i6 1 (.t 22) (.t 24)), none⟩, ⟨(some 26), (.load false 1 (.t 25)), none⟩, ⟨(some 27), (.bin .eql (.t 26) (.v (iz 1))), none⟩]) (.cond (.t 27) (.reg [⟨(some 28), (.mov (.t 4)), none⟩, ⟨(some 29), (.mov (.t 5)), none⟩, ⟨(some 30), (.bin .shl (.v (.int .u64 1)) (.t 29)), none⟩, ⟨(some 31), (.bin .or (.t 28) (.t 30)), none⟩, ⟨(some 4), (.mov (.t 31)), none⟩]) .skip)))) (.reg [⟨(some 9), (.mov (.t 5)), none⟩, ⟨(some 10), (.bin .add (.t 9) (.v (iz 1))), none⟩, ⟨(some 5), (.mov (.t 10)), none⟩])))))) (.seq (.reg [⟨(some 32), (.mov (.t 4)), none⟩, ⟨(some 33), (.conv .i64 (.t 32)), none⟩, ⟨(some 34), (.fldA 0 (.t 3)), none⟩, ⟨none, (.store 1 (.t 34) (.t 33)), none⟩]) (.seq (.reg [⟨(some 35), (.load true 2 (.t 3)), none⟩, ⟨none, (.store 2 (.t 2) (.t 35)), none⟩]) .ret))))))⟩
/-- apogee/point.right$1 -/
def c79 : AFn := ⟨6, [(.tmp 2)], (.seq (.reg [⟨(some 1), (.box E62 (.t 0)), none⟩, ⟨(some 2), (.mov (.v bf)), none⟩]) (.seq (.reg [⟨(some 3), (.load true 2 (.t 1)), none⟩, ⟨(some 4), (.call .b (.v (.fn 62 [] [])) [(.t 3)]), none⟩, ⟨(some 5), (.un .not (.t 4)), none⟩, ⟨(some 2), (.mov (.t 5)), none⟩]) .ret))⟩
/-- apogee/wide.Mul -/
def c80 : AFn := ⟨31, [(.cell true 2 4)], (.seq (.reg [⟨(some 4), (.alloc E110), none⟩]) (.seq (.reg [⟨(some 8), (.mov (.t 0)), none⟩, ⟨(some 9), (.conv .u64 (.t 8)), none⟩, ⟨(some 10), (.mov (.t 1)), none⟩, ⟨(some 11), (.conv .u64 (.t 10)), none⟩, ⟨(some 12), (.call (.tup [(.i .u64), (.i .u64)]) (.v (.fn 82 [] [])) [(.t 9), (.t 11)]), none⟩, ⟨(some 7), (.mov (.t 12)), none⟩, ⟨(some 13), (.extr (.t 7) 0), none⟩, ⟨(some 14), (.extr (.t 7) 1), none⟩, ⟨(some 5), (.mov (.t 13)), none⟩, ⟨(some 6), (.mov (.t 14)), none⟩]) (.seq (.seq (.reg [⟨(some 15), (.mov (.t 0)), none⟩, ⟨(some 16), (.bin .lss (.t 15) (.v (iz 0))), none⟩]) (.cond (.t 16) (.reg [⟨(some 17), (.mov (.t 5)), none⟩, ⟨(some 18), (.mov (.t 1)), none⟩, ⟨(some 19), (.conv .u64 (.t 18)), none⟩, ⟨(some 20), (.bin .sub (.t 17) (.t 19)), none⟩, ⟨(some 5), (.mov (.t 20)), none⟩]) .skip)) (.seq (.seq (.reg [⟨(some 21), (.mov (.t 1)), none⟩, ⟨(some 22), (.bin .lss (.t 21) (.v (iz 0))), none⟩]) (.cond (.t 22) (.reg [⟨(some 23), (.mov (.t 5)), none⟩, ⟨(some 24), (.mov (.t 0)), none⟩, ⟨(some 25), (.conv .u64 (.t 24)), none⟩, ⟨(some 26), (.bin .sub (.t 23) (.t 25)), none⟩, ⟨(some 5), (.mov (.t 26)), none⟩]) .skip)) (.seq (.reg [⟨(some 27), (.mov (.t 5)), none⟩, ⟨(some 28), (.conv .i64 (.t 27)), none⟩, ⟨(some 29), (.mov (.t 6)), none⟩, ⟨(some 30), (.build [(iz 0), (.int .u64 0)] [(0, (1, (.t 28))), (1, (1, (.t 29)))]), none⟩, ⟨none, (.store 2 (.t 4) (.t 30)), none⟩]) .ret)))))⟩
/-- (apogee/wide.Wide).Cmp -/
def c81 : AFn := ⟨17, [(.tmp 4)], (.seq (.reg [⟨(some 2), (.box E110 (.t 0)), none⟩, ⟨(some 3), (.box E110 (.t 1)), none⟩, ⟨(some 4), (.mov (.v (iz 0))), none⟩]) (.seq (.regD [(⟨(some 5), (.fldA 0 (.t 2)), none⟩, []), (⟨(some 6), (.load false 1 (.t 5)), none⟩, []), (⟨(some 7), (.fldA 0 (.t 3)), none⟩, []), (⟨(some 8), (.load false 1 (.t 7)), none⟩, []), (⟨(some 9), (.call i6 (.v (.fn 84 [] [])) [(.t 6), (.t 8)]), none⟩, []), (⟨(some 10), (.fldA 1 (.t 2)), none⟩, []), (⟨(some 11), (.load false 1 (.t 10)), none⟩, []), (⟨(some 12), (.fldA 1 (.t 3)), none⟩, []), (⟨(some 13), (.load false 1 (.t 12)), none⟩, []), (⟨(some 14), (.call i6 (.v (.fn 85 [] [])) [(.t 11), (.t 13)]), none⟩, [1000000]), (⟨(some 15), (.mkrow E3 2 [(0, (.t 9)), (1, (.t 14))]), none⟩, []), (⟨(some 16), (.call i6 (.v (.fn 83 [] [])) [(.t 15)]), none⟩, [1000000]), (⟨(some 4), (.mov (.t 16)), none⟩, [])]) .ret))⟩
/-- math/bits.Mul64 -/
def c82 : AFn := ⟨51, [(.tmp 4), (.tmp 5)], (.seq (.reg [⟨(some 4), (.mov (.v (.int .u64 0))), none⟩, ⟨(some 5), (.mov (.v (.int .u64 0))), none⟩]) (.seq (.reg [⟨(some 14), (.mov (.t 0)), none⟩, ⟨(some 15), (.bin .and (.t 14) (.v (.int .u64 4294967295))), none⟩, ⟨(some 6), (.mov (.t 15)), none⟩]) (.seq (.reg [⟨(some 16), (.mov (.t 0)), none⟩, ⟨(some 17), (.bin .shr (.t 16) (.v (.int .u64 32))), none⟩, ⟨(some 7), (.mov (.t 17)), none⟩]) (.seq (.reg [⟨(some 18), (.mov (.t 1)), none⟩, ⟨(some 19), (.bin .and (.t 18) (.v (.int .u64 4294967295))), none⟩, ⟨(some 8), (.mov (.t 19)), none⟩]) (.seq (.reg [⟨(some 20), (.mov (.t 1)), none⟩, ⟨(some 21), (.bin .shr (.t 20) (.v (.int .u64 32))), none⟩, ⟨(some 9), (.mov (.t 21)), none⟩]) (.seq (.reg [⟨(some 22), (.mov (.t 6)), none⟩, ⟨(some 23), (.mov (.t 8)), none⟩, ⟨(some 24), (.bin .mul (.t 22) (.t 23)), none⟩, ⟨(some 10), (.mov (.t 24)), none⟩]) (.seq (.reg [⟨(some 25), (.mov (.t 7)), none⟩, ⟨(some 26), (.mov (.t 8)), none⟩, ⟨(some 27), (.bin .mul (.t 25) (.t 26)), none⟩, ⟨(some 28), (.mov (.t 10)), none⟩, ⟨(some 29), (.bin .shr (.t 28) (.v (.int .u64 32))), none⟩, ⟨(some 30), (.bin .add (.t 27) (.t 29)), none⟩, ⟨(some 11), (.mov (.t 30)), none⟩]) (.seq (.reg [⟨(some 31), (.mov (.t 11)), none⟩, ⟨(some 32), (.bin .and (.t 31) (.v (.int .u64 4294967295))), none⟩, ⟨(some 12), (.mov (.t 32)), none⟩]) (.seq (.reg [⟨(some 33), (.mov (.t 11)), none⟩, ⟨(some 34), (.bin .shr (.t 33) (.v (.int .u64 32))), none⟩, ⟨(some 13), (.mov (.t 34)), none⟩]) (.seq (.reg [⟨(some 35), (.mov (.t 12)), none⟩, ⟨(some 36), (.mov (.t 6)), none⟩, ⟨(some 37), (.mov (.t 9)), none⟩, ⟨(some 38), (.bin .mul (.t 36) (.t 37)), none⟩, ⟨(some 39), (.bin .add (.t 35) (.t 38)), none⟩, ⟨(some 12), (.mov (.t 39)), none⟩]) (.seq (.reg [⟨(some 40), (.mov (.t 7)), none⟩, ⟨(some 41), (.mov (.t 9)), none⟩, ⟨(some 42), (.bin .mul (.t 40) (.t 41)), none⟩, ⟨(some 43), (.mov (.t 13)), none⟩, ⟨(some 44), (.bin .add (.t 42) (.t 43)), none⟩, ⟨(some 45), (.mov (.t 12)), none⟩, ⟨(some 46), (.bin .shr (.t 45) (.v (.int .u64 32))), none⟩, ⟨(some 47), (.bin .add (.t 44) (.t 46)), none⟩, ⟨(some 4), (.mov (.t 47)), none⟩]) (.seq (.reg [⟨(some 48), (.mov (.t 0)), none⟩, ⟨(some 49), (.mov (.t 1)), none⟩, ⟨(some 50), (.bin .mul (.t 48) (.t 49)), none⟩, ⟨(some 5), (.mov (.t 50)), none⟩]) .ret))))))))))))⟩
/-- cmp.Or[int] -/
def c83 : AFn := ⟨18, [(.tmp 2)], (.seq (.reg [⟨(some 2), (.mov (.v (iz 0))), none⟩]) (.seq (.reg [⟨(some 3), (.mov (.v (iz 0))), none⟩]) (.seq (.seq (.reg [⟨(some 6), (.mov (.t 0)), none⟩, ⟨(some 7), (.bk .lenV [(.t 6)]), none⟩, ⟨(some 8), (.mov (.v (iz 0))), none⟩]) (.block 0 (.loop (.seq (.reg [⟨(some 9), (.bin .lss (.t 8) (.t 7)), none⟩]) (.seq (.cond (.t 9) .skip (.exit 0)) (.seq (.block 1 (.seq (.reg [⟨(some 10), (.ixAS i6 1 (.t 6) (.t 8)), none⟩, ⟨(some 11), (.load false 1 (.t 10)), none⟩, ⟨(some 5), (.mov (.t 11)), none⟩]) (.seq (.reg [⟨(some 12), (.mov (.t 5)), none⟩, ⟨(some 13), (.mov (.t 3)), none⟩, ⟨(some 14), (.bin .neq (.t 12) (.t 13)), none⟩]) (.cond (.t 14) (.seq (.reg [⟨(some 15), (.mov (.t 5)), none⟩, ⟨(some 2), (.mov (.t 15)), none⟩]) .ret) .skip)))) (.reg [⟨(some 16), (.bin .add (.t 8) (.v (iz 1))), none⟩, ⟨(some 8), (.mov (.t 16)), none⟩]))))))) (.seq (.reg [⟨(some 17), (.mov (.t 3)), none⟩, ⟨(some 2), (.mov (.t 17)), none⟩]) .ret))))⟩
/-- cmp.Compare[int64] -/
def c84 : AFn := ⟨20, [(.tmp 4)], (.seq (.reg [⟨(some 4), (.mov (.v (iz 0))), none⟩]) (.seq (.reg [⟨(some 7), (.mov (.t 0)), none⟩, ⟨(some 8), (.call .b (.v (.fn 86 [] [])) [(.t 7)]), none⟩, ⟨(some 5), (.mov (.t 8)), none⟩]) (.seq (.reg [⟨(some 9), (.mov (.t 1)), none⟩, ⟨(some 10), (.call .b (.v (.fn 86 [] [])) [(.t 9)]), none⟩, ⟨(some 6), (.mov (.t 10)), none⟩]) (.seq (.seq (.reg [⟨(some 11), (.mov (.t 5)), none⟩]) (.cond (.t 11) (.seq (.seq (.reg [⟨(some 12), (.mov (.t 6)), none⟩]) (.cond (.t 12) (.seq (.reg [⟨(some 4), (.mov (.v (iz 0))), none⟩]) .ret) .skip)) (.seq (.reg [⟨(some 4), (.mov (.v (iz (-1)))), none⟩]) .ret)) .skip)) (.seq (.seq (.reg [⟨(some 13), (.mov (.t 6)), none⟩]) (.cond (.t 13) (.seq (.reg [⟨(some 4), (.mov (.v (iz 1))), none⟩]) .ret) .skip)) (.seq (.seq (.reg [⟨(some 14), (.mov (.t 0)), none⟩, ⟨(some 15), (.mov (.t 1)), none⟩, ⟨(some 16), (.bin .lss (.t 14) (.t 15)), none⟩]) (.cond (.t 16) (.seq (.reg [⟨(some 4), (.mov (.v (iz (-1)))), none⟩]) .ret) .skip)) (.seq (.seq (.reg [⟨(some 17), (.mov (.t 0)), none⟩, ⟨(some 18), (.mov (.t 1)), none⟩, ⟨(some 19), (.bin .gtr (.t 17) (.t 18)), none⟩]) (.cond (.t 19) (.seq (.reg [⟨(some 4), (.mov (.v (iz 1))), none⟩]) .ret) .skip)) (.seq (.reg [⟨(some 4), (.mov (.v (iz 0))), none⟩]) .ret))))))))⟩
/-- cmp.Compare[uint64] -/
def c85 : AFn := ⟨20, [(.tmp 4)], (.seq (.reg [⟨(some 4), (.mov (.v (iz 0))), none⟩]) (.seq (.reg [⟨(some 7), (.mov (.t 0)), none⟩, ⟨(some 8), (.call .b (.v (.fn 87 [] [])) [(.t 7)]), none⟩, ⟨(some 5), (.mov (.t 8)), none⟩]) (.seq (.reg [⟨(some 9), (.mov (.t 1)), none⟩, ⟨(some 10), (.call .b (.v (.fn 87 [] [])) [(.t 9)]), none⟩, ⟨(some 6), (.mov (.t 10)), none⟩]) (.seq (.seq (.reg [⟨(some 11), (.mov (.t 5)), none⟩]) (.cond (.t 11) (.seq (.seq (.reg [⟨(some 12), (.mov (.t 6)), none⟩]) (.cond (.t 12) (.seq (.reg [⟨(some 4), (.mov (.v (iz 0))), none⟩]) .ret) .skip)) (.seq (.reg [⟨(some 4), (.mov (.v (iz (-1)))), none⟩]) .ret)) .skip)) (.seq (.seq (.reg [⟨(some 13), (.mov (.t 6)), none⟩]) (.cond (.t 13) (.seq (.reg [⟨(some 4), (.mov (.v (iz 1))), none⟩]) .ret) .skip)) (.seq (.seq (.reg [⟨(some 14), (.mov (.t 0)), none⟩, ⟨(some 15), (.mov (.t 1)), none⟩, ⟨(some 16), (.bin .lss (.t 14) (.t 15)), none⟩]) (.cond (.t 16) (.seq (.reg [⟨(some 4), (.mov (.v (iz (-1)))), none⟩]) .ret) .skip)) (.seq (.seq (.reg [⟨(some 17), (.mov (.t 0)), none⟩, ⟨(some 18), (.mov (.t 1)), none⟩, ⟨(some 19), (.bin .gtr (.t 17) (.t 18)), none⟩]) (.cond (.t 19) (.seq (.reg [⟨(some 4), (.mov (.v (iz 1))), none⟩]) .ret) .skip)) (.seq (.reg [⟨(some 4), (.mov (.v (iz 0))), none⟩]) .ret))))))))⟩
/-- cmp.isNaN[int64] -/
def c86 : AFn := ⟨6, [(.tmp 2)], (.seq (.reg [⟨(some 2), (.mov (.v bf)), none⟩]) (.seq (.reg [⟨(some 3), (.mov (.t 0)), none⟩, ⟨(some 4), (.mov (.t 0)), none⟩, ⟨(some 5), (.bin .neq (.t 3) (.t 4)), none⟩, ⟨(some 2), (.mov (.t 5)), none⟩]) .ret))⟩
/-- cmp.isNaN[uint64] -/
def c87 : AFn := ⟨6, [(.tmp 2)], (.seq (.reg [⟨(some 2), (.mov (.v bf)), none⟩]) (.seq (.reg [⟨(some 3), (.mov (.t 0)), none⟩, ⟨(some 4), (.mov (.t 0)), none⟩, ⟨(some 5), (.bin .neq (.t 3) (.t 4)), none⟩, ⟨(some 2), (.mov (.t 5)), none⟩]) .ret))⟩
def h5 : List (Nat × Sh) := [(0, (.agg [.l, i6, i6, i6, i6, i6, i6, i6, i6])), (1, .l), (4, .b), (9, .b), (10, .b), (11, .b), (12, (.agg [.l, i6, i6, i6, i6, i6, i6, i6, i6])), (13, .b), (14, .b), (15, .b), (16, .b), (17, (.agg [.l, i6, i6, i6, i6, i6, i6, i6, i6])), (18, i6), (19, .b), (20, .b), (21, .b), (22, .l), (23, i6), (24, .b), (25, .b), (26, .b), (4, .b), (27, (.agg [.l, i6, i6, i6, i6, i6, i6, i6, i6])), (29, (.agg [.l, i6, i6, i6, i6, i6, i6, i6, i6])), (33, .l), (34, i6), (35, i6), (36, .b), (37, .b), (4, .b), (38, .l), (39, i6), (40, i6), (43, .b), (8, .b), (45, .b), (46, .b), (47, .b), (48, .b), (49, .b), (51, i6), (52, .b), (53, .b), (54, .b), (56, .b), (57, .b), (58, .b), (60, i6), (62, .l), (63, i6), (64, i6), (65, .b), (66, .b), (67, .b), (69, .b), (70, .b), (4, .b), (71, i6), (40, i6), (73, i6), (74, .l), (75, i6), (76, .b), (77, .b), (79, i6), (80, .l), (81, i6), (82, i6), (83, .b), (84, .b), (4, .b)]
def h7 : List (Nat × Sh) := [(0, .b), (8, (.agg [.l, i6, i6, i6, i6, i6, i6, i6, i6])), (11, .b), (12, .b), (13, (.agg [.l, i6, i6, i6, i6, i6, i6, i6, i6])), (15, .b), (16, .b), (0, .b), (17, i6), (18, .b), (20, .b), (21, .b), (24, .b), (25, .b), (26, .b), (0, .b), (27, i6), (17, i6), (29, .b), (31, .b), (33, .b), (2, .b), (3, .b), (4, .b), (35, .b), (5, .b), (37, .b), (6, .b), (39, .b), (7, .b), (40, .b), (41, .b), (42, .b), (43, .b), (44, .b), (45, .b), (46, .b), (47, .b), (48, .b), (49, .b), (50, .b), (51, .b), (52, .b), (53, .b), (54, .b), (55, .b), (56, .b), (58, i6), (59, .b), (60, .b), (61, .b), (63, i6), (64, .b), (65, .b), (66, .b), (68, .b), (69, .b), (70, .b), (71, .b), (72, .b), (73, .b), (74, .b), (76, .b), (77, .b), (78, .b), (80, i6), (81, .b), (82, .b), (83, .b), (85, (.agg [.l, i6, i6, i6, i6])), (86, i6), (87, .b), (88, .b), (0, .b)]
def h8 : List (Nat × Sh) := [(0, (.agg [.l, i6, i6, i6, i6, i6, i6, i6, i6])), (2, .b), (3, i6), (4, i6), (6, .l), (7, i6), (8, .b), (12, .l), (13, i6), (16, .l), (17, i6), (18, .b), (2, .b), (9, i6), (10, i6), (3, i6), (20, .l), (21, i6), (22, .b), (2, .b)]
def h9 : List (Nat × Sh) := [(0, (.agg [.l, i6, i6, i6, i6, i6, i6, i6, i6])), (3, (.agg [.l, i6, i6, i6, i6, i6, i6, i6, i6])), (4, .b), (5, .b), (6, (.agg [.l, i6, i6, i6, i6, i6, i6, i6, i6])), (7, (.agg [.l, i6, i6, i6, i6, i6, i6, i6, i6])), (9, (.agg [.l, i6, i6, i6, i6, i6, i6, i6, i6, i6, .any]))]
def h10 : List (Nat × Sh) := [(0, (.agg [.l, i6, i6, i6, i6, i6, i6, i6, i6])), (2, i6), (5, .l), (6, i6), (7, .b), (8, .b), (10, .l), (11, i6), (12, .b), (13, .b), (2, i6), (3, i6), (14, i6), (16, .l), (17, i6), (18, .b), (22, .l), (23, i6), (25, (.agg [.l, i6, i6, i6, i6])), (26, .b), (27, .b), (2, i6), (19, i6), (20, i6), (3, i6), (30, i6), (31, .b), (32, .b), (33, .b), (35, i6), (36, .b), (37, .b), (38, .b), (39, .b), (41, i6), (42, .b), (43, .b), (44, .b), (28, .b), (2, i6), (47, i6), (48, .b), (49, .b), (45, .b), (2, i6), (52, i6), (53, .b), (54, .b), (50, .b), (2, i6), (57, i6), (58, .b), (59, .b), (55, .b), (2, i6), (62, i6), (63, .b), (64, .b), (60, .b), (2, i6), (67, i6), (69, .l), (70, i6), (71, .b), (72, .b), (65, .b), (2, i6), (2, i6)]
def h11 : List (Nat × Sh) := [(1, i6), (2, .b), (6, .b), (9, (.agg [.l, i6, i6, i6, i6])), (10, .b), (11, .b), (13, .b), (14, .b), (15, .b), (16, .b), (18, i6), (20, i6), (21, .b), (22, .b), (23, .b), (24, i6), (26, i6), (27, .b), (28, .b), (6, .b)]
def h13 : List (Nat × Sh) := [(1, .b), (2, .b), (6, .b), (8, .b), (6, .b), (9, .b), (10, .b), (11, .b), (12, .b), (13, .b), (14, .b), (15, .b), (17, .b), (18, .b), (23, i6), (6, .b), (27, i6), (28, i6), (6, .b)]
def h15 : List (Nat × Sh) := [(1, i6), (2, i6), (6, .b), (8, .b), (9, .b), (10, i6), (11, .b), (12, .b), (13, .b), (14, i6), (19, .l), (20, i6), (21, .b), (22, .b), (23, .b), (24, i6), (25, .b), (26, .b), (27, .b), (28, i6), (29, .b), (30, .b), (6, .b), (32, i6), (39, i6), (6, .b)]
def h16 : List (Nat × Sh) := [(2, i6), (4, .b), (2, i6), (8, i6), (2, i6)]
def h17 : List (Nat × Sh) := [(2, i6), (4, .b), (2, i6), (9, i6), (2, i6)]
def h18 : List (Nat × Sh) := [(2, .b), (4, .b), (5, .b), (9, i6), (10, i6), (15, .l), (16, i6), (17, .b), (18, .b), (2, .b)]
def h20 : List (Nat × Sh) := [(6, .b), (7, (.agg [.l, i6, i6, i6, i6])), (12, (.agg [.l, i6, i6, i6, i6, i6, i6, i6, i6])), (16, i6), (17, (.tup [(.agg [.l, i6, i6, i6, i6]), .b])), (8, (.tup [(.agg [.l, i6, i6, i6, i6]), .b])), (18, (.agg [.l, i6, i6, i6, i6])), (19, .b), (4, .b), (20, (.agg [.l, i6, i6, i6, i6]))]
def h21 : List (Nat × Sh) := [(0, i6), (4, i6), (5, (.agg [.l, i6, i6, i6, i6, i6, i6, i6, i6])), (6, i6), (7, i6), (8, .b), (10, .l), (11, ag2), (12, ag2), (13, ag2), (14, ag2), (15, .l), (16, (.agg [.l, i6, i6, i6, i6])), (17, .l), (18, .l), (20, i6), (7, i6), (21, (.agg [.l, i6, i6, i6, i6, i6, i6, i6, i6]))]
def h22 : List (Nat × Sh) := [(0, (.agg [.l, i6, i6, i6, i6, i6, i6, i6, i6])), (2, .b), (3, (.agg [.l, i6, i6, i6, i6, i6, i6, i6, i6])), (4, i6), (5, .b), (2, .b)]
def h23 : List (Nat × Sh) := [(0, (.agg [.l, i6, i6, i6, i6, i6, i6, i6, i6])), (5, .l), (6, .l), (9, .l), (10, i6), (11, i6), (13, i6), (3, i6), (15, .l), (16, i6), (18, .l), (19, i6), (22, .l), (23, .l), (26, i6), (11, i6), (27, (.agg [.l, i6, i6, i6, i6, i6, i6, i6, i6]))]
def h24 : List (Nat × Sh) := [(0, i6), (3, i6), (4, i6), (5, i6), (6, ag2)]
def h25 : List (Nat × Sh) := [(0, (.agg [.l, i6, i6, i6, i6])), (2, .b), (4, .l), (5, .b), (6, .b), (8, i6), (9, .b), (10, .b), (11, .b), (13, i6), (14, .b), (15, .b), (16, .b), (18, i6), (19, .b), (20, .b), (21, .b), (23, i6), (24, .b), (25, .b), (2, .b)]
def h26 : List (Nat × Sh) := [(0, i6), (1, i6), (2, i6), (6, .b), (7, i6), (8, i6), (9, .b), (10, .b), (11, i6), (12, i6), (13, .b), (14, .b), (6, .b)]
def h27 : List (Nat × Sh) := [(2, i6), (4, i6), (2, i6)]
def h28 : List (Nat × Sh) := []
def h29 : List (Nat × Sh) := [(1, i6), (5, .b), (9, i6), (10, i6), (14, i6), (15, i6)]
def h30 : List (Nat × Sh) := [(2, i6), (4, .b), (2, i6), (8, i6), (2, i6)]
def h32 : List (Nat × Sh) := [(0, (.agg [.l, i6, i6, i6, i6, i6, i6, i6, i6])), (1, i6), (5, .b), (6, i6), (7, .b), (8, .b), (9, i6), (11, .l), (12, i6), (13, .b), (14, .b), (15, (.agg [.l, i6, i6, i6, i6])), (5, .b), (17, .l), (18, i6), (20, (.agg [.l, i6, i6, i6, i6])), (22, .l), (23, .l), (25, (.agg [.l, i6, i6, i6, i6])), (5, .b)]
def h33 : List (Nat × Sh) := [(0, (.agg [.l, i6, i6, i6, i6, i6, i6, i6, i6])), (2, i6), (5, .l), (6, i6), (7, .b), (8, .b), (3, .b), (2, i6), (11, .l), (12, .b), (9, .b), (2, i6), (14, .b), (15, .b), (13, .b), (2, i6), (18, i6), (19, .b), (20, .b), (16, .b), (2, i6), (23, i6), (24, .b), (25, .b), (21, .b), (2, i6), (28, i6), (29, .b), (30, .b), (26, .b), (2, i6), (33, i6), (34, .b), (35, .b), (31, .b), (2, i6), (38, i6), (40, .l), (41, i6), (42, .b), (43, .b), (36, .b), (2, i6), (2, i6)]
def h34 : List (Nat × Sh) := [(0, .l), (2, .l), (3, .l), (4, .b), (2, .l), (5, .l), (6, .l), (7, .l), (2, .l)]
def h35 : List (Nat × Sh) := [(0, .l), (2, .l), (3, .l), (4, .b), (2, .l), (5, .l), (6, .l), (7, .l), (2, .l)]
def h36 : List (Nat × Sh) := [(0, .l), (2, .b), (3, i6), (4, i6), (5, .l), (6, i6), (7, .b), (8, .b), (9, .l), (10, i6), (11, .b), (12, .b), (15, .l), (16, i6), (19, i6), (20, .b), (21, .b), (22, .l), (23, i6), (26, i6), (27, .b), (28, .b), (29, .b), (30, .l), (31, i6), (34, i6), (35, .b), (36, .b), (37, .b), (38, .l), (39, i6), (42, i6), (43, .b), (44, .b), (2, .b), (13, i6), (14, i6), (3, i6), (45, .l), (46, .b), (2, .b)]
def h37 : List (Nat × Sh) := [(1, i6), (4, i6), (8, .b), (4, i6), (12, i6), (5, i6), (13, i6), (14, i6), (15, i6), (19, i6), (20, i6), (21, i6), (22, i6), (23, i6), (6, i6), (27, i6), (28, i6), (29, .b), (30, i6), (4, i6)]
def h38 : List (Nat × Sh) := [(1, i6), (7, i6)]
def h39 : List (Nat × Sh) := [(2, i6), (6, i6), (2, i6)]
def h40 : List (Nat × Sh) := [(0, i6), (1, i6), (2, i6), (6, .b), (7, i6), (8, i6), (9, .b), (10, .b), (11, i6), (12, i6), (13, .b), (14, .b), (6, .b)]
def h41 : List (Nat × Sh) := [(0, .l), (4, .b), (5, .l), (7, i6), (8, .b), (4, .b)]
def h42 : List (Nat × Sh) := [(0, (.agg [.l, i6, i6, i6, i6])), (2, .b), (3, (.agg [.l, i6, i6, i6, i6])), (4, .b), (5, .b), (2, .b)]
def h43 : List (Nat × Sh) := [(0, (.agg [.l, i6, i6, i6, i6])), (2, .b), (4, .l), (5, .b), (6, .b), (8, i6), (9, .b), (10, .b), (11, .b), (13, i6), (14, .b), (15, .b), (16, .b), (18, i6), (19, .b), (20, .b), (21, .b), (23, i6), (24, .b), (25, .b), (2, .b)]
def h44 : List (Nat × Sh) := [(2, .b), (6, i6), (10, i6), (14, i6), (15, i6), (16, .b), (17, .b), (21, i6), (25, i6), (29, i6), (30, i6), (31, .b), (32, .b), (2, .b)]
def h45 : List (Nat × Sh) := [(0, i6), (1, i6), (2, i6), (6, .b), (7, i6), (8, i6), (9, .b), (10, .b), (11, i6), (12, i6), (13, .b), (14, .b), (6, .b)]
def h46 : List (Nat × Sh) := [(0, .l), (2, .b), (11, .l), (12, i6), (3, i6), (13, i6), (14, .b), (15, .b), (16, i6), (17, .b), (18, .b), (2, .b), (4, i6), (19, i6), (20, i6), (21, .b), (24, .l), (25, i6), (27, ag2), (28, .b), (29, .b), (2, .b), (22, i6), (23, i6), (4, i6), (5, i6), (30, i6), (31, i6), (32, .b), (35, i6), (36, i6), (6, i6), (37, i6), (38, i6), (39, .b), (42, .l), (43, i6), (45, ag2), (46, .l), (47, i6), (48, ag2), (49, .l), (50, i6), (52, ag2), (53, .l), (54, i6), (55, ag2), (57, ag2), (58, ag2), (59, .b), (56, .b), (2, .b), (61, i6), (62, i6), (63, i6), (64, .b), (60, .b), (65, ag2), (66, ag2), (67, ag2), (68, .b), (69, .b), (70, ag2), (71, ag2), (72, ag2), (73, .b), (74, .b), (2, .b), (76, i6), (77, .b), (78, .b), (79, i6), (80, i6), (81, i6), (82, .b), (83, .b), (75, .b), (84, ag2), (85, ag2), (86, ag2), (87, .b), (88, .b), (89, ag2), (90, ag2), (91, ag2), (92, .b), (93, .b), (2, .b), (95, ag2), (96, ag2), (97, ag2), (98, ag2), (99, .b), (94, .b), (2, .b), (40, i6), (41, i6), (6, i6), (33, i6), (34, i6), (5, i6), (2, .b)]
def h47 : List (Nat × Sh) := [(1, i6), (2, i6), (6, .b), (10, i6), (11, i6), (12, .b), (6, .b)]
def h50 : List (Nat × Sh) := [(0, .l), (4, i6), (6, .l), (7, i6), (8, i6), (10, i6), (5, i6), (12, .l), (13, i6), (15, (.agg [.l, i6, i6, i6, i6])), (16, .b), (17, i6), (4, i6), (18, i6), (8, i6), (4, i6)]
def h51 : List (Nat × Sh) := [(0, .l), (2, .b), (3, .l), (4, .b), (5, .b), (6, .l), (7, .b), (8, .b), (9, .b), (2, .b)]
def h52 : List (Nat × Sh) := [(0, ag2), (2, .b), (4, i6), (5, .b), (6, .b), (8, i6), (9, .b), (10, .b), (11, .b), (13, i6), (14, .b), (15, .b), (16, .b), (18, i6), (19, .b), (20, .b), (2, .b)]
def h53 : List (Nat × Sh) := [(0, .l), (1, i6), (5, .l), (6, i6), (7, i6), (8, .l), (9, i6), (10, i6), (12, ag2)]
def h54 : List (Nat × Sh) := [(0, ag2), (1, ag2), (2, ag2), (6, .b), (7, ag2), (8, .b), (9, .b), (10, .b), (11, ag2), (12, .b), (13, .b), (14, .b), (15, .b), (16, ag2), (17, .b), (18, .b), (19, .b), (20, .b), (21, ag2), (22, ag2), (23, ag2), (24, i6), (25, .b), (26, .b), (6, .b), (28, i6), (30, i6), (32, i6), (33, i6), (34, .b), (35, .b), (37, i6), (39, i6), (41, i6), (42, i6), (43, .b), (44, .b), (45, .b), (47, i6), (49, i6), (51, i6), (52, i6), (53, .b), (54, .b), (55, .b), (57, i6), (59, i6), (61, i6), (62, i6), (63, .b), (64, .b), (6, .b)]
def h55 : List (Nat × Sh) := [(0, ag2), (1, ag2), (2, ag2), (3, ag2), (8, .b), (9, ag2), (10, .b), (11, .b), (12, .b), (13, ag2), (14, .b), (15, .b), (16, .b), (17, .b), (18, ag2), (19, .b), (20, .b), (21, .b), (22, .b), (23, ag2), (24, .b), (25, .b), (26, .b), (8, .b), (27, ag2), (28, ag2), (29, ag2), (30, .b), (31, .b), (32, ag2), (33, ag2), (34, ag2), (35, .b), (36, .b), (37, .b), (38, ag2), (39, ag2), (40, ag2), (41, .b), (42, .b), (43, .b), (44, ag2), (45, ag2), (46, ag2), (47, .b), (48, .b), (8, .b), (49, ag2), (50, ag2), (51, ag2), (52, i6), (53, ag2), (54, ag2), (55, ag2), (56, i6), (57, i6), (58, .b), (59, .b), (60, ag2), (61, ag2), (62, ag2), (63, i6), (64, ag2), (65, ag2), (66, ag2), (67, i6), (68, i6), (69, .b), (70, .b), (8, .b)]
def h57 : List (Nat × Sh) := [(0, .l), (2, .b), (6, .l), (7, i6), (3, i6), (8, i6), (9, .b), (10, .b), (11, i6), (12, .b), (13, .b), (14, .b), (15, .l), (16, .b), (17, .b), (2, .b), (18, i6), (19, i6), (20, .b), (21, i6), (4, i6), (22, i6), (23, i6), (24, .b), (25, i6), (5, i6), (26, .l), (27, i6), (29, ag2), (30, .l), (31, i6), (33, ag2), (34, .b), (35, .b), (36, .l), (37, i6), (38, i6), (39, .b), (40, .b), (41, .b), (2, .b), (42, i6), (23, i6), (43, i6), (19, i6), (2, .b)]
def h58 : List (Nat × Sh) := [(0, .l), (4, .b), (5, .l), (7, i6), (8, .b), (4, .b)]
def h59 : List (Nat × Sh) := [(0, ag2), (2, .b), (4, i6), (6, i6), (7, i6), (9, i6), (11, i6), (12, i6), (13, i6), (14, .b), (2, .b)]
def h60 : List (Nat × Sh) := [(0, ag2), (1, ag2), (2, ag2), (6, i6), (7, ag2), (8, .b), (9, .b), (10, .b), (11, ag2), (12, .b), (13, .b), (14, .b), (15, .b), (16, ag2), (17, .b), (18, .b), (19, .b), (6, i6), (21, i6), (23, i6), (24, i6), (26, i6), (28, i6), (29, i6), (30, (.agg [i6, (.i .u64)])), (32, i6), (34, i6), (35, i6), (37, i6), (39, i6), (40, i6), (41, (.agg [i6, (.i .u64)])), (42, i6), (6, i6)]
def h61 : List (Nat × Sh) := [(0, ag2), (2, .b), (3, ag2), (4, .b), (5, .b), (2, .b)]
def h62 : List (Nat × Sh) := [(0, ag2), (2, .b), (4, i6), (5, .b), (6, .b), (8, i6), (9, .b), (10, .b), (2, .b)]
def h63 : List (Nat × Sh) := [(0, .l), (1, i6), (2, i6), (6, .b), (12, .l), (13, i6), (7, i6), (15, .l), (16, i6), (17, (.tup [ag2, ag2])), (14, (.tup [ag2, ag2])), (18, ag2), (19, ag2), (21, .l), (22, i6), (23, (.tup [ag2, ag2])), (20, (.tup [ag2, ag2])), (24, ag2), (25, ag2), (27, i6), (28, i6), (29, i6), (30, i6), (31, i6), (32, .b), (26, .b), (33, ag2), (34, ag2), (35, ag2), (36, .b), (37, .b), (38, .b), (39, ag2), (40, ag2), (41, ag2), (42, .b), (43, .b), (44, .b), (6, .b), (46, i6), (47, i6), (48, i6), (49, i6), (50, i6), (51, .b), (45, .b), (52, ag2), (53, ag2), (54, ag2), (55, .b), (56, .b), (57, .b), (58, ag2), (59, ag2), (60, ag2), (61, .b), (62, .b), (63, .b), (6, .b), (64, ag2), (65, ag2), (66, ag2), (67, ag2), (68, .b), (69, .b), (6, .b)]
def h64 : List (Nat × Sh) := [(0, .l), (4, i6), (6, .l), (7, i6), (8, i6), (10, i6), (5, i6), (12, .l), (13, i6), (15, ag2), (16, .b), (17, i6), (4, i6), (18, i6), (8, i6), (4, i6)]
def h65 : List (Nat × Sh) := [(0, (.agg [i6, (.i .u64)])), (1, (.agg [i6, (.i .u64)])), (4, i6), (7, i6), (9, i6), (10, .b), (11, .b), (13, i6), (15, i6), (16, .b), (17, .b), (19, (.i .u64)), (21, (.i .u64)), (22, .b), (23, .b), (24, .b), (5, .b), (4, i6), (26, (.agg [i6, (.i .u64)])), (27, (.agg [i6, (.i .u64)])), (28, .b), (25, .b), (4, i6), (4, i6)]
def h67 : List (Nat × Sh) := [(0, i6), (2, .b), (3, i6), (4, .b), (5, .b), (6, i6), (7, .b), (8, .b), (2, .b)]
def h68 : List (Nat × Sh) := [(0, .l), (1, i6), (6, .l), (7, i6), (9, ag2), (10, .l), (11, i6), (12, i6), (13, .l), (14, i6), (15, i6), (17, ag2)]
def h69 : List (Nat × Sh) := [(0, ag2), (1, ag2), (2, ag2), (6, .b), (7, ag2), (8, ag2), (9, ag2), (10, .l), (11, .b), (12, .b), (13, ag2), (14, ag2), (15, ag2), (16, i6), (17, .b), (18, .b), (19, .b), (21, i6), (23, i6), (25, i6), (26, .b), (27, .b), (28, .b), (30, i6), (32, i6), (34, i6), (35, .b), (36, .b), (6, .b)]
def h70 : List (Nat × Sh) := [(0, ag2), (1, ag2), (2, ag2), (3, ag2), (8, .b), (10, ag2), (11, ag2), (12, ag2), (13, ag2), (14, .l), (15, .b), (16, .b), (9, .b), (8, .b), (18, ag2), (19, ag2), (20, ag2), (21, .b), (17, .b), (22, ag2), (23, ag2), (24, ag2), (25, .b), (17, .b), (26, ag2), (27, ag2), (28, ag2), (29, .b), (17, .b), (30, ag2), (31, ag2), (32, ag2), (33, .b), (17, .b), (8, .b), (34, ag2), (35, ag2), (36, ag2), (37, i6), (38, ag2), (39, ag2), (40, ag2), (41, i6), (42, i6), (43, .b), (44, .b), (45, ag2), (46, ag2), (47, ag2), (48, i6), (49, ag2), (50, ag2), (51, ag2), (52, i6), (53, i6), (54, .b), (55, .b), (8, .b)]
def h71 : List (Nat × Sh) := [(0, i6), (3, i6), (4, .b), (5, i6), (6, (.i .u64)), (7, (.agg [i6, (.i .u64)])), (8, i6), (9, (.i .u64)), (10, (.agg [i6, (.i .u64)]))]
def h72 : List (Nat × Sh) := [(0, (.agg [i6, (.i .u64)])), (1, (.agg [i6, (.i .u64)])), (11, (.agg [i6, (.i .u64)])), (12, .l), (13, (.agg [i6, (.i .u64)])), (14, .l), (5, .l), (6, .l), (7, .l), (8, i6), (9, i6), (15, i6), (16, .b), (19, .l), (20, i6), (22, i6), (23, .l), (24, i6), (26, i6), (27, i6), (28, i6), (29, i6), (10, i6), (30, .l), (31, i6), (32, i6), (33, .l), (34, .l), (7, .l), (35, i6), (36, i6), (8, i6), (17, i6), (18, i6), (9, i6), (37, .l), (38, (.agg [i6, (.i .u64)]))]
def h73 : List (Nat × Sh) := [(0, (.agg [i6, (.i .u64)])), (4, i6), (5, i6), (7, (.i .u64)), (8, (.i .u64)), (9, (.agg [i6, (.i .u64)])), (10, (.agg [i6, (.i .u64)])), (11, (.agg [i6, (.i .u64)]))]
def h74 : List (Nat × Sh) := [(0, .l), (2, .b), (3, .l), (4, .b), (5, .b), (2, .b)]
def h75 : List (Nat × Sh) := [(0, ag2), (1, ag2), (2, ag2), (6, i6), (7, ag2), (8, ag2), (9, ag2), (10, .l), (11, .b), (12, .b), (6, i6), (14, i6), (16, i6), (17, i6), (19, i6), (21, i6), (22, i6), (23, (.agg [i6, (.i .u64)])), (25, i6), (27, i6), (28, i6), (30, i6), (32, i6), (33, i6), (34, (.agg [i6, (.i .u64)])), (35, i6), (6, i6)]
def h76 : List (Nat × Sh) := [(0, i6), (1, i6), (2, i6), (6, .b), (7, i6), (8, i6), (9, i6), (10, i6), (11, .b), (12, .b), (13, i6), (14, i6), (15, i6), (16, i6), (17, .b), (18, .b), (6, .b)]
def h77 : List (Nat × Sh) := [(0, (.agg [i6, (.i .u64)])), (2, .l), (3, .l), (4, i6), (6, i6), (7, .b), (10, .l), (12, (.i .u64)), (13, i6), (14, (.i .u64)), (15, (.i .u64)), (16, i6), (17, .l), (18, .l), (3, .l), (8, i6), (9, i6), (4, i6), (5, i6), (19, i6), (20, .b), (23, .l), (25, i6), (26, (.i .u64)), (27, i6), (28, (.i .u64)), (29, (.i .u64)), (30, i6), (31, .l), (32, .l), (3, .l), (21, i6), (22, i6), (5, i6), (33, .l), (2, .l)]
def h79 : List (Nat × Sh) := [(0, ag2), (2, .b), (3, ag2), (4, .b), (5, .b), (2, .b)]
def h80 : List (Nat × Sh) := [(0, i6), (1, i6), (8, i6), (9, (.i .u64)), (10, i6), (11, (.i .u64)), (12, (.tup [(.i .u64), (.i .u64)])), (7, (.tup [(.i .u64), (.i .u64)])), (13, (.i .u64)), (14, (.i .u64)), (5, (.i .u64)), (6, (.i .u64)), (15, i6), (16, .b), (17, (.i .u64)), (18, i6), (19, (.i .u64)), (20, (.i .u64)), (5, (.i .u64)), (21, i6), (22, .b), (23, (.i .u64)), (24, i6), (25, (.i .u64)), (26, (.i .u64)), (5, (.i .u64)), (27, (.i .u64)), (28, i6), (29, (.i .u64)), (30, (.agg [i6, (.i .u64)]))]
def h81 : List (Nat × Sh) := [(0, (.agg [i6, (.i .u64)])), (1, (.agg [i6, (.i .u64)])), (4, i6), (6, i6), (8, i6), (9, i6), (11, (.i .u64)), (13, (.i .u64)), (14, i6), (15, .l), (16, i6), (4, i6)]
def h82 : List (Nat × Sh) := [(0, (.i .u64)), (1, (.i .u64)), (4, (.i .u64)), (5, (.i .u64)), (14, (.i .u64)), (15, (.i .u64)), (6, (.i .u64)), (16, (.i .u64)), (17, (.i .u64)), (7, (.i .u64)), (18, (.i .u64)), (19, (.i .u64)), (8, (.i .u64)), (20, (.i .u64)), (21, (.i .u64)), (9, (.i .u64)), (22, (.i .u64)), (23, (.i .u64)), (24, (.i .u64)), (10, (.i .u64)), (25, (.i .u64)), (26, (.i .u64)), (27, (.i .u64)), (28, (.i .u64)), (29, (.i .u64)), (30, (.i .u64)), (11, (.i .u64)), (31, (.i .u64)), (32, (.i .u64)), (12, (.i .u64)), (33, (.i .u64)), (34, (.i .u64)), (13, (.i .u64)), (35, (.i .u64)), (36, (.i .u64)), (37, (.i .u64)), (38, (.i .u64)), (39, (.i .u64)), (12, (.i .u64)), (40, (.i .u64)), (41, (.i .u64)), (42, (.i .u64)), (43, (.i .u64)), (44, (.i .u64)), (45, (.i .u64)), (46, (.i .u64)), (47, (.i .u64)), (4, (.i .u64)), (48, (.i .u64)), (49, (.i .u64)), (50, (.i .u64)), (5, (.i .u64))]
def h83 : List (Nat × Sh) := [(0, .l), (2, i6), (3, i6), (6, .l), (7, i6), (8, i6), (11, i6), (5, i6), (12, i6), (13, i6), (14, .b), (15, i6), (2, i6), (16, i6), (8, i6), (17, i6), (2, i6)]
def h84 : List (Nat × Sh) := [(0, i6), (1, i6), (4, i6), (7, i6), (8, .b), (5, .b), (9, i6), (10, .b), (6, .b), (11, .b), (12, .b), (4, i6), (4, i6), (13, .b), (4, i6), (14, i6), (15, i6), (16, .b), (4, i6), (17, i6), (18, i6), (19, .b), (4, i6), (4, i6)]
def h85 : List (Nat × Sh) := [(0, (.i .u64)), (1, (.i .u64)), (4, i6), (7, (.i .u64)), (8, .b), (5, .b), (9, (.i .u64)), (10, .b), (6, .b), (11, .b), (12, .b), (4, i6), (4, i6), (13, .b), (4, i6), (14, (.i .u64)), (15, (.i .u64)), (16, .b), (4, i6), (17, (.i .u64)), (18, (.i .u64)), (19, .b), (4, i6), (4, i6)]
def h86 : List (Nat × Sh) := [(0, i6), (2, .b), (3, i6), (4, i6), (5, .b), (2, .b)]
def h87 : List (Nat × Sh) := [(0, (.i .u64)), (2, .b), (3, (.i .u64)), (4, (.i .u64)), (5, .b), (2, .b)]
def inlF (g : FuncId) : Bool := [9, 11, 12, 13, 14, 15, 16, 17, 18, 20, 23, 32, 24, 27, 28, 29, 30, 37, 38, 39, 47, 48, 49, 56, 34, 35].contains g
theorem c5_ok : cFnQ Try.prog true 5 = some c5 := by kernel_rfl
theorem c7_ok : cFnQ Try.prog true 7 = some c7 := by kernel_rfl
theorem c8_ok : cFnQ Try.prog false 8 = some c8 := by kernel_rfl
theorem c9_ok : cFnQ Try.prog false 9 = some c9 := by kernel_rfl
theorem c10_ok : cFnQ Try.prog false 10 = some c10 := by kernel_rfl
theorem c11_ok : cFnQ Try.prog true 11 = some c11 := by kernel_rfl
theorem c13_ok : cFnQ Try.prog false 13 = some c13 := by kernel_rfl
theorem c15_ok : cFnQ Try.prog false 15 = some c15 := by kernel_rfl
theorem c16_ok : cFnQ Try.prog false 16 = some c16 := by kernel_rfl
theorem c17_ok : cFnQ Try.prog false 17 = some c17 := by kernel_rfl
theorem c18_ok : cFnQ Try.prog false 18 = some c18 := by kernel_rfl
theorem c20_ok : cFnQ Try.prog true 20 = some c20 := by kernel_rfl
theorem c21_ok : cFnQ Try.prog false 21 = some c21 := by kernel_rfl
theorem c22_ok : cFnQ Try.prog false 22 = some c22 := by kernel_rfl
theorem c23_ok : cFnQ Try.prog false 23 = some c23 := by kernel_rfl
theorem c24_ok : cFnQ Try.prog false 24 = some c24 := by kernel_rfl
theorem c25_ok : cFnQ Try.prog false 25 = some c25 := by kernel_rfl
theorem c26_ok : cFnQ Try.prog false 26 = some c26 := by kernel_rfl
theorem c27_ok : cFnQ Try.prog false 27 = some c27 := by kernel_rfl
theorem c28_ok : cFnQ Try.prog false 28 = some c28 := by kernel_rfl
theorem c29_ok : cFnQ Try.prog false 29 = some c29 := by kernel_rfl
theorem c30_ok : cFnQ Try.prog false 30 = some c30 := by kernel_rfl
theorem c32_ok : cFnQ Try.prog false 32 = some c32 := by kernel_rfl
theorem c33_ok : cFnQ Try.prog false 33 = some c33 := by kernel_rfl
theorem c34_ok : cFnQ Try.prog false 34 = some c34 := by kernel_rfl
theorem c35_ok : cFnQ Try.prog false 35 = some c35 := by kernel_rfl
theorem c36_ok : cFnQ Try.prog false 36 = some c36 := by kernel_rfl
theorem c37_ok : cFnQ Try.prog false 37 = some c37 := by kernel_rfl
theorem c38_ok : cFnQ Try.prog false 38 = some c38 := by kernel_rfl
theorem c39_ok : cFnQ Try.prog false 39 = some c39 := by kernel_rfl
theorem c40_ok : cFnQ Try.prog false 40 = some c40 := by kernel_rfl
theorem c41_ok : cFnQ Try.prog false 41 = some c41 := by kernel_rfl
theorem c42_ok : cFnQ Try.prog false 42 = some c42 := by kernel_rfl
theorem c43_ok : cFnQ Try.prog false 43 = some c43 := by kernel_rfl
theorem c44_ok : cFnQ Try.prog false 44 = some c44 := by kernel_rfl
theorem c45_ok : cFnQ Try.prog false 45 = some c45 := by kernel_rfl
theorem c46_ok : cFnQ Try.prog false 46 = some c46 := by kernel_rfl
theorem c47_ok : cFnQ Try.prog false 47 = some c47 := by kernel_rfl
theorem c50_ok : cFnQ Try.prog false 50 = some c50 := by kernel_rfl
theorem c51_ok : cFnQ Try.prog false 51 = some c51 := by kernel_rfl
theorem c52_ok : cFnQ Try.prog false 52 = some c52 := by kernel_rfl
theorem c53_ok : cFnQ Try.prog false 53 = some c53 := by kernel_rfl
theorem c54_ok : cFnQ Try.prog false 54 = some c54 := by kernel_rfl
theorem c55_ok : cFnQ Try.prog false 55 = some c55 := by kernel_rfl
theorem c57_ok : cFnQ Try.prog false 57 = some c57 := by kernel_rfl
theorem c58_ok : cFnQ Try.prog false 58 = some c58 := by kernel_rfl
theorem c59_ok : cFnQ Try.prog false 59 = some c59 := by kernel_rfl
theorem c60_ok : cFnQ Try.prog false 60 = some c60 := by kernel_rfl
theorem c61_ok : cFnQ Try.prog false 61 = some c61 := by kernel_rfl
theorem c62_ok : cFnQ Try.prog false 62 = some c62 := by kernel_rfl
theorem c63_ok : cFnQ Try.prog false 63 = some c63 := by kernel_rfl
theorem c64_ok : cFnQ Try.prog false 64 = some c64 := by kernel_rfl
theorem c65_ok : cFnQ Try.prog false 65 = some c65 := by kernel_rfl
theorem c66_ok : cFnQ Try.prog false 66 = some c66 := by kernel_rfl
theorem c67_ok : cFnQ Try.prog false 67 = some c67 := by kernel_rfl
theorem c68_ok : cFnQ Try.prog false 68 = some c68 := by kernel_rfl
theorem c69_ok : cFnQ Try.prog false 69 = some c69 := by kernel_rfl
theorem c70_ok : cFnQ Try.prog false 70 = some c70 := by kernel_rfl
theorem c71_ok : cFnQ Try.prog false 71 = some c71 := by kernel_rfl
theorem c72_ok : cFnQ Try.prog false 72 = some c72 := by kernel_rfl
theorem c73_ok : cFnQ Try.prog false 73 = some c73 := by kernel_rfl
theorem c74_ok : cFnQ Try.prog false 74 = some c74 := by kernel_rfl
theorem c75_ok : cFnQ Try.prog false 75 = some c75 := by kernel_rfl
theorem c76_ok : cFnQ Try.prog false 76 = some c76 := by kernel_rfl
theorem c77_ok : cFnQ Try.prog false 77 = some c77 := by kernel_rfl
theorem c78_ok : cFnQ Try.prog false 78 = some c78 := by kernel_rfl
theorem c79_ok : cFnQ Try.prog false 79 = some c79 := by kernel_rfl
theorem c80_ok : cFnQ Try.prog false 80 = some c80 := by kernel_rfl
theorem c81_ok : cFnQ Try.prog false 81 = some c81 := by kernel_rfl
theorem c82_ok : cFnQ Try.prog false 82 = some c82 := by kernel_rfl
theorem c83_ok : cFnQ Try.prog false 83 = some c83 := by kernel_rfl
theorem c84_ok : cFnQ Try.prog false 84 = some c84 := by kernel_rfl
theorem c85_ok : cFnQ Try.prog false 85 = some c85 := by kernel_rfl
theorem c86_ok : cFnQ Try.prog false 86 = some c86 := by kernel_rfl
theorem c87_ok : cFnQ Try.prog false 87 = some c87 := by kernel_rfl
end Go.Proofs.Ytdceaeifcniabaa.AE

namespace Go.Proofs.Ytdceaeifcniabaa.AE
set_option linter.unusedVariables false
set_option linter.unusedSimpArgs false
set_option linter.constructorNameAsVariable false
open Go Go.RowKit

mutual
theorem eqAV_ok : ∀ (a b : AV), eqAV a b = true → a = b
  | .int k n, b, h => by cases b <;> simp [eqAV] at h ⊢; exact h
  | .bool x, b, h => by cases b <;> simp [eqAV] at h ⊢; exact h
  | .str x, b, h => by cases b <;> simp [eqAV] at h ⊢; exact h
  | .nilp, b, h => by cases b <;> simp [eqAV] at h ⊢
  | .zsl x, b, h => by cases b <;> simp [eqAV] at h ⊢; exact h
  | .ptr i j k, b, h => by cases b <;> simp [eqAV] at h ⊢; exact ⟨h.1.1, h.1.2, h.2⟩
  | .slc i j k, b, h => by cases b <;> simp [eqAV] at h ⊢; exact ⟨h.1.1, h.1.2, h.2⟩
  | .lst l, b, h => by cases b <;> simp [eqAV] at h ⊢; exact eqAVs_ok _ _ h
  | .fptr v j, b, h => by cases b <;> simp [eqAV] at h ⊢; exact ⟨eqAV_ok _ _ h.1, h.2⟩
  | .agg l, b, h => by cases b <;> simp [eqAV] at h ⊢; exact eqAVs_ok _ _ h
  | .tup l, b, h => by cases b <;> simp [eqAV] at h ⊢; exact eqAVs_ok _ _ h
  | .fn g x y, b, h => by cases b <;> simp [eqAV] at h ⊢; exact ⟨h.1.1, eqAVs_ok _ _ h.1.2, eqAVs_ok _ _ h.2⟩
  | .nilf, b, h => by cases b <;> simp [eqAV] at h ⊢
  | .undef, b, h => by cases b <;> simp [eqAV] at h ⊢
  | .emp, b, h => by cases b <;> simp [eqAV] at h ⊢
theorem eqAVs_ok : ∀ (a b : List AV), eqAVs a b = true → a = b
  | [], b, h => by cases b <;> simp [eqAVs] at h ⊢
  | x :: l, b, h => by
    cases b with
    | nil => simp [eqAVs] at h
    | cons y m =>
      simp only [eqAVs, Bool.and_eq_true] at h
      rw [eqAV_ok _ _ h.1, eqAVs_ok _ _ h.2]
end
mutual
theorem eqAV_r : ∀ a : AV, eqAV a a = true
  | .int k n => by simp [eqAV]
  | .bool x => by simp [eqAV]
  | .str x => by simp [eqAV]
  | .nilp => by simp [eqAV]
  | .zsl x => by simp [eqAV]
  | .ptr i j k => by simp [eqAV]
  | .slc i j k => by simp [eqAV]
  | .lst l => by simp [eqAV, eqAVs_r l]
  | .fptr v j => by simp [eqAV, eqAV_r v]
  | .agg l => by simp [eqAV, eqAVs_r l]
  | .tup l => by simp [eqAV, eqAVs_r l]
  | .fn g x y => by simp [eqAV, eqAVs_r x, eqAVs_r y]
  | .nilf => by simp [eqAV]
  | .undef => by simp [eqAV]
  | .emp => by simp [eqAV]
theorem eqAVs_r : ∀ a : List AV, eqAVs a a = true
  | [] => by simp [eqAVs]
  | x :: l => by simp [eqAVs, eqAV_r x, eqAVs_r l]
end
theorem eqBlk_ok {a b : Blk} (h : eqBlk a b = true) : a = b := by
  obtain ⟨⟨t, e, g, by', z⟩, l⟩ := a
  obtain ⟨⟨t', e', g', by'', z'⟩, l'⟩ := b
  simp only [eqBlk, Bool.and_eq_true, decide_eq_true_eq] at h
  obtain ⟨⟨⟨⟨⟨h1, h2⟩, h3⟩, h4⟩, h5⟩, h6⟩ := h
  rw [h1, h2, h3, h4, eqAV_ok _ _ h5, eqAVs_ok _ _ h6]
theorem eqBlk_r (a : Blk) : eqBlk a a = true := by simp [eqBlk, eqAV_r, eqAVs_r]
theorem keepB_ok {H H' : Heap} {id : Nat} (h : keepB H H' id = true) : H[id]? = H'[id]? := by
  unfold keepB at h
  split at h
  · rename_i a b h1 h2; rw [h1, h2, eqBlk_ok h]
  · rename_i h1 h2; rw [h1, h2]
  · rename_i h1 h2; rw [h1, h2]
  · cases h
theorem keepB_of {H H' : Heap} {id : Nat} (h : H[id]? = H'[id]?) : keepB H H' id = true := by
  unfold keepB
  rw [← h]
  cases H[id]? with
  | none => rfl
  | some x => cases x with
    | none => rfl
    | some b => exact eqBlk_r b
theorem keepL_ok {H H' : Heap} {l : List AV} (h : keepL H H' l = true) {v : AV} (hv : v ∈ l) {id : Nat} (hi : id ∈ idsOf v) : H[id]? = H'[id]? :=
  keepB_ok (List.all_eq_true.mp (List.all_eq_true.mp h v hv) id hi)

/-- A told run, step by step. -/
structure TS (call : CallF) (base : Nat) (l : List SOp) (f : Nat → St) : Prop where
  step : ∀ (k : Nat) (o : SOp), l[k]? = some o → (want (f k).env o.op.guard = some true ∧ ∃ v H', stepS call base o (f k) = some (v, H') ∧ f (k + 1) = ⟨put (f k).env o.op.dst v, H'⟩) ∨
    (want (f k).env o.op.guard = some false ∧ f (k + 1) = ⟨put (f k).env o.op.dst (.tup []), (f k).H⟩)
  log : ∀ (i k : Nat) (a b : SOp), i < k → l[i]? = some a → l[k]? = some b → want (f i).env a.op.guard = some true → want (f k).env b.op.guard = some true → b.chk.contains i = true →
    logC (entS i a (evO (f i).env) (f i).H (f (i + 1)).H) b (evO (f k).env) (f k).H (f (k + 1)).H = true
  kp : ∀ (k : Nat) (o : SOp) (j : Nat), l[k]? = some o → want (f k).env o.op.guard = some true → o.kp.contains j = true → (f k).H[base + j]? = (f (k + 1)).H[base + j]?

theorem traceS {call : CallF} {base : Nat} : ∀ (l : List SOp) (i : Nat) (log : List LogE) (s s' : St), runOpsS call base l i log s = some s' →
    ∃ f : Nat → St, f 0 = s ∧ f l.length = s' ∧
      (∀ (k : Nat) (o : SOp), l[k]? = some o → (want (f k).env o.op.guard = some true ∧ ∃ v H', stepS call base o (f k) = some (v, H') ∧ f (k + 1) = ⟨put (f k).env o.op.dst v, H'⟩) ∨
        (want (f k).env o.op.guard = some false ∧ f (k + 1) = ⟨put (f k).env o.op.dst (.tup []), (f k).H⟩)) ∧
      (∀ (k : Nat) (b : SOp), l[k]? = some b → want (f k).env b.op.guard = some true →
        (∀ e ∈ log, b.chk.contains e.idx = true → logC e b (evO (f k).env) (f k).H (f (k + 1)).H = true) ∧
        (∀ (m : Nat) (a : SOp), m < k → l[m]? = some a → want (f m).env a.op.guard = some true → b.chk.contains (i + m) = true → logC (entS (i + m) a (evO (f m).env) (f m).H (f (m + 1)).H) b (evO (f k).env) (f k).H (f (k + 1)).H = true) ∧
        ∀ j, b.kp.contains j = true → (f k).H[base + j]? = (f (k + 1)).H[base + j]?)
  | [], i, log, s, s', h => by
    simp only [runOpsS, Option.some.injEq] at h
    exact ⟨fun _ => s, rfl, h, by simp, by simp⟩
  | o :: l, i, log, s, s', h => by
    simp only [runOpsS] at h
    split at h
    · rename_i hw
      split at h <;> (try (cases h; done))
      rename_i v H' hv
      split at h <;> (try (cases h; done))
      rename_i hok
      simp only [Bool.and_eq_true, List.all_eq_true] at hok
      obtain ⟨hlog, hkp⟩ := hok
      obtain ⟨f, h0, h1, h2, h3⟩ := traceS l (i + 1) _ _ s' h
      refine ⟨fun k => match k with | 0 => s | k + 1 => f k, rfl, h1, ?_, ?_⟩
      · intro k b hk
        cases k with
        | zero =>
          simp only [List.getElem?_cons_zero, Option.some.injEq] at hk
          subst hk
          exact .inl ⟨hw, v, H', hv, h0⟩
        | succ k =>
          simp only [List.getElem?_cons_succ] at hk
          exact h2 k b hk
      · intro k b hk hwk
        cases k with
        | zero =>
          simp only [List.getElem?_cons_zero, Option.some.injEq] at hk
          subst hk
          have hH : (f 0).H = H' := by rw [h0]
          refine ⟨fun e he hc => ?_, fun m _ hm => absurd hm (by omega), fun j hj => ?_⟩
          · have := hlog e he
            rw [hc] at this
            simp only [hH]
            simpa using this
          · simp only [hH]
            exact keepB_ok (hkp j (by simpa using hj))
        | succ k =>
          simp only [List.getElem?_cons_succ] at hk
          obtain ⟨q1, q2, q3⟩ := h3 k b hk hwk
          refine ⟨fun e he => q1 e (by simp [he]), fun m a hm ha hwm hc => ?_, q3⟩
          cases m with
          | zero =>
            simp only [List.getElem?_cons_zero, Option.some.injEq] at ha
            subst ha
            have hH : (f 0).H = H' := by rw [h0]
            have := q1 (entS i o (evO s.env) s.H H') (by simp) (by simpa [entS] using hc)
            simp only [hH, Nat.add_zero]
            exact this
          | succ m =>
            simp only [List.getElem?_cons_succ] at ha
            have := q2 m a (by omega) ha hwm (by rwa [show i + 1 + m = i + (m + 1) by omega])
            rwa [show i + 1 + m = i + (m + 1) by omega] at this
    · rename_i hw
      obtain ⟨f, h0, h1, h2, h3⟩ := traceS l (i + 1) _ _ s' h
      refine ⟨fun k => match k with | 0 => s | k + 1 => f k, rfl, h1, ?_, ?_⟩
      · intro k b hk
        cases k with
        | zero =>
          simp only [List.getElem?_cons_zero, Option.some.injEq] at hk
          subst hk
          exact .inr ⟨hw, h0⟩
        | succ k =>
          simp only [List.getElem?_cons_succ] at hk
          exact h2 k b hk
      · intro k b hk hwk
        cases k with
        | zero =>
          simp only [List.getElem?_cons_zero, Option.some.injEq] at hk
          subst hk
          simp only [hw] at hwk
          cases hwk
        | succ k =>
          simp only [List.getElem?_cons_succ] at hk
          obtain ⟨q1, q2, q3⟩ := h3 k b hk hwk
          refine ⟨fun e he => q1 e he, fun m a hm ha hwm hc => ?_, q3⟩
          cases m with
          | zero =>
            simp only [List.getElem?_cons_zero, Option.some.injEq] at ha
            subst ha
            simp only [hw] at hwm
            cases hwm
          | succ m =>
            simp only [List.getElem?_cons_succ] at ha
            have := q2 m a (by omega) ha hwm (by rwa [show i + 1 + m = i + (m + 1) by omega])
            rwa [show i + 1 + m = i + (m + 1) by omega] at this
    · cases h

theorem ts_of {call : CallF} {base : Nat} {l : List SOp} {s s' : St} (h : runOpsS call base l 0 [] s = some s') : ∃ f : Nat → St, f 0 = s ∧ f l.length = s' ∧ TS call base l f := by
  obtain ⟨f, h0, h1, h2, h3⟩ := traceS l 0 [] s s' h
  refine ⟨f, h0, h1, h2, fun i k a b hik ha hb hwa hwb hc => ?_, fun k o j hk hw hj => (h3 k o hk hw).2.2 j hj⟩
  have := (h3 k b hb hwb).2.1 i a hik ha hwa (by simpa using hc)
  simpa using this

/-! One operation, told over memory that agrees where it looks -/
theorem hget_eq {H G : Heap} {id : Nat} (h : H[id]? = G[id]?) : hget H id = hget G id := by unfold hget; rw [h]
theorem lenOf_eq {H G : Heap} {x : AV} (h : ∀ id ∈ idsOf x, H[id]? = G[id]?) : lenOf H x = lenOf G x := by
  cases x <;> try rfl
  rename_i id o n
  simp only [lenOf, hget_eq (h id (by simp [idsOf]))]
theorem elsOf_eq {H G : Heap} {x : AV} (h : ∀ id ∈ idsOf x, H[id]? = G[id]?) : elsOf H x = elsOf G x := by
  cases x <;> try rfl
  rename_i id o n
  simp only [elsOf, hget_eq (h id (by simp [idsOf]))]
/-- What leaves memory as_ it is. -/
theorem light_op {call : CallF} {ev : Opd → AV} {H H' : Heap} {io : IOp} {v : AV} (hl : lightOp io = true) (h : aop call ev H io = some (v, H')) :
    H' = H ∧ ∀ G : Heap, (∀ x ∈ namesOf ev io, ∀ id ∈ idsOf x, H[id]? = G[id]?) → aop call ev G io = some (v, G) := by
  cases io <;> simp only [lightOp, Bool.false_eq_true] at hl
  case load ag n a =>
    simp only [aop] at h
    cases hx : aLoad H ag n (ev a) with
    | none => rw [hx] at h; cases h
    | some y =>
      rw [hx] at h
      simp only [Option.some.injEq, Prod.mk.injEq] at h
      obtain ⟨rfl, rfl⟩ := h
      refine ⟨rfl, fun G hG => ?_⟩
      have : aLoad H ag n (ev a) = aLoad G ag n (ev a) := by
        cases he : ev a <;> try rfl
        rename_i id i j
        have := hG (ev a) (by simp [namesOf]) id (by simp [he, idsOf])
        simp only [aLoad, hget_eq this]
      simp only [aop, ← this, hx]
  case b2s x =>
    have key : ∀ G : Heap, (∀ s, ev x ≠ .str s) → aop call ev G (.b2s x) = (match elsOf G (ev x) with
        | some l => (match b2sL l with
          | some s => some (.str s, G)
          | none => none)
        | none => none) := by
      intro G hn
      simp only [aop]
      generalize ev x = X at hn ⊢
      cases X <;> first | rfl | exact absurd rfl (hn _)
    have hn : ∀ s, ev x ≠ .str s := by
      intro s hs
      simp [aop, hs] at h
    rw [key H hn] at h
    split at h <;> (try (cases h; done))
    rename_i l hl'
    split at h <;> (try (cases h; done))
    rename_i q hq
    simp only [Option.some.injEq, Prod.mk.injEq] at h
    obtain ⟨rfl, rfl⟩ := h
    refine ⟨rfl, fun G hG => ?_⟩
    rw [key G hn, ← elsOf_eq (hG (ev x) (by simp [namesOf])), hl']
    simp only [hq]
  case subV es x lo hi mx =>
    simp only [aop] at h
    split at h <;> (try (cases h; done))
    rename_i y hy
    simp only [Option.some.injEq, Prod.mk.injEq] at h
    obtain ⟨rfl, rfl⟩ := h
    refine ⟨rfl, fun G hG => ?_⟩
    have hn := hG (ev x) (by simp [namesOf])
    have : aSubV H es (ev x) (lo.map ev) (hi.map ev) (mx.map ev) = aSubV G es (ev x) (lo.map ev) (hi.map ev) (mx.map ev) := by
      have hle := lenOf_eq hn
      generalize ev x = X at hn hle
      unfold aSubV
      rw [← hle]
      cases X <;> try rfl
      rename_i id o n
      have := hget_eq (hn id (by simp [idsOf]))
      simp only [this]
    simp only [aop, ← this, hy]
  case ixAS sh es x i =>
    simp only [aop] at h
    split at h <;> (try (cases h; done))
    rename_i q hq
    split at h <;> (try (cases h; done))
    rename_i y hy
    simp only [Option.some.injEq, Prod.mk.injEq] at h
    obtain ⟨rfl, rfl⟩ := h
    refine ⟨rfl, fun G hG => ?_⟩
    have hn := hG (ev x) (by simp [namesOf])
    have : aIx H es (ev x) q = aIx G es (ev x) q := by
      generalize ev x = X at hn
      cases X <;> try rfl
      rename_i id o n
      have := hget_eq (hn id (by simp [idsOf]))
      simp only [aIx, this]
    simp only [aop, hq, ← this, hy]
  case bk b args =>
    cases b
    case lenV =>
      simp only [aop] at h
      split at h <;> (try (cases h; done))
      rename_i x
      split at h <;> (try (cases h; done))
      rename_i n hn
      simp only [Option.some.injEq, Prod.mk.injEq] at h
      obtain ⟨rfl, rfl⟩ := h
      refine ⟨rfl, fun G hG => ?_⟩
      have := lenOf_eq (hG (ev x) (by simp [namesOf]))
      simp only [aop, ← this, hn]
    all_goals
      simp only [aop] at h ⊢
      repeat' (split at h <;> (try (cases h; done)))
      all_goals
        simp only [Option.some.injEq, Prod.mk.injEq] at h
        obtain ⟨rfl, rfl⟩ := h
        refine ⟨rfl, fun G _ => ?_⟩
        simp_all
  all_goals
    simp only [aop] at h ⊢
    first
    | (simp only [Option.some.injEq, Prod.mk.injEq] at h
       obtain ⟨rfl, rfl⟩ := h
       exact ⟨rfl, fun G _ => rfl⟩)
    | (repeat' (split at h <;> (try (cases h; done)))
       all_goals
        simp only [Option.some.injEq, Prod.mk.injEq] at h
        obtain ⟨rfl, rfl⟩ := h
        refine ⟨rfl, fun G _ => ?_⟩
        simp_all)
end Go.Proofs.Ytdceaeifcniabaa.AE

namespace Go.Proofs.Ytdceaeifcniabaa.AE
set_option linter.unusedVariables false
set_option linter.unusedSimpArgs false
set_option linter.constructorNameAsVariable false
open Go Go.RowKit

theorem sops_at {ios : List IOper} {ps : List Nat} {k : Nat} {o : SOp} (h : (sopsOf ios ps)[k]? = some o) : ios[k]? = some o.op := by
  simp only [sopsOf, List.getElem?_map, List.getElem?_zipIdx, Nat.zero_add, Option.map_map, Option.map_eq_some_iff] at h
  obtain ⟨a, ha, rfl⟩ := h
  exact ha
theorem sops_len (ios : List IOper) (ps : List Nat) : (sopsOf ios ps).length = ios.length := by simp [sopsOf]

/-- What lies at a kept number's place. -/
def preB (o : SOp) : Blk := match o.op.op with
  | .alloc e => ⟨e, [e.zero]⟩
  | _ => rjunk
def kindOk (o : SOp) : Prop := (∃ e, o.op.op = .alloc e ∧ e.es ≠ 0) ∨ (∃ e x, o.op.op = .box e x ∧ e.bytes ≠ 0) ∨ ∃ e n q, o.op.op = .mkrow e n q ∧ e.bytes ≠ 0
theorem slots_spec : ∀ (l : List SOp) (c : Nat), slotsOk l c = true → ∀ (m : Nat) (a : SOp) (j : Nat), l[m]? = some a → a.slot = some j →
    c ≤ j ∧ a.op.guard = none ∧ kindOk a ∧ (preH l)[j - c]? = some (some (preB a)) ∧ ∀ (m' : Nat) (a' : SOp) (j' : Nat), m < m' → l[m']? = some a' → a'.slot = some j' → j < j'
  | [], c, h, m, a, j, hm, _ => by simp at hm
  | o :: l, c, h, m, a, j, hm, hj => by
    simp only [slotsOk] at h
    cases hs : o.slot with
    | none =>
      rw [hs] at h
      cases m with
      | zero =>
        simp only [List.getElem?_cons_zero, Option.some.injEq] at hm
        subst hm; rw [hs] at hj; cases hj
      | succ m =>
        simp only [List.getElem?_cons_succ] at hm
        obtain ⟨q1, q2, q3, q4, q5⟩ := slots_spec l c h m a j hm hj
        refine ⟨q1, q2, q3, by simp only [preH, hs]; exact q4, fun m' a' j' hlt ha' hj' => ?_⟩
        cases m' with
        | zero => omega
        | succ m' => exact q5 m' a' j' (by omega) (by simpa using ha') hj'
    | some s =>
      rw [hs] at h
      simp only [Bool.and_eq_true, beq_iff_eq] at h
      obtain ⟨⟨⟨h1, h2⟩, h3⟩, h4⟩ := h
      subst h1
      cases m with
      | zero =>
        simp only [List.getElem?_cons_zero, Option.some.injEq] at hm
        subst hm
        rw [hs] at hj; cases hj
        refine ⟨Nat.le_refl _, by simpa using h2, ?_, ?_, fun m' a' j' hlt ha' hj' => ?_⟩
        · split at h3
          · rename_i e he; exact .inl ⟨e, he, by simpa using h3⟩
          · rename_i e x he; exact .inr (.inl ⟨e, x, he, by simpa using h3⟩)
          · rename_i e n q he; exact .inr (.inr ⟨e, n, q, he, by simpa using h3⟩)
          · cases h3
        · simp only [preH, hs, Nat.sub_self, List.getElem?_cons_zero]
          unfold preB
          cases o.op.op <;> rfl
        · cases m' with
          | zero => omega
          | succ m' =>
            have := (slots_spec l _ h4 m' a' j' (by simpa using ha') hj').1
            omega
      | succ m =>
        simp only [List.getElem?_cons_succ] at hm
        obtain ⟨q1, q2, q3, q4, q5⟩ := slots_spec l _ h4 m a j hm hj
        refine ⟨by omega, q2, q3, ?_, fun m' a' j' hlt ha' hj' => ?_⟩
        · simp only [preH, hs]
          rw [show j - s = (j - (s + 1)) + 1 by omega, List.getElem?_cons_succ]; exact q4
        · cases m' with
          | zero => omega
          | succ m' => exact q5 m' a' j' (by omega) (by simpa using ha') hj'

/-- It changes memory, in the text's order. -/
def hv (o : SOp) : Prop := chgS o = true ∧ o.slot = none
/-- Its block's number is kept, it is made there. -/
def mkF (o : SOp) : Prop := o.slot ≠ none ∧ allocOp o.op.op = false

structure GS (P : Program) (call : CallF) (base : Nat) (ops : Array Oper) (l : List SOp) (ps : List Nat) (f : Nat → St) : Prop where
  size : l.length = ops.size
  ts : TS call base l f
  at_ : ∀ k, k < ops.size → ∃ (o : Oper) (so : SOp), ops[k]? = some o ∧ l[k]? = some so ∧ cOper P ops.toList o = some so.op
  slots : ∀ (m k : Nat) (om ok : Oper) (t : Nat), m ≠ k → ops[m]? = some om → ops[k]? = some ok → om.dst = some t → (t ∈ ok.looksAt ops ∨ ok.dst = some t) → Ord ps m k
  heavy : ∀ (m k : Nat) (a b : SOp), m ≠ k → l[m]? = some a → l[k]? = some b → hv a → hv b → Ord ps m k
  mkcall : ∀ (m k : Nat) (a b : SOp), m ≠ k → l[m]? = some a → l[k]? = some b → mkF a → hv b → stApp b.op.op = false → Ord ps m k
  chk : ∀ (i k : Nat) (a b : SOp), i < k → l[i]? = some a → l[k]? = some b → meetsS a b = true → Ord ps i k ∨ b.chk.contains i = true
  kp : ∀ (m k : Nat) (a b : SOp) (s : Nat), l[m]? = some a → l[k]? = some b → a.slot = some s → hv b → (ps.getD k 0).testBit m = true ∨ b.kp.contains s = true
  slot : ∀ (m : Nat) (a : SOp) (j : Nat), l[m]? = some a → a.slot = some j → a.op.guard = none ∧ kindOk a ∧ (preH l)[j]? = some (some (preB a))
  inj : ∀ (m m' : Nat) (a a' : SOp) (j : Nat), l[m]? = some a → l[m']? = some a' → a.slot = some j → a'.slot = some j → m = m'
  low : ∀ (m i : Nat), (ps.getD m 0).testBit i = true → i < m
  trans : ∀ (m h k : Nat), k < ops.size → (ps.getD k 0).testBit h = true → (ps.getD h 0).testBit m = true → (ps.getD k 0).testBit m = true

theorem predsOf_low {ops : Array Oper} (hed : edgesOk ops = true) : ∀ m i, ((predsOf ops.toList []).getD m 0).testBit i = true → i < m := by
  intro m
  induction m using Nat.strongRecOn with
  | _ m ih =>
    intro i hi
    rcases Nat.lt_or_ge m ops.size with hlt | hge
    · have ho : ops.toList[m]? = some ops[m] := by simp [hlt]
      obtain ⟨x, h1, h2, h3⟩ := predsOf_bits ops.toList [] m i ops[m] ho (by simpa using hi)
      have := List.all_eq_true.mp hed (ops[m], m) (by rw [List.mem_zipIdx_iff_getElem?]; simp [hlt])
      have := List.all_eq_true.mp this x (by simpa using h1)
      have hx : x.on < m := by simpa [h2] using this
      rcases h3 with rfl | h3
      · exact hx
      · have := ih x.on hx i h3; omega
    · have hl := predsOf_len ops.toList []
      rw [List.getD_eq_getElem?_getD, List.getElem?_eq_none (by simp at hl; omega)] at hi
      simp at hi

theorem gs_of {P : Program} {call : CallF} {base : Nat} {ops : Array Oper} {ios : List IOper} {f : Nat → St} (hc : optAll (cOper P ops.toList) ops.toList = some ios)
    (hd : drawSOk ops (sopsOf ios (predsOf ops.toList [])) (predsOf ops.toList []) = true) (hed : edgesOk ops = true) (ht : TS call base (sopsOf ios (predsOf ops.toList [])) f) :
    GS P call base ops (sopsOf ios (predsOf ops.toList [])) (predsOf ops.toList []) f := by
  have hlow := predsOf_low hed
  generalize hps : predsOf ops.toList [] = ps at *
  obtain ⟨hl, hat⟩ := optAll_spec hc
  have hlen : ios.length = ops.size := by simpa using hl
  have hsz : (sopsOf ios ps).length = ops.size := by rw [sops_len, hlen]
  have hop : ∀ (k : Nat) (so : SOp), (sopsOf ios ps)[k]? = some so → ios[k]? = some so.op := fun k so h => sops_at h
  generalize sopsOf ios ps = l at *
  simp only [drawSOk, Bool.and_eq_true] at hd
  obtain ⟨⟨⟨htr, hs⟩, hd⟩, hk⟩ := hd
  have lt_of : ∀ (k : Nat) (so : SOp), l[k]? = some so → k < ops.size := fun k so h => by rw [← hsz]; exact (List.getElem?_eq_some_iff.mp h).1
  have lt_of2 : ∀ (k : Nat) (o : Oper), ops[k]? = some o → k < ops.size := fun k o h => (Array.getElem?_eq_some_iff.mp h).1
  have hat' : ∀ k, k < ops.size → ∃ (o : Oper) (so : SOp), ops[k]? = some o ∧ l[k]? = some so ∧ cOper P ops.toList o = some so.op := by
    intro k hk
    obtain ⟨io, e1, e2⟩ := hat k ops[k] (by simp [hk])
    have h1 : l[k]? = some l[k] := List.getElem?_eq_getElem (by omega)
    have h2 := hop k _ h1
    rw [e1] at h2
    injection h2 with h2
    exact ⟨ops[k], l[k], by simp [hk], h1, by rw [← h2]; exact e2⟩
  have hpair : ∀ (i j : Nat) (o p : Oper) (a b : SOp), i < j → ops[i]? = some o → ops[j]? = some p → l[i]? = some a → l[j]? = some b → (ps.getD j 0).testBit i = true ∨ pairS ops o p a b i = true := by
    intro i j o p a b hij ho hp ha hb
    have := List.all_eq_true.mp (List.all_eq_true.mp hd j (List.mem_range.mpr (lt_of j b hb))) i (List.mem_range.mpr hij)
    simp only [Bool.or_eq_true, ho, hp, ha, hb] at this
    exact this
  have ordOf : ∀ m k, m ≠ k → ((m < k → (ps.getD k 0).testBit m = true) ∧ (k < m → (ps.getD m 0).testBit k = true)) → Ord ps m k := fun m k _ h => h
  have two : ∀ (m k : Nat) (om ok : Oper) (a b : SOp), m ≠ k → ops[m]? = some om → ops[k]? = some ok → l[m]? = some a → l[k]? = some b → (∀ o p x y i, pairS ops o p x y i = true → (o = om ∧ p = ok ∧ x = a ∧ y = b ∨ o = ok ∧ p = om ∧ x = b ∧ y = a) → False) → Ord ps m k := by
    intro m k om ok a b hmk hm hk ha hb hno
    constructor
    · intro hlt
      exact (hpair m k om ok a b hlt hm hk ha hb).resolve_right fun h => hno _ _ _ _ _ h (.inl ⟨rfl, rfl, rfl, rfl⟩)
    · intro hlt
      exact (hpair k m ok om b a hlt hk hm hb ha).resolve_right fun h => hno _ _ _ _ _ h (.inr ⟨rfl, rfl, rfl, rfl⟩)
  have opsAt : ∀ (k : Nat) (so : SOp), l[k]? = some so → ∃ o, ops[k]? = some o := fun k so h => ⟨ops[k]'(lt_of k so h), by simp [lt_of k so h]⟩
  have lAt : ∀ (k : Nat) (o : Oper), ops[k]? = some o → ∃ so, l[k]? = some so := fun k o h => ⟨l[k]'(by have := lt_of2 k o h; omega), List.getElem?_eq_getElem _⟩
  have hvl : ∀ a : SOp, hv a → lightOp a.op.op = false := by
    rintro a ⟨h1, h2⟩
    simp only [chgS, h2, Option.isSome_none, Bool.false_and, Bool.not_false, Bool.and_true, Bool.not_eq_true'] at h1
    exact h1
  have hsp := slots_spec l 0 hs
  have mkl : ∀ (m : Nat) (a : SOp), l[m]? = some a → a.slot ≠ none → lightOp a.op.op = false := by
    intro m a ha hn
    cases hsl : a.slot with
    | none => exact absurd hsl hn
    | some j =>
      obtain ⟨_, _, hkd, _⟩ := hsp m a j ha hsl
      rcases hkd with ⟨e, he, _⟩ | ⟨e, x, he, _⟩ | ⟨e, n, q, he, _⟩ <;> rw [he] <;> rfl
  refine ⟨hsz, ht, hat', ?_, ?_, ?_, ?_, ?_, ?_, ?_, hlow, ?_⟩
  rotate_right
  · intro m h k hk h1 h2
    have := List.all_eq_true.mp (List.all_eq_true.mp htr k (List.mem_range.mpr hk)) h (List.mem_range.mpr (hlow k h h1))
    simp only [h1, Bool.not_true, Bool.false_or, beq_iff_eq] at this
    have := congrArg (fun z => z.testBit m) this
    simp only [Nat.testBit_and, h2, Bool.true_and] at this
    exact this
  · intro m k om ok t hmk hm hk hdst hlook
    obtain ⟨a, ha⟩ := lAt m om hm
    obtain ⟨b, hb⟩ := lAt k ok hk
    refine two m k om ok a b hmk hm hk ha hb fun o p x y i h hh => ?_
    simp only [pairS, Bool.and_eq_true] at h
    obtain ⟨a1, a2, a3⟩ := Oper.apart_spec h.1.1
    rcases hh with ⟨rfl, rfl, _, _⟩ | ⟨rfl, rfl, _, _⟩
    · rcases hlook with hl | hl
      · exact a1 t hdst hl
      · exact a2 t hdst hl
    · rcases hlook with hl | hl
      · exact a3 t hdst hl
      · exact a2 t hl hdst
  · intro m k a b hmk ha hb hva hvb
    obtain ⟨om, hm⟩ := opsAt m a ha
    obtain ⟨ok, hk⟩ := opsAt k b hb
    refine two m k om ok a b hmk hm hk ha hb fun o p x y i h hh => ?_
    simp only [pairS, Bool.and_eq_true] at h
    have h := h.1.2
    have e1 := hvl a hva
    have e2 := hvl b hvb
    rcases hh with ⟨_, _, rfl, rfl⟩ | ⟨_, _, rfl, rfl⟩ <;> simp [e1, e2, hva.2, hvb.2] at h
  · intro m k a b hmk ha hb hma hvb hns
    obtain ⟨om, hm⟩ := opsAt m a ha
    obtain ⟨ok, hk⟩ := opsAt k b hb
    refine two m k om ok a b hmk hm hk ha hb fun o p x y i h hh => ?_
    simp only [pairS, Bool.and_eq_true] at h
    have h := h.1.2
    have e1 := mkl m a ha hma.1
    have e2 := hvl b hvb
    rcases hh with ⟨_, _, rfl, rfl⟩ | ⟨_, _, rfl, rfl⟩ <;> simp [e1, e2, hvb.2, hns, hma.2] at h
  · intro i k a b hik ha hb hme
    obtain ⟨oi, hi⟩ := opsAt i a ha
    obtain ⟨ok, hk⟩ := opsAt k b hb
    rcases hpair i k oi ok a b hik hi hk ha hb with h | h
    · exact .inl ⟨fun _ => h, fun h' => by omega⟩
    · right
      simp only [pairS, Bool.and_eq_true, hme, Bool.not_true, Bool.false_or] at h
      exact h.2
  · intro m k a b s ha hb hsl hvb
    have := List.all_eq_true.mp (List.all_eq_true.mp hk k (List.mem_range.mpr (lt_of k b hb))) m (List.mem_range.mpr (lt_of m a ha))
    simp only [ha, hb, hsl, hvb.1, hvb.2, Option.isNone_none, Bool.and_self, Bool.not_true, Bool.or_false, Bool.or_eq_true] at this
    exact this
  · intro m a j ha hj
    obtain ⟨_, q2, q3, q4, _⟩ := hsp m a j ha hj
    exact ⟨q2, q3, by simpa using q4⟩
  · intro m m' a a' j ha ha' hj hj'
    rcases Nat.lt_trichotomy m m' with h | h | h
    · have := (hsp m a j ha hj).2.2.2.2 m' a' j h ha' hj'; omega
    · exact h
    · have := (hsp m' a' j ha' hj').2.2.2.2 m a j h ha hj; omega
end Go.Proofs.Ytdceaeifcniabaa.AE

namespace Go.Proofs.Ytdceaeifcniabaa.AE
set_option linter.unusedVariables false
set_option linter.unusedSimpArgs false
set_option linter.constructorNameAsVariable false
open Go Go.RowKit

theorem names_has {ev : Opd → AV} {io : IOp} {x : AV} (h : x ∈ namesOf ev io) : hasNames io = true := by
  cases io <;> simp [namesOf, hasNames] at h ⊢
  case bk b args => cases b <;> simp [namesOf, hasNames] at h ⊢
theorem kind_not {a : SOp} (h : kindOk a) : lightOp a.op.op = false := by
  rcases h with ⟨e, he, _⟩ | ⟨e, x, he, _⟩ | ⟨e, n, q, he, _⟩ <;> rw [he] <;> rfl
/-- A made block is none that isn't made yet. -/
theorem make_not {ev : Opd → AV} {id : Nat} {a : SOp} {v : AV} {k : Blk} (h : kindOk a) (hm : makeAt ev id a.op.op = some (v, k)) : k ≠ rjunk := by
  rcases h with ⟨e, he, _⟩ | ⟨e, x, he, hb⟩ | ⟨e, n, q, he, hb⟩ <;> rw [he] at hm <;> simp only [makeAt] at hm
  · cases hm
  · split at hm <;> cases hm
    intro hk
    have := congrArg (fun b : Blk => b.e.bytes) hk
    exact hb this
  · split at hm <;> cases hm
    intro hk
    have := congrArg (fun b : Blk => b.e.bytes) hk
    exact hb this

section
variable {P : Program} {call : CallF} {base : Nat} {ops : Array Oper} {l : List SOp} {ps : List Nat} {f : Nat → St}

theorem GS.lt (G : GS P call base ops l ps f) {k : Nat} {o : SOp} (h : l[k]? = some o) : k < ops.size := by rw [← G.size]; exact (List.getElem?_eq_some_iff.mp h).1
theorem GS.get (G : GS P call base ops l ps f) {k : Nat} (h : k < ops.size) : ∃ o : SOp, l[k]? = some o := ⟨l[k]'(by rw [G.size]; exact h), List.getElem?_eq_getElem _⟩
theorem mkF_chg {a : SOp} (h : mkF a) (hk : kindOk a) : chgS a = true := by simp [chgS, h.2, kind_not hk]

/-- A step that isn't heavy. -/
theorem GS.soft (G : GS P call base ops l ps f) {k : Nat} {o : SOp} (h : l[k]? = some o) (hn : ¬ hv o) : (f (k + 1)).H.length = (f k).H.length ∧ ∀ id, (∀ j, o.slot = some j → mkF o → id ≠ base + j) → (f k).H[id]? = (f (k + 1)).H[id]? := by
  rcases G.ts.step k o h with ⟨hw, v, H', hs, he⟩ | ⟨hw, he⟩
  · rw [he]
    simp only
    cases hsl : o.slot with
    | none =>
      simp only [stepS, hsl] at hs
      have hlt : lightOp o.op.op = true := by
        cases hl : lightOp o.op.op with
        | true => rfl
        | false => exact absurd ⟨by simp [chgS, hsl, hl], hsl⟩ hn
      obtain ⟨rfl, _⟩ := light_op hlt hs
      exact ⟨rfl, fun _ _ => rfl⟩
    | some j =>
      simp only [stepS, hsl] at hs
      split at hs
      · cases hs; exact ⟨rfl, fun _ _ => rfl⟩
      · rename_i hal
        split at hs <;> (try (cases hs; done))
        cases hs
        refine ⟨by simp, fun id hid => ?_⟩
        rw [List.getElem?_set_ne (Ne.symm (hid j rfl ⟨by simp [hsl], hal⟩))]
  · rw [he]; exact ⟨rfl, fun _ _ => rfl⟩
/-- A heavy step keeps what is not made ahead of it for sure. -/
theorem GS.keeps (G : GS P call base ops l ps f) {k m : Nat} {o a : SOp} {j : Nat} (h : l[k]? = some o) (hh : hv o) (ha : l[m]? = some a) (hj : a.slot = some j) (hb : (ps.getD k 0).testBit m = false) : (f k).H[base + j]? = (f (k + 1)).H[base + j]? := by
  rcases G.kp m k a o j ha h hj hh with h1 | h1
  · rw [hb] at h1; cases h1
  · rcases G.ts.step k o h with ⟨hw, _⟩ | ⟨hw, he⟩
    · exact G.ts.kp k o j h hw h1
    · rw [he]
theorem path {id y z : Nat} (h : ∀ m, y ≤ m → m < z → (f m).H[id]? = (f (m + 1)).H[id]?) (hyz : y ≤ z) : (f y).H[id]? = (f z).H[id]? := by
  induction z, hyz using le_ind with
  | base => rfl
  | succ z hz ih => rw [ih fun m h1 h2 => h m h1 (by omega)]; exact h z hz (by omega)
theorem path2 {id y z : Nat} (h : ∀ m, (y ≤ m ∧ m < z ∨ z ≤ m ∧ m < y) → (f m).H[id]? = (f (m + 1)).H[id]?) : (f y).H[id]? = (f z).H[id]? := by
  rcases Nat.le_total y z with hl | hl
  · exact path (fun m h1 h2 => h m (.inl ⟨h1, h2⟩)) hl
  · exact (path (fun m h1 h2 => h m (.inr ⟨h1, h2⟩)) hl).symm
theorem lens {y z : Nat} (h : ∀ m, (y ≤ m ∧ m < z ∨ z ≤ m ∧ m < y) → (f (m + 1)).H.length = (f m).H.length) : (f y).H.length = (f z).H.length := by
  have go : ∀ y z : Nat, y ≤ z → (∀ m, y ≤ m → m < z → (f (m + 1)).H.length = (f m).H.length) → (f y).H.length = (f z).H.length := by
    intro y z hyz
    induction z, hyz using le_ind with
    | base => intro _; rfl
    | succ z hz ih => intro h; rw [ih fun m h1 h2 => h m h1 (by omega)]; exact (h z hz (by omega)).symm
  rcases Nat.le_total y z with hl | hl
  · exact go y z hl fun m h1 h2 => h m (.inl ⟨h1, h2⟩)
  · exact (go z y hl fun m h1 h2 => h m (.inr ⟨h1, h2⟩)).symm
/-- Ahead of its making a block's place is as_ at first. -/
theorem GS.pre (G : GS P call base ops l ps f) {H0 : Heap} (h0 : (f 0).H = H0 ++ preH l) (hb : base = H0.length) {m : Nat} {a : SOp} {j : Nat} (ha : l[m]? = some a) (hj : a.slot = some j) : ∀ k, k ≤ m → (f k).H[base + j]? = some (some (preB a)) := by
  intro k
  induction k with
  | zero =>
    intro _
    rw [h0, hb, List.getElem?_append_right (by omega), show H0.length + j - H0.length = j by omega]
    exact (G.slot m a j ha hj).2.2
  | succ k ih =>
    intro hk
    rw [← ih (by omega)]
    obtain ⟨o, ho⟩ := G.get (k := k) (by have := G.lt ha; omega)
    by_cases hh : hv o
    · refine (G.keeps ho hh ha hj ?_).symm
      cases hx : (ps.getD k 0).testBit m with
      | false => rfl
      | true => have := G.low k m hx; omega
    · refine ((G.soft ho hh).2 _ fun j' hj' hm e => ?_).symm
      have : j' = j := by omega
      subst this
      have := G.inj k m o a _ ho ha hj' hj
      omega
/-- A block that is made stays so, as_ long as_ nothing comes that is behind it for sure. -/
theorem GS.made (G : GS P call base ops l ps f) {m : Nat} {a : SOp} {j : Nat} (ha : l[m]? = some a) (hj : a.slot = some j) {y : Nat} (hy : m < y) (hyn : y ≤ ops.size) (hno : ∀ (h : Nat) (b : SOp), m < h → h < y → l[h]? = some b → hv b → (ps.getD h 0).testBit m = false) :
    (f (m + 1)).H[base + j]? = (f y).H[base + j]? := by
  refine path (fun h h1 h2 => ?_) hy
  obtain ⟨b, hb⟩ := G.get (k := h) (by omega)
  by_cases hh : hv b
  · exact G.keeps hb hh ha hj (hno h b (by omega) h2 hb hh)
  · refine (G.soft hb hh).2 _ fun j' hj' _ e => ?_
    have : j' = j := by omega
    subst this
    have := G.inj h m b a _ hb ha hj' hj
    omega
/-- What an operation looks at, what is in no order with it keeps. -/
theorem GS.names (G : GS P call base ops l ps f) {k m : Nat} {o a : SOp} (h : l[k]? = some o) (hw : want (f k).env o.op.guard = some true) (ha : l[m]? = some a) (hc : chgS a = true) (hmk : m ≠ k) (hno : ¬ Ord ps m k)
    {x : AV} (hx : x ∈ namesOf (evO (f k).env) o.op.op) {id : Nat} (hi : id ∈ idsOf x) : (f m).H[id]? = (f (m + 1)).H[id]? := by
  rcases G.ts.step m a ha with ⟨hwm, _⟩ | ⟨_, he⟩
  · have hn := names_has hx
    rcases Nat.lt_or_ge m k with hlt | hge
    · rcases G.chk m k a o hlt ha h (by simp [meetsS, hc, hn]) with h1 | h1
      · exact absurd h1 hno
      · have := G.ts.log m k a o hlt ha h hwm hw h1
        simp only [logC, entS, hc, Bool.and_eq_true] at this
        exact keepL_ok this.1 hx hi
    · rcases G.chk k m o a (by omega) h ha (by simp [meetsS, hc, hn]) with h1 | h1
      · exact absurd ⟨h1.2, h1.1⟩ hno
      · have := G.ts.log k m o a (by omega) h ha hw hwm h1
        simp only [logC, entS, hc, Bool.and_eq_true] at this
        exact keepL_ok this.2 hx hi
  · rw [he]

/-- A state in between. -/
structure InvX (G : GS P call base ops l ps f) (L : Nat → Prop) (ρ0 ρ : Rho) (s : St) (x : Nat) : Prop where
  len : s.env.length = (f 0).env.length
  env : ∀ t, ∃ c, c ≤ ops.size ∧ s.env.getD t .undef = (f c).env.getD t .undef ∧ ∀ (m : Nat) (o : Oper), ops[m]? = some o → o.dst = some t → (m < c ↔ L m)
  xle : x ≤ ops.size
  hx : ∀ (m : Nat) (a : SOp), l[m]? = some a → hv a → (m < x ↔ L m)
  hlen : s.H.length = (f x).H.length
  a : ∀ id, (∀ (m : Nat) (o : SOp) (j : Nat), l[m]? = some o → o.slot = some j → mkF o → id ≠ base + j) → s.H[id]? = (f x).H[id]?
  b : ∀ (m : Nat) (o : SOp) (j : Nat), l[m]? = some o → o.slot = some j → mkF o → (L m → s.H[base + j]? = (f (max x (m + 1))).H[base + j]?) ∧ (¬ L m → s.H[base + j]? = some (some rjunk))
  c : ∀ (m : Nat) (o : SOp) (j : Nat), l[m]? = some o → o.slot = some j → ¬ L m → ρ (base + j) = .res
  d : ∀ (m : Nat) (o : SOp) (j : Nat), l[m]? = some o → o.slot = some j → ρ0 (base + j) = .no

theorem InvX.to {G : GS P call base ops l ps f} {L : Nat → Prop} {ρ0 ρ : Rho} {s : St} {x : Nat} (I : InvX G L ρ0 ρ s x) {y : Nat} (hy : y ≤ ops.size) (hx : ∀ (m : Nat) (a : SOp), l[m]? = some a → hv a → (m < y ↔ L m)) : InvX G L ρ0 ρ s y := by
  have soft : ∀ (m : Nat) (o : SOp), l[m]? = some o → (x ≤ m ∧ m < y ∨ y ≤ m ∧ m < x) → ¬ hv o := by
    intro m o ho hm hh
    have h1 := I.hx m o ho hh
    have h2 := hx m o ho hh
    rcases hm with ⟨q1, q2⟩ | ⟨q1, q2⟩
    · have := h1.mpr (h2.mp q2); omega
    · have := h2.mpr (h1.mp q2); omega
  have xl := I.xle
  refine ⟨I.len, I.env, hy, hx, ?_, fun id hid => ?_, fun m o j ho hj hm => ⟨fun hl => ?_, (I.b m o j ho hj hm).2⟩, I.c, I.d⟩
  · rw [I.hlen]
    refine lens fun m hm => ?_
    obtain ⟨o, ho⟩ := G.get (k := m) (by omega)
    exact (G.soft ho (soft m o ho hm)).1
  · rw [I.a id hid]
    refine path2 fun m hm => ?_
    obtain ⟨o, ho⟩ := G.get (k := m) (by omega)
    exact (G.soft ho (soft m o ho hm)).2 id fun j hj hmk => hid m o j ho hj hmk
  · rw [(I.b m o j ho hj hm).1 hl]
    refine path2 fun m' hm' => ?_
    have hlt : m < ops.size := G.lt ho
    obtain ⟨o', ho'⟩ := G.get (k := m') (by omega)
    refine (G.soft ho' (soft m' o' ho' (by omega))).2 _ fun j' hj' hmk e => ?_
    have : j' = j := by omega
    subst this
    have := G.inj m' m o' o _ ho' ho hj' hj
    omega
end
end Go.Proofs.Ytdceaeifcniabaa.AE

namespace Go.Proofs.Ytdceaeifcniabaa.AE
set_option linter.unusedVariables false
set_option linter.unusedSimpArgs false
set_option linter.constructorNameAsVariable false
open Go Go.RowKit

/-- Stores and appends: told over memory that agrees where they look. -/
def updH (G : Heap) : Option (Nat × Option Blk) → Heap
  | some (id, x) => G.set id x
  | none => G
theorem updH_len (G : Heap) (u : Option (Nat × Option Blk)) : (updH G u).length = G.length := by cases u <;> simp [updH]
theorem updH_at {G : Heap} {u : Option (Nat × Option Blk)} {id : Nat} (h : ∀ x, u ≠ some (id, x)) : (updH G u)[id]? = G[id]? := by
  cases u with
  | none => rfl
  | some p =>
    obtain ⟨i, x⟩ := p
    have : i ≠ id := fun e => h x (by rw [e])
    simp only [updH, List.getElem?_set_ne this]
theorem updH_hit {G G' : Heap} {id : Nat} {x : Option Blk} (h : G.length = G'.length) : (updH G (some (id, x)))[id]? = (updH G' (some (id, x)))[id]? := by
  simp only [updH, List.getElem?_set, h, if_true]
theorem stApp_op {call : CallF} {ev : Opd → AV} {H H' : Heap} {io : IOp} {v : AV} (hl : stApp io = true) (h : aop call ev H io = some (v, H')) :
    ∃ (u : Option (Nat × Option Blk)) (Z : Heap), H' = updH H u ++ Z ∧ (∀ id y, u = some (id, y) → ∃ x ∈ namesOf ev io, id ∈ idsOf x) ∧
      ∀ G : Heap, G.length = H.length → (∀ x ∈ namesOf ev io, ∀ id ∈ idsOf x, H[id]? = G[id]?) → aop call ev G io = some (v, updH G u ++ Z) := by
  cases io <;> simp only [stApp, Bool.false_eq_true] at hl
  case store n a x =>
    simp only [aop] at h
    cases hp : aStore H n (ev x) (ev a) with
    | none => rw [hp] at h; cases h
    | some Hn =>
      rw [hp] at h
      simp only [Option.some.injEq, Prod.mk.injEq] at h
      obtain ⟨rfl, rfl⟩ := h
      cases he : ev a <;> rw [he] at hp <;> simp only [aStore] at hp <;> (try (cases hp; done))
      rename_i id i j
      cases hg : hget H id with
      | none => rw [hg] at hp; cases hp
      | some b =>
        rw [hg] at hp
        simp only at hp
        split at hp <;> (try (cases hp; done))
        rename_i el hel
        split at hp <;> (try (cases hp; done))
        rename_i el' hel'
        simp only [Option.some.injEq] at hp
        subst hp
        refine ⟨some (id, some { b with els := b.els.set i el' }), [], by simp [updH], fun id' y hu => ?_, fun G hG hn => ?_⟩
        · simp only [Option.some.injEq, Prod.mk.injEq] at hu
          exact ⟨ev a, by simp [namesOf], by simp [he, idsOf, hu.1]⟩
        · have := hn (ev a) (by simp [namesOf]) id (by simp [he, idsOf])
          rw [hget_eq this] at hg
          simp only [aop, he, aStore, hg, hel, hel', updH, List.append_nil]
  case app e sv x =>
    simp only [aop] at h
    cases hx : elsOf H (ev x) with
    | none => rw [hx] at h; cases h
    | some xs =>
      rw [hx] at h
      simp only at h
      cases he : ev sv <;> rw [he] at h <;> simp only [aApp] at h <;> (try (cases h; done))
      · split at h <;> (try (cases h; done))
        rename_i hc
        simp only [Option.some.injEq, Prod.mk.injEq] at h
        obtain ⟨rfl, rfl⟩ := h
        refine ⟨none, _, rfl, by simp, fun G hG hn => ?_⟩
        have e1 := elsOf_eq (hn (ev x) (by simp [namesOf]))
        simp only [aop, ← e1, hx, he, aApp, if_pos hc, updH, hG]
      · rename_i id o n
        cases o with
        | succ o => simp only [aApp] at h; cases h
        | zero =>
          simp only [aApp] at h
          cases hg : hget H id with
          | none => rw [hg] at h; cases h
          | some b =>
            rw [hg] at h
            simp only at h
            split at h <;> (try (cases h; done))
            rename_i hc
            simp only [Option.some.injEq, Prod.mk.injEq] at h
            obtain ⟨rfl, rfl⟩ := h
            refine ⟨some (id, none), _, rfl, fun id' y hu => ?_, fun G hG hn => ?_⟩
            · simp only [Option.some.injEq, Prod.mk.injEq] at hu
              exact ⟨ev sv, by simp [namesOf], by simp [he, idsOf, hu.1]⟩
            · have e1 := elsOf_eq (hn (ev x) (by simp [namesOf]))
              have e2 := hn (ev sv) (by simp [namesOf]) id (by simp [he, idsOf])
              rw [hget_eq e2] at hg
              simp only [aop, ← e1, hx, he, aApp, hg, if_pos hc, updH, hG]

/-- A number that is kept is given up. -/
theorem Rep.drop {w : World} {bad D : Nat → Prop} {ρ : Rho} {id : Nat} (hr : ρ id = .res) {v : AV} {c : Value} (h : Rep w bad D ρ v c) : Rep w bad D (fun i => if i = id then .no else ρ i) v c := by
  have ne : ∀ {i : Nat} {x : RB}, ρ i = x → x ≠ .res → i ≠ id := by rintro i x h1 h2 rfl; exact h2 (h1.symm.trans hr)
  induction h with
  | frz h => exact .frz (h.mono (Nat.le_refl _) (fun _ _ _ => rfl) (fun b _ hb => hb.elim .inl (fun ⟨i, es, cap, x⟩ => .inr (by
      simp only at x
      split at x
      · cases x
      · exact ⟨i, es, cap, x⟩))))
  | ptr h => exact .ptr (by simp only [ne h (by simp), if_false]; exact h)
  | ptrD b o h => exact .ptrD b o h
  | slc h hc hn => exact .slc (by simp only [ne h (by simp), if_false]; exact h) hc hn
  | slcV a h => exact .slcV a (by simp only [ne h (by simp), if_false]; exact h)
  | slcD a c h hn ha => exact .slcD a c h hn ha
  | agg cs vs hl h ih => exact .agg cs vs hl fun i c v hc hv => ih i c v hc hv
  | tup cs vs hl h ih => exact .tup cs vs hl fun i c v hc hv => ih i c v hc hv
  | fn g a b va vb hla hlb ha hb iha ihb => exact .fn g a b va vb hla hlb (fun i c v hc hv => iha i c v hc hv) (fun i c v hc hv => ihb i c v hc hv)
theorem HRel.drop {w : World} {bad : Nat → Prop} {ρ : Rho} {B : Nat} {H : Heap} {id : Nat} (hr : ρ id = .res) (h : HRel w bad ρ B H) : HRel w bad (fun i => if i = id then .no else ρ i) B H := by
  refine ⟨fun i b es cap hi => ?_, fun i hi => ?_, fun i i' b es cap es' cap' hi hi' => ?_, fun i hi => ?_⟩
  · try simp only at hi
    split at hi
    · cases hi
    · obtain ⟨k, hk, hb⟩ := h.real i b es cap hi
      obtain ⟨cur, fz, q1, q2, q3, q4⟩ := hb.mem
      exact ⟨k, hk, hb.hes, hb.pos, hb.low, hb.len, hb.ok, cur, fz, q1, q2, q3, fun i el j c hel hj => let ⟨u, hu, hp⟩ := q4 i el j c hel hj; ⟨u, hu, hp.drop hr⟩⟩
  · try simp only at hi
    split at hi
    · cases hi
    · exact h.virt i hi
  · try simp only at hi hi'
    split at hi
    · cases hi
    · split at hi'
      · cases hi'
      · exact h.inj _ _ _ _ _ _ _ hi hi'
  · try simp only at hi
    split at hi
    · cases hi
    · exact h.res i hi

section
variable {P : Program} {call : CallF} {base : Nat} {ops : Array Oper} {l : List SOp} {ps : List Nat} {f : Nat → St}
variable {w w0 : World} {bad D0 : Nat → Prop} {ρ ρ0 : Rho} {a : Act} {B : Nat} {s : St} {Q : Exit → Act → World → Prop}

theorem Sim.drop {id : Nat} (hr : ρ id = .res) (h0 : ρ0 id = .no) (h : Sim w0 D0 ρ0 bad B ρ s a w) : Sim w0 D0 ρ0 bad B (fun i => if i = id then .no else ρ i) s a w := by
  refine ⟨h.defers, h.size, fun t ht => (h.env t ht).drop hr, h.heap.drop hr, h.low, h.st.grow, ⟨fun b hb => ?_⟩, h.st.dead, fun i hi => ?_⟩
  · obtain ⟨i, es, cap, x⟩ := hb
    simp only at x
    split at x
    · cases x
    · exact h.st.rle.keep b ⟨i, es, cap, x⟩
  · have : i ≠ id := by rintro rfl; exact hi h0
    simp only [this, if_false]
    exact h.st.keep i hi
theorem Sim.rebase (h : Sim w0 D0 ρ0 bad B ρ s a w) : Sim w (dead s.H) ρ bad B ρ s a w := ⟨h.defers, h.size, h.env, h.heap, h.low, Step.refl _ _ _⟩
theorem Sim.back {w' : World} {ρ' : Rho} {s' : St} {a' : Act} (h : Sim w0 D0 ρ0 bad B ρ s a w) (h' : Sim w (dead s.H) ρ bad B ρ' s' a' w') : Sim w0 D0 ρ0 bad B ρ' s' a' w' := ⟨h'.defers, h'.size, h'.env, h'.heap, h'.low, h.st.trans h'.st⟩

theorem GS.lenE (G : GS P call base ops l ps f) {k : Nat} (h : k ≤ ops.size) : (f k).env.length = (f 0).env.length := by
  induction k with
  | zero => rfl
  | succ k ih =>
    obtain ⟨o, ho⟩ := G.get (k := k) (by omega)
    rcases G.ts.step k o ho with ⟨_, v, H', _, he⟩ | ⟨_, he⟩ <;> rw [he] <;> simp only [put_length] <;> exact ih (by omega)
theorem env_put {G : GS P call base ops l ps f} {L : Nat → Prop} {x : Nat} (I : InvX G L ρ0 ρ s x) {k : Nat} {o : Oper} {v : AV} (he : k < ops.size) (ho : ops[k]? = some o) (hput : (f (k + 1)).env = put (f k).env o.dst v)
    (hord : ∀ (m : Nat) (om : Oper) (t : Nat), m ≠ k → ops[m]? = some om → om.dst = some t → o.dst = some t → (m < k ↔ L m)) :
    ∀ t, ∃ c, c ≤ ops.size ∧ (put s.env o.dst v).getD t .undef = (f c).env.getD t .undef ∧ ∀ (m : Nat) (om : Oper), ops[m]? = some om → om.dst = some t → (m < c ↔ (L m ∨ m = k)) := by
  intro t
  by_cases hd : o.dst = some t
  · refine ⟨k + 1, by omega, ?_, fun m om h3 h4 => ?_⟩
    · rw [hput, hd]
      simp only [put, List.getD_eq_getElem?_getD]
      rcases Nat.lt_or_ge t s.env.length with hlt | hge
      · rw [List.getElem?_set_self hlt, List.getElem?_set_self (by rw [G.lenE (by omega), ← I.len]; exact hlt)]
      · rw [List.getElem?_eq_none (by simpa using hge), List.getElem?_eq_none (by simp; rw [G.lenE (by omega), ← I.len]; exact hge)]
    · by_cases hmk : m = k
      · subst hmk; simp
      · have := hord m om t hmk h3 h4 hd
        rw [← this]
        omega
  · obtain ⟨c, h2, h3, h4⟩ := I.env t
    refine ⟨c, h2, by rw [put_getD_ne hd, h3], fun m om q3 q4 => ?_⟩
    have hmk : m ≠ k := by
      rintro rfl
      rw [ho] at q3; cases q3
      exact hd q4
    rw [h4 m om q3 q4]
    simp [hmk]
/-- A number that is kept stays so. -/
theorem res_stays {w' : World} {ρ' : Rho} {s' : St} {a' : Act} {D : Nat → Prop} {id : Nat} (h' : Sim w D ρ bad B ρ' s' a' w') (hr : ρ id = .res) (hd : s'.H[id]? ≠ some none) : ρ' id = .res := by
  rcases h'.st.keep id (by rw [hr]; simp) with h1 | h1
  · rw [h1, hr]
  · exact absurd h1 hd
theorem res_alive (h : Sim w0 D0 ρ0 bad B ρ s a w) {id : Nat} (hr : ρ id = .res) : s.H[id]? ≠ some none := by
  obtain ⟨k, hk, _⟩ := h.heap.res id hr
  rw [hk]; simp
end
end Go.Proofs.Ytdceaeifcniabaa.AE

namespace Go.Proofs.Ytdceaeifcniabaa.AE
set_option linter.unusedVariables false
set_option linter.unusedSimpArgs false
set_option linter.constructorNameAsVariable false
open Go Go.RowKit

section
variable {P : Program} {call : CallF} {base : Nat} {ops : Array Oper} {l : List SOp} {ps : List Nat} {f : Nat → St}
variable {w w0 : World} {bad D0 : Nat → Prop} {ρ ρ0 : Rho} {a : Act} {B : Nat} {s : St} {Q : Exit → Act → World → Prop}

def noCallS : CallF := fun _ _ _ => none
/-- Making a block at a number that is kept. -/
theorem float_makes {o : Oper} {io : IOp} {ev : Opd → AV} {G : Heap} {id : Nat} {v : AV} {k : Blk} (hc : cOp P o.type o.op = some io) (hbad : ∀ b, bad b → b < B) (hR : HRel w bad ρ B G) (hB : B ≤ w.heap.size)
    (hO : OpsOk w bad (dead G) ρ a ev o.op.operands.toList) (hev : ∀ x, ev (.v x) = x) (hmk : mkOp io = true) (hv : aop noCallS ev (List.replicate id none) io = some (v, List.replicate id none ++ [some k])) : Makes P w bad (dead G) ρ a o v id k := by
  have hn : ∀ i b, hget (List.replicate id (none : Option Blk)) i ≠ some b := by
    intro i b h
    have := (hget_lt h).1
    rw [List.getElem?_replicate] at this
    split at this <;> cases this
  have hcall : PCallOK P noCallS := by intro g args H v H' h; cases h
  have h1 : fullOp io = false := by cases io <;> first | rfl | (cases hmk; done)
  have h2 : storeOp io = false := by cases io <;> first | rfl | (cases hmk; done)
  have h3 : isCall io = false := by cases io <;> first | rfl | (cases hmk; done)
  rcases op_drawn (ev := ev) hc hcall h1 hbad hR hB hO (fun i b h => absurd h (hn i b)) (fun i b h => absurd h (hn i b)) (fun i _ b h _ => absurd h (hn i b)) (fun i _ => by
      cases h : hget (List.replicate id (none : Option Blk)) i with
      | none => rfl
      | some b => exact absurd h (hn i b)) hev hv with ⟨_, h, _⟩ | ⟨z, hm, hH, _⟩ | ⟨_, _, _, _, _, _, _, _, _, _, hs, _⟩ | ⟨_, hca, _⟩
  · have := congrArg List.length h; simp at this
  · have := List.append_cancel_left hH
    simp only [List.cons.injEq, Option.some.injEq, and_true] at this
    subst this
    simpa using hm
  · rw [h2] at hs; cases hs
  · rw [h3] at hca; cases hca
theorem make_aop {io : IOp} {ev : Opd → AV} {id : Nat} {v : AV} {k : Blk} (h : makeAt ev id io = some (v, k)) : mkOp io = true ∧ aop noCallS ev (List.replicate id none) io = some (v, List.replicate id none ++ [some k]) := by
  cases io <;> simp only [makeAt] at h <;> (try (cases h; done))
  · split at h <;> (try (cases h; done))
    rename_i ho
    cases h
    simp [aop, ho, mkOp]
  · split at h <;> (try (cases h; done))
    rename_i els he
    cases h
    simp [aop, he, mkOp]

theorem s_step (G : GS P call base ops l ps f) {H0 : Heap} (h00 : (f 0).H = H0 ++ preH l) (hb0 : base = H0.length) (hcall : CallOK P call) (hbad : ∀ b, bad b → b < B) {L : Nat → Prop} {k x : Nat} (he : k < ops.size) (hk : ¬ L k) (hready : ∀ m, (ps.getD k 0).testBit m = true → L m)
    (hclosed : ∀ m, L m → ∀ i, (ps.getD m 0).testBit i = true → L i) (h : Sim w0 D0 ρ0 bad B ρ s a w) (I : InvX G L ρ0 ρ s x) {K : Act → World → Prop}
    (hK : ∀ a' w' ρ' s' x', Sim w0 D0 ρ0 bad B ρ' s' a' w' → InvX G (fun m => L m ∨ m = k) ρ0 ρ' s' x' → K a' w') : wpOp P ops Q k K a w := by
  obtain ⟨o, so, e1, e2, e3⟩ := G.at_ k he
  obtain ⟨hop, hdst⟩ := cOper_op e3
  have ordL : ∀ m, m ≠ k → Ord ps m k → (m < k ↔ L m) := by
    intro m hmk ho
    constructor
    · intro hlt; exact hready m (ho.1 hlt)
    · intro hl
      rcases Nat.lt_or_ge m k with hlt | hge
      · exact hlt
      · exact absurd (hclosed m hl k (ho.2 (by omega))) hk
  have hord : ∀ (m : Nat) (om : Oper) (t : Nat), m ≠ k → ops[m]? = some om → om.dst = some t → o.dst = some t → (m < k ↔ L m) := fun m om t h1 h2 h3 h4 => ordL m h1 (G.slots m k om o t h1 h2 e1 h3 (.inr h4))
  have hslot : ∀ t, t ∈ o.looksAt ops → s.env.getD t .undef = (f k).env.getD t .undef := by
    intro t ht
    obtain ⟨c, h2, h3, h4⟩ := I.env t
    rw [h3]
    have keep : ∀ y z : Nat, (∀ m, (y ≤ m ∧ m < z) → m < ops.size ∧ ∀ om, ops[m]? = some om → om.dst ≠ some t) → y ≤ z → (f y).env.getD t .undef = (f z).env.getD t .undef := by
      intro y z hno hyz
      induction z, hyz using le_ind with
      | base => rfl
      | succ z hz ih =>
        rw [ih fun m hm => hno m (by omega)]
        obtain ⟨hzs, hno'⟩ := hno z (by omega)
        obtain ⟨oz, soz, q1, q2, q3⟩ := G.at_ z hzs
        have hd := (cOper_op q3).2
        rcases G.ts.step z soz q2 with ⟨_, v, H', _, he'⟩ | ⟨_, he'⟩ <;> rw [he'] <;> simp only <;> rw [put_getD_ne (by rw [hd]; exact hno' oz q1)]
    have bad : ∀ m, (c ≤ m ∧ m < k ∨ k ≤ m ∧ m < c) → m < ops.size ∧ ∀ om, ops[m]? = some om → om.dst ≠ some t := by
      intro m hm
      refine ⟨by omega, fun om hom hd => ?_⟩
      have h5 := h4 m om hom hd
      by_cases hmk : m = k
      · subst hmk
        rcases hm with ⟨q1, q2⟩ | ⟨q1, q2⟩
        · omega
        · exact hk (h5.mp q2)
      · have h6 := ordL m hmk (G.slots m k om o t hmk hom e1 hd (.inl ht))
        rcases hm with ⟨q1, q2⟩ | ⟨q1, q2⟩
        · have := h5.mpr (h6.mp q2); omega
        · have := h6.mpr (h5.mp q2); omega
    rcases Nat.le_total c k with hl | hl
    · exact keep c k (fun m hm => bad m (.inl hm)) hl
    · exact (keep k c (fun m hm => bad m (.inr hm)) hl).symm
  have hwant : want s.env so.op.guard = want (f k).env so.op.guard := want_congr e3 hslot
  have hOf : ∀ {w1 : World} {D1 : Nat → Prop} {r0 r1 : Rho}, Sim w1 D1 r0 bad B r1 s a w → OpsOk w bad (dead s.H) r1 a (evO (f k).env) o.op.operands.toList := by
    intro w1 D1 r0 r1 h y hy z hz
    have h1 := evO_rep h o.op.operands.toList y hy z hz
    have : evO (f k).env z = evO s.env z := by
      cases z with
      | v _ => rfl
      | t t =>
        have hxt : y = .tmp t := by
          cases y with
          | tmp t' => simp [cOpd] at hz; rw [hz]
          | const u => cases hu : cv u <;> simp [cOpd, hu] at hz
          | global g => simp [cOpd] at hz
          | func g => simp [cOpd] at hz
        subst hxt
        exact (hslot t (by simp only [Oper.looksAt, List.mem_append, List.mem_filterMap]; exact .inl ⟨.tmp t, hy, rfl⟩)).symm
    rw [this]; exact h1
  have hO := hOf h
  -- an order that is heavy comes when all that is heavy ahead of it is done
  have hcut : hv so → ∀ (m : Nat) (b : SOp), l[m]? = some b → hv b → (m < k ↔ L m) := by
    intro hh m b hb hhb
    by_cases hmk : m = k
    · subst hmk; simp [hk]
    · exact ordL m hmk (G.heavy m k b so hmk hb e2 hhb hh)
  have hcut' : hv so → ∀ (m : Nat) (b : SOp), l[m]? = some b → hv b → (m < k + 1 ↔ (L m ∨ m = k)) := by
    intro hh m b hb hhb
    rw [← hcut hh m b hb hhb]; omega
  have hpre := fun (m : Nat) (b : SOp) (j : Nat) (hb : l[m]? = some b) (hj : b.slot = some j) => G.pre h00 hb0 hb hj
  have hmkpre : ∀ (b : SOp), kindOk b → mkF b → preB b = rjunk := by
    rintro b hkd ⟨_, hal⟩
    rcases hkd with ⟨e, he', _⟩ | ⟨e, y, he', _⟩ | ⟨e, n, q, he', _⟩
    · rw [he'] at hal; cases hal
    · unfold preB; rw [he']
    · unfold preB; rw [he']
  unfold wpOp
  rw [e1]
  simp only
  rcases G.ts.step k so e2 with ⟨hw, v, H', hvv, e5⟩ | ⟨hw, e5⟩
  · rw [want_spec e3 h (hwant.trans hw), if_pos rfl]
    have hput : (f (k + 1)).env = put (f k).env o.dst v := by rw [e5, ← hdst]
    have hHk : (f (k + 1)).H = H' := by rw [e5]
    have henv := env_put I he e1 hput hord
    have hlenE : (put s.env o.dst v).length = (f 0).env.length := by rw [put_length]; exact I.len
    have made1 : ∀ (m : Nat) (b : SOp) (j : Nat), l[m]? = some b → b.slot = some j → mkF b → ∃ kk, (f (m + 1)).H[base + j]? = some (some kk) ∧ kk ≠ rjunk ∧ ∃ vk, makeAt (evO (f m).env) (base + j) b.op.op = some (vk, kk) := by
      intro m b j hb hj hmk
      have h2 := hpre m b j hb hj m (Nat.le_refl _)
      rcases G.ts.step m b hb with ⟨_, v', H'', hs', he'⟩ | ⟨hw', _⟩
      · simp only [stepS, hj, hmk.2] at hs'
        split at hs' <;> (try (cases hs'; done))
        rename_i vk kk hmke
        cases hs'
        have hlt : base + j < (f m).H.length := (List.getElem?_eq_some_iff.mp h2).1
        exact ⟨kk, by rw [he']; simp only [List.getElem?_set_self hlt], make_not (G.slot m b j hb hj).2.1 hmke, _, hmke⟩
      · rw [(G.slot m b j hb hj).1] at hw'; cases hw'
    -- names of an operation in no order with a block's making
    have nameNo : ∀ (m : Nat) (b : SOp) (j : Nat), l[m]? = some b → b.slot = some j → mkF b → m ≠ k → ¬ Ord ps m k → ∀ y ∈ namesOf (evO (f k).env) so.op.op, ∀ id ∈ idsOf y, id ≠ base + j := by
      rintro m b j hb hj hmk hne hno y hy id hid rfl
      have h1 := G.names e2 hw hb (mkF_chg hmk (G.slot m b j hb hj).2.1) hne hno hy hid
      have h2 := hpre m b j hb hj m (Nat.le_refl _)
      rw [hmkpre b (G.slot m b j hb hj).2.1 hmk] at h2
      obtain ⟨kk, q1, q2, _⟩ := made1 m b j hb hj hmk
      rw [h2, q1] at h1
      simp only [Option.some.injEq] at h1
      exact q2 h1.symm
    by_cases hh : hv so
    · -- heavy
      have J := I.to (y := k) (by omega) (hcut hh)
      simp only [stepS, hh.2] at hvv
      -- memory agrees but where blocks are made in no order with it
      have agree : ∀ id, (∀ (m : Nat) (b : SOp) (j : Nat), l[m]? = some b → b.slot = some j → mkF b → ¬ Ord ps m k → m ≠ k → id ≠ base + j) → s.H[id]? = (f k).H[id]? := by
        intro id hid
        by_cases hex : ∃ (m : Nat) (b : SOp) (j : Nat), l[m]? = some b ∧ b.slot = some j ∧ mkF b ∧ id = base + j
        · obtain ⟨m, b, j, hb, hj, hmk, rfl⟩ := hex
          have hmk' : m ≠ k := by rintro rfl; rw [e2] at hb; cases hb; rw [hh.2] at hj; cases hj
          have hor : Ord ps m k := Classical.byContradiction fun hn => hid m b j hb hj hmk hn hmk' rfl
          have hml := ordL m hmk' hor
          by_cases hl : L m
          · rw [(J.b m b j hb hj hmk).1 hl, show max k (m + 1) = k by have := hml.mpr hl; omega]
          · rw [(J.b m b j hb hj hmk).2 hl, hpre m b j hb hj k (by have := mt hml.mp hl; omega), hmkpre b (G.slot m b j hb hj).2.1 hmk]
        · exact J.a id fun m b j hb hj hmk e => hex ⟨m, b, j, hb, hj, hmk, e⟩
      -- it steps over memory as_ it is
      obtain ⟨H2, hv2, hlen2, hsame, hunord⟩ : ∃ H2, aop call (evO (f k).env) s.H so.op.op = some (v, H2) ∧ H2.length = H'.length ∧ (∀ id, s.H[id]? = (f k).H[id]? → H2[id]? = H'[id]?) ∧
          ∀ (m : Nat) (b : SOp) (j : Nat), l[m]? = some b → b.slot = some j → mkF b → m ≠ k → ¬ Ord ps m k → H2[base + j]? = s.H[base + j]? ∧ H'[base + j]? = (f k).H[base + j]? := by
        cases hsa : stApp so.op.op with
        | false =>
          have : s.H = (f k).H := List.ext_getElem? fun id => agree id fun m b j hb hj hmk hno hmk' => absurd (G.mkcall m k b so hmk' hb e2 hmk hh hsa) hno
          refine ⟨H', by rw [this]; exact hvv, rfl, fun _ _ => rfl, fun m b j hb hj hmk hmk' hno => absurd (G.mkcall m k b so hmk' hb e2 hmk hh hsa) hno⟩
        | true =>
          obtain ⟨u, Z, q1, q2, q3⟩ := stApp_op hsa hvv
          have hln : s.H.length = (f k).H.length := J.hlen
          have hn : ∀ y ∈ namesOf (evO (f k).env) so.op.op, ∀ id ∈ idsOf y, (f k).H[id]? = s.H[id]? := fun y hy id hid => (agree id fun m b j hb hj hmk hno hmk' => nameNo m b j hb hj hmk hmk' hno y hy id hid).symm
          refine ⟨updH s.H u ++ Z, q3 s.H hln hn, by rw [q1]; simp [updH_len, hln], fun id hid => ?_, fun m b j hb hj hmk hmk' hno => ?_⟩
          · rw [q1]
            rcases Nat.lt_or_ge id (f k).H.length with hlt | hge
            · rw [List.getElem?_append_left (by rw [updH_len, hln]; exact hlt), List.getElem?_append_left (by rw [updH_len]; exact hlt)]
              by_cases hu : ∃ x, u = some (id, x)
              · obtain ⟨x', rfl⟩ := hu
                exact updH_hit hln
              · rw [updH_at fun x' e => hu ⟨x', e⟩, updH_at fun x' e => hu ⟨x', e⟩]; exact hid
            · rw [List.getElem?_append_right (by rw [updH_len, hln]; exact hge), List.getElem?_append_right (by rw [updH_len]; exact hge), updH_len, updH_len, hln]
          · have hu : ∀ x', u ≠ some (base + j, x') := by
              rintro x' rfl
              obtain ⟨y, hy, hid⟩ := q2 _ _ rfl
              exact nameNo m b j hb hj hmk hmk' hno y hy _ hid rfl
            have hlt : base + j < (f k).H.length := by
              rcases Nat.lt_or_ge k m with hlt | hge
              · exact (List.getElem?_eq_some_iff.mp (hpre m b j hb hj k (by omega))).1
              · obtain ⟨kk, hkk, _⟩ := made1 m b j hb hj hmk
                have h1 := G.made hb hj (y := k) (by omega) (by omega) fun g c q1 q2 hc hhc => by
                  cases hx : (ps.getD g 0).testBit m with
                  | false => rfl
                  | true =>
                    have hor := G.heavy g k c so (by omega) hc e2 hhc hh
                    exact absurd ⟨fun _ => G.trans m g k he (hor.1 q2) hx, fun h' => by omega⟩ hno
                rw [hkk] at h1
                exact (List.getElem?_eq_some_iff.mp h1.symm).1
            rw [q1]
            rw [List.getElem?_append_left (by rw [updH_len, hln]; exact hlt), List.getElem?_append_left (by rw [updH_len]; exact hlt), updH_at hu, updH_at hu]
            exact ⟨rfl, rfl⟩
      refine .inl (op_stepE (fun _ => rfl) hO hop hcall hbad h.rebase hv2 fun a' w' ρ' h' => hK a' w' ρ' ⟨put s.env o.dst v, H2⟩ (k + 1) (h.back h') ?_)
      have hb2 : ∀ (m : Nat) (b : SOp) (j : Nat), l[m]? = some b → b.slot = some j → mkF b → ((L m ∨ m = k) → H2[base + j]? = (f (max (k + 1) (m + 1))).H[base + j]?) ∧ (¬ (L m ∨ m = k) → H2[base + j]? = some (some rjunk)) := by
        intro m b j hb hj hmk
        have hmk' : m ≠ k := by rintro rfl; rw [e2] at hb; cases hb; rw [hh.2] at hj; cases hj
        by_cases hor : Ord ps m k
        · have hml := ordL m hmk' hor
          have hag : s.H[base + j]? = (f k).H[base + j]? := agree _ fun m' b' j' hb' hj' _ hno _ e => by
            have : j = j' := by omega
            subst this
            have := G.inj m m' b b' _ hb hb' hj hj'
            subst this
            exact hno hor
          have h1 := hsame _ hag
          rw [← hHk] at h1
          refine ⟨fun hl => ?_, fun hl => ?_⟩
          · have := hml.mpr (hl.resolve_right hmk')
            rw [h1, show max (k + 1) (m + 1) = k + 1 by omega]
          · have : k < m := by
              rcases Nat.lt_or_ge m k with h' | h'
              · exact absurd (.inl (hml.mp h')) hl
              · omega
            rw [h1, hpre m b j hb hj (k + 1) (by omega), hmkpre b (G.slot m b j hb hj).2.1 hmk]
        · obtain ⟨h1, h2⟩ := hunord m b j hb hj hmk hmk' hor
          refine ⟨fun hl => ?_, fun hl => ?_⟩
          · have hl := hl.resolve_right hmk'
            rw [h1, (J.b m b j hb hj hmk).1 hl]
            rcases Nat.lt_or_ge m k with h' | h'
            · rw [show max k (m + 1) = k by omega, show max (k + 1) (m + 1) = k + 1 by omega, hHk, h2]
            · rw [show max k (m + 1) = m + 1 by omega, show max (k + 1) (m + 1) = m + 1 by omega]
          · rw [h1]; exact (J.b m b j hb hj hmk).2 fun hl' => hl (.inl hl')
      refine ⟨hlenE, henv, by omega, hcut' hh, by rw [hHk]; exact hlen2, fun id hid => by rw [hHk]; exact hsame id (J.a id hid), hb2, fun m b j hb hj hl => ?_, I.d⟩
      have hnl : ¬ L m := fun hl' => hl (.inl hl')
      have hmk' : m ≠ k := fun e => hl (.inr e)
      refine res_stays h' (I.c m b j hb hj hnl) ?_
      simp only
      by_cases hmk : mkF b
      · rw [(hb2 m b j hb hj hmk).2 hl]; simp
      · have hag : s.H[base + j]? = (f k).H[base + j]? := J.a _ fun m' b' j' hb' hj' hm' e => by
          have : j = j' := by omega
          subst this
          have := G.inj m m' b b' _ hb hb' hj hj'
          subst this
          rw [hb] at hb'; cases hb'
          exact hmk hm'
        rw [hsame _ hag, ← hHk, ← G.keeps e2 hh hb hj (by
          cases hx : (ps.getD k 0).testBit m with
          | false => rfl
          | true => exact absurd (hready m hx) hnl), ← hag]
        exact res_alive h (I.c m b j hb hj hnl)
    · cases hsl : so.slot with
      | none =>
        -- light
        simp only [stepS, hsl] at hvv
        have hlt : lightOp so.op.op = true := by
          cases hl : lightOp so.op.op with
          | true => rfl
          | false => exact absurd ⟨by simp [chgS, hsl, hl], hsl⟩ hh
        obtain ⟨rfl, hG⟩ := light_op hlt hvv
        have between : ∀ (y : Nat) (id : Nat), (∃ z ∈ namesOf (evO (f k).env) so.op.op, id ∈ idsOf z) → (∀ g, (y ≤ g ∧ g < k) → x ≤ g) → (∀ g, (k ≤ g ∧ g < y) → g < x) → y ≤ ops.size →
            (∀ (g : Nat) (c : SOp) (j' : Nat), (y ≤ g ∧ g < k ∨ k ≤ g ∧ g < y) → l[g]? = some c → c.slot = some j' → mkF c → id ≠ base + j') → (f y).H[id]? = (f k).H[id]? := by
          rintro y id ⟨z, hz, hid⟩ hlo hhi hyn hno
          refine path2 fun g hg => ?_
          obtain ⟨c, hc⟩ := G.get (k := g) (by omega)
          by_cases hhc : hv c
          · have hgk : g ≠ k := by rintro rfl; rw [e2] at hc; cases hc; exact hh hhc
            have hxg := I.hx g c hc hhc
            have hnor : ¬ Ord ps g k := by
              intro hor
              have := ordL g hgk hor
              rcases hg with hg | hg
              · have h1 := hlo g hg
                have := hxg.mpr (this.mp hg.2); omega
              · have h1 := hhi g hg
                have := this.mpr (hxg.mp h1); omega
            exact G.names e2 hw hc hhc.1 hgk hnor hz hid
          · exact (G.soft hc hhc).2 _ fun j' hj' hm' => hno g c j' hg hc hj' hm'
        have hn : ∀ y ∈ namesOf (evO (f k).env) so.op.op, ∀ id ∈ idsOf y, (f k).H[id]? = s.H[id]? := by
          intro y hy id hid
          by_cases hex : ∃ (m : Nat) (b : SOp) (j : Nat), l[m]? = some b ∧ b.slot = some j ∧ mkF b ∧ id = base + j
          · obtain ⟨m, b, j, hb, hj, hmk, rfl⟩ := hex
            have hmk' : m ≠ k := by rintro rfl; rw [e2] at hb; cases hb; rw [hsl] at hj; cases hj
            have hor : Ord ps m k := Classical.byContradiction fun hno => nameNo m b j hb hj hmk hmk' hno y hy _ hid rfl
            have hml := ordL m hmk' hor
            by_cases hl : L m
            · have hmk2 := hml.mpr hl
              rw [(I.b m b j hb hj hmk).1 hl]
              have xl := I.xle
              refine (between _ _ ⟨y, hy, hid⟩ (fun g hg => by omega) (fun g hg => by omega) (by omega) fun g c j' hg hc hj' _ e => ?_).symm
              have : j = j' := by omega
              subst this
              have := G.inj m g b c _ hb hc hj hj'
              omega
            · rw [(I.b m b j hb hj hmk).2 hl, hpre m b j hb hj k (by have := mt hml.mp hl; omega), hmkpre b (G.slot m b j hb hj).2.1 hmk]
          · rw [I.a id fun m b j hb hj hmk e => hex ⟨m, b, j, hb, hj, hmk, e⟩]
            exact (between x id ⟨y, hy, hid⟩ (fun g hg => hg.1) (fun g hg => hg.2) I.xle fun g c j' _ hc hj' hm' e => hex ⟨g, c, j', hc, hj', hm', e⟩).symm
        refine .inl (op_stepE (fun _ => rfl) hO hop hcall hbad h.rebase (hG s.H hn) fun a' w' ρ' h' => hK a' w' ρ' ⟨put s.env o.dst v, s.H⟩ x (h.back h') ?_)
        have nek : ∀ (m : Nat) (b : SOp) (j : Nat), l[m]? = some b → b.slot = some j → m ≠ k := by rintro m b j hb hj rfl; rw [e2] at hb; cases hb; rw [hsl] at hj; cases hj
        refine ⟨hlenE, henv, I.xle, fun m b hb hhb => ?_, I.hlen, I.a, fun m b j hb hj hmk => ?_, fun m b j hb hj hl => ?_, I.d⟩
        · rw [I.hx m b hb hhb]
          have : m ≠ k := by rintro rfl; rw [e2] at hb; cases hb; exact hh hhb
          simp [this]
        · have := nek m b j hb hj
          refine ⟨fun hl => (I.b m b j hb hj hmk).1 (hl.resolve_right this), fun hl => (I.b m b j hb hj hmk).2 fun hl' => hl (.inl hl')⟩
        · have hr := I.c m b j hb hj fun hl' => hl (.inl hl')
          exact res_stays h' hr (res_alive h hr)
      | some j =>
        have hkd := (G.slot k so j e2 hsl).2.1
        have hres := I.c k so j e2 hsl hk
        have hno0 := I.d k so j e2 hsl
        have hs1 := h.drop hres hno0
        obtain ⟨zz, hzz, _⟩ := h.heap.res _ hres
        have hlts : base + j < s.H.length := (List.getElem?_eq_some_iff.mp hzz).1
        have nej : ∀ (m : Nat) (b : SOp) (j' : Nat), m ≠ k → l[m]? = some b → b.slot = some j' → base + j ≠ base + j' := by
          intro m b j' hmk hb hj' e
          have : j = j' := by omega
          subst this
          exact hmk (G.inj m k b so _ hb e2 hj' hsl)
        have fin : ∀ z : Blk, Makes P w bad (dead s.H) (fun i => if i = base + j then .no else ρ i) a o v (base + j) z → (mkF so → some (some z) = (f (max x (k + 1))).H[base + j]?) → (¬ mkF so → s.H[base + j]? = some (some z)) → o.wp P a w K Q := by
          intro z hm hzk hzs
          obtain ⟨cv, w', cur, fz, cap, hr, h1, h2, h3, ⟨h4, h5, h6⟩, h7, h8, h9, h10, h11, h12, h13⟩ := hm
          obtain ⟨ρ', hρ', st, hR⟩ := alloc_upd (H' := s.H.set (base + j) (some z)) hs1.heap hs1.low (by simp) (List.getElem?_set_self hlts) (fun i hi _ => List.getElem?_set_ne (Ne.symm hi)) (fun i hi => by
            have : i ≠ base + j := by rintro rfl; rw [hzz] at hi; cases hi
            rw [List.getElem?_set_ne (Ne.symm this)]; exact hi) h1 h2 h3 h4 h5 h6 h7 h8 h9 h10 h11 h12
          unfold Oper.wp
          rw [hr]
          refine hK _ _ ρ' ⟨put s.env o.dst v, s.H.set (base + j) (some z)⟩ x (put_sim (v := v) o.dst hs1 st hR ?_) ⟨hlenE, henv, I.xle, fun m b hb hhb => ?_, ?_, fun id hid => ?_, fun m b j' hb hj' hmk => ?_, fun m b j' hb hj' hl => ?_, I.d⟩
          · rcases h13 with ⟨rfl, rfl⟩ | ⟨n, c, rfl, q1, q2, rfl⟩
            · have := Rep.ptr (w := w') (bad := bad) (D := dead (s.H.set (base + j) (some z))) (ρ := ρ') (id := base + j) (i := 0) (j := 0) (b := w.heap.size) (es := z.e.es) (cap := cap) (by subst hρ'; simp)
              simpa using this
            · have := Rep.slc (w := w') (bad := bad) (D := dead (s.H.set (base + j) (some z))) (ρ := ρ') (id := base + j) (o := 0) (n := n) (c := c) (b := w.heap.size) (es := z.e.es) (cap := cap) (by subst hρ'; simp) (by omega) q1
              simpa using this
          · rw [I.hx m b hb hhb]
            have : m ≠ k := by rintro rfl; rw [e2] at hb; cases hb; exact hh hhb
            simp [this]
          · simp only [List.length_set]; exact I.hlen
          · simp only
            by_cases hmk : mkF so
            · rw [List.getElem?_set_ne (Ne.symm (hid k so j e2 hsl hmk))]; exact I.a id hid
            · by_cases hi : base + j = id
              · subst hi
                rw [List.getElem?_set_self hlts, ← I.a _ hid, hzs hmk]
              · rw [List.getElem?_set_ne hi]; exact I.a id hid
          · simp only
            by_cases hmk' : m = k
            · subst hmk'
              rw [e2] at hb; cases hb
              rw [hsl] at hj'; cases hj'
              refine ⟨fun _ => by rw [List.getElem?_set_self hlts]; exact hzk hmk, fun hl => absurd (.inr rfl) hl⟩
            · rw [List.getElem?_set_ne (nej m b j' hmk' hb hj')]
              exact ⟨fun hl => (I.b m b j' hb hj' hmk).1 (hl.resolve_right hmk'), fun hl => (I.b m b j' hb hj' hmk).2 fun hl' => hl (.inl hl')⟩
          · have hmk' : m ≠ k := fun e => hl (.inr e)
            have hne := Ne.symm (nej m b j' hmk' hb hj')
            subst hρ'
            simp only [hne, if_false]
            exact I.c m b j' hb hj' fun hl' => hl (.inl hl')
        have noP : ∀ (g : Nat) (c : SOp), g < x → l[g]? = some c → hv c → (ps.getD g 0).testBit k = false := by
          intro g c hg hc hhc
          cases hx : (ps.getD g 0).testBit k with
          | false => rfl
          | true => exact absurd (hclosed g ((I.hx g c hc hhc).mp hg) k hx) hk
        simp only [stepS, hsl] at hvv
        split at hvv
        · rename_i hal
          obtain ⟨rfl, rfl⟩ : _ = v ∧ _ = H' := by simpa using hvv
          obtain ⟨e, hee, hes⟩ : ∃ e, so.op.op = .alloc e ∧ e.es ≠ 0 := by
            rcases hkd with hx | ⟨e, y, he', _⟩ | ⟨e, n, q, he', _⟩
            · exact hx
            · rw [he'] at hal; cases hal
            · rw [he'] at hal; cases hal
          refine .inl (fin ⟨e, [e.zero]⟩ (float_makes hop hbad hs1.heap hs1.low (hOf hs1) (fun _ => rfl) (by rw [hee]; rfl) (by rw [hee]; simp [aop])) (fun hm => by rw [hm.2] at hal; cases hal) fun hnm => ?_)
          have hpb : preB so = ⟨e, [e.zero]⟩ := by unfold preB; rw [hee]
          rw [I.a _ fun m b j' hb hj' hm' e' => hnm (by
            have : j = j' := by omega
            subst this
            have := G.inj k m so b _ e2 hb hsl hj'
            subst this
            rw [e2] at hb; cases hb
            exact hm'), ← hpb]
          rcases Nat.lt_or_ge k x with hlt | hge
          · have h1 := path (f := f) (id := base + j) (y := k) (z := x) (fun g hg1 hg2 => by
              obtain ⟨c, hc⟩ := G.get (k := g) (by have := I.xle; omega)
              by_cases hhc : hv c
              · exact G.keeps hc hhc e2 hsl (noP g c hg2 hc hhc)
              · refine (G.soft hc hhc).2 _ fun j' hj' hm' e' => ?_
                have : j = j' := by omega
                subst this
                have := G.inj k g so c _ e2 hc hsl hj'
                subst this
                rw [e2] at hc; cases hc
                exact hnm hm') (by omega)
            rw [← h1]
            exact hpre k so j e2 hsl k (Nat.le_refl _)
          · exact hpre k so j e2 hsl x hge
        · rename_i hal
          split at hvv <;> (try (cases hvv; done))
          rename_i vk kk hmke
          obtain ⟨rfl, rfl⟩ : _ = v ∧ _ = H' := by simpa using hvv
          obtain ⟨hm1, hm2⟩ := make_aop hmke
          have hmkF : mkF so := ⟨by rw [hsl]; simp, hal⟩
          refine .inl (fin kk (float_makes hop hbad hs1.heap hs1.low (hOf hs1) (fun _ => rfl) hm1 hm2) (fun _ => ?_) fun hnm => absurd hmkF hnm)
          have hlt : base + j < (f k).H.length := (List.getElem?_eq_some_iff.mp (hpre k so j e2 hsl k (Nat.le_refl _))).1
          have h1 : (f (k + 1)).H[base + j]? = some (some kk) := by rw [hHk, List.getElem?_set_self hlt]
          rw [← h1]
          rcases Nat.lt_or_ge (k + 1) x with hlt' | hge
          · rw [show max x (k + 1) = x by omega]
            exact G.made e2 hsl (by omega) I.xle fun g c _ hg2 hc hhc => noP g c hg2 hc hhc
          · rw [show max x (k + 1) = k + 1 by omega]
  · rw [want_spec e3 h (hwant.trans hw), if_neg (by simp)]
    have hput : (f (k + 1)).env = put (f k).env o.dst (.tup []) := by rw [e5, ← hdst]
    have henv := env_put I he e1 hput hord
    have hlenE : (put s.env o.dst (.tup [])).length = (f 0).env.length := by rw [put_length]; exact I.len
    have hHk : (f (k + 1)).H = (f k).H := by rw [e5]
    have hsl : so.slot = none := by
      cases hx : so.slot with
      | none => rfl
      | some j => rw [(G.slot k so j e2 hx).1] at hw; cases hw
    have nek : ∀ (m : Nat) (b : SOp) (j : Nat), l[m]? = some b → b.slot = some j → m ≠ k := by rintro m b j hb hj rfl; rw [e2] at hb; cases hb; rw [hsl] at hj; cases hj
    by_cases hh : hv so
    · have J := I.to (y := k) (by omega) (hcut hh)
      refine hK _ _ ρ _ (k + 1) (skip_sim o.dst h) ⟨hlenE, henv, by omega, hcut' hh, by rw [hHk]; exact J.hlen, fun id hid => by rw [hHk]; exact J.a id hid, fun m b j hb hj hmk => ?_, fun m b j hb hj hl => I.c m b j hb hj fun hl' => hl (.inl hl'), I.d⟩
      refine ⟨fun hl => ?_, fun hl => (J.b m b j hb hj hmk).2 fun hl' => hl (.inl hl')⟩
      rw [(J.b m b j hb hj hmk).1 (hl.resolve_right (nek m b j hb hj))]
      rcases Nat.lt_or_ge m k with h' | h'
      · rw [show max k (m + 1) = k by omega, show max (k + 1) (m + 1) = k + 1 by omega, hHk]
      · have := nek m b j hb hj
        rw [show max k (m + 1) = m + 1 by omega, show max (k + 1) (m + 1) = m + 1 by omega]
    · refine hK _ _ ρ _ x (skip_sim o.dst h) ⟨hlenE, henv, I.xle, fun m b hb hhb => ?_, I.hlen, I.a, fun m b j hb hj hmk => ?_, fun m b j hb hj hl => I.c m b j hb hj fun hl' => hl (.inl hl'), I.d⟩
      · rw [I.hx m b hb hhb]
        have : m ≠ k := by rintro rfl; rw [e2] at hb; cases hb; exact hh hhb
        simp [this]
      · exact ⟨fun hl => (I.b m b j hb hj hmk).1 (hl.resolve_right (nek m b j hb hj)), fun hl => (I.b m b j hb hj hmk).2 fun hl' => hl (.inl hl')⟩
end
end Go.Proofs.Ytdceaeifcniabaa.AE

namespace Go.Proofs.Ytdceaeifcniabaa.AE
set_option linter.unusedVariables false
set_option linter.unusedSimpArgs false
set_option linter.constructorNameAsVariable false
open Go Go.RowKit

theorem preH_es : ∀ (l : List SOp) (c : Nat), slotsOk l c = true → ∀ i, i < (preH l).length → ∃ k : Blk, (preH l)[i]? = some (some k) ∧ k.e.es ≠ 0
  | [], _, _, i, h => by simp [preH] at h
  | o :: l, c, hs, i, h => by
    simp only [slotsOk] at hs
    cases hsl : o.slot with
    | none =>
      rw [hsl] at hs
      simp only [preH, hsl] at h ⊢
      exact preH_es l c hs i h
    | some j =>
      rw [hsl] at hs
      simp only [Bool.and_eq_true, beq_iff_eq] at hs
      obtain ⟨⟨⟨_, _⟩, h3⟩, h4⟩ := hs
      simp only [preH, hsl] at h ⊢
      cases i with
      | zero =>
        cases ho : o.op.op <;> rw [ho] at h3 <;> simp only [Bool.false_eq_true] at h3 <;> simp only [List.getElem?_cons_zero, Option.some.injEq]
        case alloc e => exact ⟨_, rfl, by simpa using h3⟩
        case box e x => exact ⟨_, rfl, by simp [rjunk]⟩
        case mkrow e n q => exact ⟨_, rfl, by simp [rjunk]⟩
      | succ i =>
        simp only [List.getElem?_cons_succ]
        exact preH_es l _ h4 i (by simpa using h)

section
variable {P : Program} {call : CallF} {base : Nat} {ops : Array Oper} {l : List SOp} {ps : List Nat} {f : Nat → St}
variable {w w0 : World} {bad D0 : Nat → Prop} {ρ ρ0 : Rho} {a : Act} {B : Nat} {s : St} {Q : Exit → Act → World → Prop}

theorem inv_end {G : GS P call base ops l ps f} {L : Nat → Prop} {x : Nat} (I : InvX G L ρ0 ρ s x) (hL : ∀ m, m < ops.size → L m) : s = f ops.size := by
  have J := I.to (y := ops.size) (Nat.le_refl _) fun m b hb _ => ⟨fun h => hL m h, fun _ => G.lt hb⟩
  have hH : s.H = (f ops.size).H := by
    refine List.ext_getElem? fun id => ?_
    by_cases hex : ∃ (m : Nat) (b : SOp) (j : Nat), l[m]? = some b ∧ b.slot = some j ∧ mkF b ∧ id = base + j
    · obtain ⟨m, b, j, hb, hj, hmk, rfl⟩ := hex
      have hlt := G.lt hb
      rw [(J.b m b j hb hj hmk).1 (hL m hlt), show max ops.size (m + 1) = ops.size by omega]
    · exact J.a id fun m b j hb hj hmk e => hex ⟨m, b, j, hb, hj, hmk, e⟩
  have hE : s.env = (f ops.size).env := by
    refine List.ext_getElem? fun t => ?_
    have hlen : s.env.length = (f ops.size).env.length := by rw [I.len, G.lenE (Nat.le_refl _)]
    obtain ⟨c, h2, h3, h4⟩ := I.env t
    have keep : ∀ z, c ≤ z → z ≤ ops.size → (f c).env.getD t .undef = (f z).env.getD t .undef := by
      intro z hz
      induction z, hz using le_ind with
      | base => intro _; rfl
      | succ z hz ih =>
        intro hzn
        rw [ih (by omega)]
        obtain ⟨oz, soz, q1, q2, q3⟩ := G.at_ z (by omega)
        have hd := (cOper_op q3).2
        have hne : oz.dst ≠ some t := fun e => by have := (h4 z oz q1 e).mpr (hL z (by omega)); omega
        rcases G.ts.step z soz q2 with ⟨_, v, H', _, he'⟩ | ⟨_, he'⟩ <;> rw [he'] <;> simp only <;> rw [put_getD_ne (by rw [hd]; exact hne)]
    rw [keep ops.size h2 (Nat.le_refl _)] at h3
    simp only [List.getD_eq_getElem?_getD] at h3
    rcases Nat.lt_or_ge t s.env.length with hlt | hge
    · rw [List.getElem?_eq_getElem hlt, List.getElem?_eq_getElem (by omega)] at h3 ⊢
      simpa using h3
    · rw [List.getElem?_eq_none hge, List.getElem?_eq_none (by omega)]
  cases s; cases hf : f ops.size
  rw [hf] at hH hE
  simp only at hH hE
  rw [hH, hE]

theorem drawnS_main (G : GS P call base ops l (predsOf ops.toList []) f) {H0 : Heap} (h00 : (f 0).H = H0 ++ preH l) (hb0 : base = H0.length) (hcall : CallOK P call) (hbad : ∀ b, bad b → b < B) (hed : edgesOk ops = true) (hQ : ∀ a w ρ, Sim w0 D0 ρ0 bad B ρ (f ops.size) a w → Q .normal a w) :
    ∀ (fuel : Nat) (listed : Array Bool) (ρ : Rho) (s : St) (a : Act) (w : World) (x : Nat), listed.size = ops.size → open_ listed ≤ fuel →
      (∀ m, listed.getD m false = true → ∀ i, ((predsOf ops.toList []).getD m 0).testBit i = true → listed.getD i false = true) →
      Sim w0 D0 ρ0 bad B ρ s a w → InvX G (fun m => listed.getD m false = true) ρ0 ρ s x → wpAny P .any ops Q fuel listed a w := by
  intro fuel
  induction fuel with
  | zero =>
    intro listed ρ s a w x hls hop hcl h I
    have hall := open_zero (Nat.le_zero.mp hop)
    have hall2 : ∀ k, k < ops.size → listed.getD k false = true := by
      intro k hk
      have := hall k
      simpa [hls ▸ hk] using this
    refine ⟨?_, ?_⟩
    · cases hr : Region.ready .any ops listed with
      | nil => rfl
      | cons j l =>
        have hj : j ∈ Region.ready .any ops listed := by rw [hr]; simp
        have := (mem_ready.1 hj).1
        rw [hall j] at this; cases this
    · exact hQ _ _ ρ (inv_end I hall2 ▸ h)
  | succ fuel ih =>
    intro listed ρ s a w x hls hop hcl h I
    have hedge : ∀ (k : Nat) (o : Oper), ops[k]? = some o → ∀ x ∈ o.after, Region.binds .any x = true → x.on < k := by
      intro k o ho x hx hb
      have := List.all_eq_true.mp hed (o, k) (by rw [List.mem_zipIdx_iff_getElem?]; simpa using ho)
      have := List.all_eq_true.mp this x (by simpa using hx)
      simpa [hb] using this
    refine ⟨fun hnil => ?_, fun i hi => ?_⟩
    · have hall2 : ∀ k, k < ops.size → listed.getD k false = true := by
        intro k
        induction k using Nat.strongRecOn with
        | _ k ihk =>
          intro hk
          cases hx : listed.getD k false with
          | true => rfl
          | false =>
            exfalso
            have : k ∈ Region.ready .any ops listed := mem_ready.2 ⟨by simpa [hls ▸ hk] using hx, ops[k], by simp [hk], fun x hx hb => by
              have hlt := hedge k ops[k] (by simp [hk]) x hx hb
              exact ihk x.on hlt (by omega)⟩
            rw [hnil] at this
            simp at this
      exact hQ _ _ ρ (inv_end I hall2 ▸ h)
    · obtain ⟨hi0, o, ho, haft⟩ := mem_ready.1 hi
      have hlt : i < ops.size := (Array.getElem?_eq_some_iff.1 ho).1
      have hlt' : i < listed.size := hls ▸ hlt
      have hi1 : listed.getD i false = false := by simpa [hlt'] using hi0
      have hready : ∀ m, ((predsOf ops.toList []).getD i 0).testBit m = true → listed.getD m false = true := by
        intro m hm
        obtain ⟨x, h1, h2, h3⟩ := predsOf_bits ops.toList [] i m o (by simpa using ho) (by simpa using hm)
        have hl := haft x (by simpa using h1) h2
        rcases h3 with rfl | h3
        · exact hl
        · exact hcl x.on hl m h3
      have hop' : open_ (listed.setIfInBounds i true) ≤ fuel := by have := open_set hi0; omega
      have hcl' : ∀ m, (listed.setIfInBounds i true).getD m false = true → ∀ j, ((predsOf ops.toList []).getD m 0).testBit j = true → (listed.setIfInBounds i true).getD j false = true := by
        intro m hm j hj
        rw [getD_set hlt'] at hm ⊢
        rcases hm with hm | rfl
        · exact .inl (hcl m hm j hj)
        · exact .inl (hready j hj)
      have hfun : (fun m => listed.getD m false = true ∨ m = i) = fun m => (listed.setIfInBounds i true).getD m false = true := by
        funext m
        exact propext (getD_set hlt').symm
      refine s_step G h00 hb0 hcall hbad hlt (by simp [hi1]) hready hcl h I fun a' w' ρ' s' x' h' I' => ?_
      rw [hfun] at I'
      exact ih _ ρ' s' a' w' x' (by simpa using hls) hop' hcl' h' I'
end

theorem drawS_law {P : Program} {call : CallF} (hcall : CallOK P call) : DrawS P call := by
  intro ops ios id hc hd he hns hmo w w0 bad D0 ρ ρ0 a B s s' Q hbad h hr hq
  have hso : slotsOk (sopsOf ios (predsOf ops.toList [])) 0 = true := by
    simp only [drawSOk, Bool.and_eq_true] at hd
    exact hd.1.1.2
  obtain ⟨f, h0, h1, ht⟩ := ts_of hr
  have G := gs_of hc hd he ht
  have hsz := G.size
  generalize hl : sopsOf ios (predsOf ops.toList []) = l at *
  rw [hsz] at h1
  have h00 : (f 0).H = s.H ++ preH l := by rw [h0]
  refine wp_region_any hmo ?_
  have hnew : ∀ i, s.H.length ≤ i → ρ i = .no := by
    intro i hi
    cases hx : ρ i with
    | no => rfl
    | _ => exact absurd (lt_of_no h.heap (by rw [hx]; simp)) (by omega)
  have hpos : ∀ (m : Nat) (o : SOp) (j : Nat), l[m]? = some o → o.slot = some j → j < (preH l).length := fun m o j ho hj => (List.getElem?_eq_some_iff.mp (G.slot m o j ho hj).2.2).1
  let ρ2 : Rho := fun i => if s.H.length ≤ i ∧ i < s.H.length + (preH l).length then .res else ρ i
  have e2 : ∀ i, ρ i ≠ .no → ρ2 i = ρ i := fun i hi => if_neg fun hh => hi (hnew i hh.1)
  have hd' := h.draw
  have hst : Step { w with drawn := w.drawn + 1 } { w with drawn := w.drawn + 1 } (dead s.H) (dead (s.H ++ preH l)) ρ ρ2 := by
    refine ⟨Grow.refl _ _, ⟨fun b hb => ?_⟩, fun i hi => ?_, fun i hi => .inl (e2 i hi)⟩
    · obtain ⟨i, es, cap, hx⟩ := hb
      simp only [ρ2] at hx
      split at hx
      · cases hx
      · exact .inl ⟨i, es, cap, hx⟩
    · simp only [dead] at *
      rw [List.getElem?_append_left (List.getElem?_eq_some_iff.mp hi).1]; exact hi
  have hR : HRel { w with drawn := w.drawn + 1 } bad ρ2 B (s.H ++ preH l) := by
    refine ⟨fun i b es cap hx => ?_, fun i hx => ?_, fun i i' b es cap es' cap' hx hx' => ?_, fun i hx => ?_⟩
    · simp only [ρ2] at hx
      split at hx
      · cases hx
      · obtain ⟨k, hk, hb⟩ := hd'.heap.real i b es cap hx
        exact ⟨k, by rw [List.getElem?_append_left (List.getElem?_eq_some_iff.mp hk).1]; exact hk, hb.step hst rfl⟩
    · simp only [ρ2] at hx
      split at hx
      · cases hx
      · obtain ⟨k, hk, hb⟩ := hd'.heap.virt i hx
        exact ⟨k, by rw [List.getElem?_append_left (List.getElem?_eq_some_iff.mp hk).1]; exact hk, hb⟩
    · simp only [ρ2] at hx hx'
      split at hx
      · cases hx
      · split at hx'
        · cases hx'
        · exact hd'.heap.inj _ _ _ _ _ _ _ hx hx'
    · simp only [ρ2] at hx
      split at hx
      · rename_i hi
        obtain ⟨k, hk, hes⟩ := preH_es l 0 hso (i - s.H.length) (by omega)
        exact ⟨k, by rw [List.getElem?_append_right hi.1]; exact hk, hes⟩
      · obtain ⟨k, hk, hb⟩ := hd'.heap.res i hx
        exact ⟨k, by rw [List.getElem?_append_left (List.getElem?_eq_some_iff.mp hk).1]; exact hk, hb⟩
  have hsim : Sim w0 D0 ρ0 bad B ρ2 (f 0) a { w with drawn := w.drawn + 1 } := by
    rw [h0]
    exact ⟨hd'.defers, hd'.size, fun t ht => (hd'.env t ht).step hst, hR, hd'.low, hd'.st.trans hst⟩
  have hoff : ∀ k, (Array.replicate ops.size false).getD k false = false := by
    intro k
    rcases Nat.lt_or_ge k ops.size with h | h
    · simp [h]
    · simp [Array.getElem?_eq_none (xs := Array.replicate ops.size false) (by simpa using h)]
  have hI : InvX G (fun m => (Array.replicate ops.size false).getD m false = true) ρ0 ρ2 (f 0) 0 := by
    refine ⟨rfl, fun t => ⟨0, Nat.zero_le _, rfl, fun m o _ _ => by simp only [hoff]; simp⟩, Nat.zero_le _, fun m b _ _ => by simp only [hoff]; simp, rfl, fun _ _ => rfl, fun m b j hb hj hmk => ⟨fun hx => absurd hx (by rw [hoff]; simp), fun _ => ?_⟩, fun m b j hb hj _ => ?_, fun m b j hb hj => ?_⟩
    · rw [G.pre h00 rfl hb hj 0 (Nat.zero_le _)]
      have hkd := (G.slot m b j hb hj).2.1
      rcases hkd with ⟨e, he', _⟩ | ⟨e, y, he', _⟩ | ⟨e, n, q, he', _⟩
      · have := hmk.2; rw [he'] at this; cases this
      · unfold preB; rw [he']
      · unfold preB; rw [he']
    · have := hpos m b j hb hj
      simp only [ρ2]
      rw [if_pos (by omega)]
    · cases hx : ρ0 (s.H.length + j) with
      | no => rfl
      | _ =>
        exfalso
        rcases h.st.keep (s.H.length + j) (by rw [hx]; simp) with h1 | h1
        · rw [hnew _ (by omega), hx] at h1; cases h1
        · have := (List.getElem?_eq_some_iff.mp h1).1; omega
  refine drawnS_main G h00 rfl hcall hbad he (fun a w ρ hs => hq _ _ ρ (h1 ▸ hs)) ops.size _ ρ2 _ a _ 0 (by simp) ?_ (fun m hm => by rw [hoff m] at hm; cases hm) hsim hI
  unfold open_
  exact Nat.le_trans List.countP_le_length (by simp)

theorem draw_law (P : Program) : DrawLaw P := fun _ _ h1 h2 => ⟨draw_lawD h1 h2, drawS_law h1⟩

/-- THE LAW OF THE SMALL EVALUATOR. -/
theorem pcall_law {P : Program} {M : Mod} (hM : ModOK P M) (d : Nat) (g : FuncId) (args : List AV) (v : AV) (h : pcall M d g args = some v) : PureOK P g args v :=
  pcall_sound hM (draw_law P) d g args v h
end Go.Proofs.Ytdceaeifcniabaa.AE

namespace Go.Proofs.Ytdceaeifcniabaa.AE
set_option linter.unusedVariables false
set_option linter.unusedSimpArgs false
set_option linter.constructorNameAsVariable false
open Go

abbrev Ans := Option AV

def cnd (t : Bool) (a b : Ans) : Ans := match t with
  | true => a
  | false => b

/-- What is asked at a value that is not told. -/
inductive TV where
  | no
  | addr (v : AV)
  | all (l : List AV)
structure Cb where
  int : IntKind → Option AV → (Int → Ans) → Ans
  bool : Option AV → (Bool → Ans) → Ans
  str : Option AV → (List UInt8 → Ans) → Ans
  lst : Option AV → (List AV → Ans) → (Bool → Ans) → Ans
  agg : Nat → Option AV → (List AV → Ans) → Ans
  tup : Nat → Option AV → (List AV → Ans) → Ans
  any : Option AV → (AV → Ans) → Ans
  same : Option AV → AV → Ans → Ans
  sameH : Heap → Heap → Ans → Ans
  hop : Heap → IOp → (AV → Heap → Ans) → Ans
  snp : Heap → List AV → (List AV → Bool → Ans) → Ans
  disj : TV → TV → Ans → Ans
  fin : Heap → AV → Ans
  iter : (St → (Ex → St → Ans) → Ans) → Nat → St → List Nat → List (St → Ans) → (St → Ans) → Ans
  cal : Mod → (FuncId → List AV → Option AV) → Nat → Bool → FuncId → List AV → Heap → (AV → Heap → Ans) → Ans
  grow : Heap → Heap → (Nat → Heap → Ans) → Ans
  keep : Heap → Heap → List AV → Ans → Ans
  mkat : Heap → Nat → IOp → (AV → Heap → Ans) → Ans

/-- How a function is told: are its loops unrolled; is its memory not told (then what looks at memory is asked); shapes of what it puts where; are calls of it told as_ they are. -/
structure XU where
  un : Bool
  hm : Bool
  hs : List (Nat × Sh)
  jn : Bool
  ca : Bool

def hsGet : List (Nat × Sh) → Nat → Sh
  | [], _ => .any
  | (n, s) :: l, i => match Nat.beq n i with
    | true => s
    | false => hsGet l i
mutual
/-- A shape that says nothing of slices. -/
def relax : Sh → Sh
  | .i k => .i k
  | .b => .b
  | .s => .s
  | .agg l => .agg (relaxL l)
  | .tup l => .tup (relaxL l)
  | .l => .any
  | .any => .any
  | .lo => .any
  | .z => .any
def relaxL : List Sh → List Sh
  | [] => []
  | s :: l => relax s :: relaxL l
end
mutual
/-- What a call gives that gets what it gets alone: its slices are told as_ lists. -/
def loSh : Sh → Sh
  | .i k => .i k
  | .b => .b
  | .s => .s
  | .agg l => .agg (loShL l)
  | .tup l => .tup (loShL l)
  | .l => .lo
  | .any => .any
  | .lo => .lo
  | .z => .z
def loShL : List Sh → List Sh
  | [] => []
  | s :: l => loSh s :: loShL l
end
mutual
/-- Is what has it free of memory? -/
def shFree : Sh → Bool
  | .i _ => true
  | .b => true
  | .s => true
  | .agg l => shFreeL l
  | .tup l => shFreeL l
  | .l => false
  | .any => false
  | .lo => false
  | .z => false
def shFreeL : List Sh → Bool
  | [] => true
  | s :: l => match shFree s with
    | true => shFreeL l
    | false => false
end
def freeOps (hs : List (Nat × Sh)) : List Opd → Bool
  | [] => true
  | .v _ :: l => freeOps hs l
  | .t n :: l => match shFree (hsGet hs n) with
    | true => freeOps hs l
    | false => false

/-- Operations that look at memory, or at a place that isn't told. -/
def isH : IOp → Bool
  | .load .. | .store .. | .nilck _ | .box .. | .alloc _ | .mkrow .. | .mkslice .. | .s2b .. | .b2s _ | .subV .. | .fldA .. | .ixAS .. | .ixAA .. | .ixA .. | .app .. => true
  | .bk .lenV _ => true
  | .eqv _ k _ _ _ => Nat.beq k 1 || (Nat.beq k 2 || Nat.beq k 3)
  | _ => false
/-- An operation whose operands are values. -/
def close (ev : Opd → AV) : IOp → IOp
  | .load ag n a => .load ag n (.v (ev a))
  | .store n a x => .store n (.v (ev a)) (.v (ev x))
  | .nilck x => .nilck (.v (ev x))
  | .box e x => .box e (.v (ev x))
  | .alloc e => .alloc e
  | .mkrow e n ps => .mkrow e n (ps.map fun p => (p.1, .v (ev p.2)))
  | .mkslice e n c => .mkslice e (.v (ev n)) (.v (ev c))
  | .build z ps => .build z (ps.map fun p => (p.1, p.2.1, .v (ev p.2.2)))
  | .s2b e x => .s2b e (.v (ev x))
  | .b2s x => .b2s (.v (ev x))
  | .subV es x lo hi mx => .subV es (.v (ev x)) (lo.map fun y => .v (ev y)) (hi.map fun y => .v (ev y)) (mx.map fun y => .v (ev y))
  | .fldA off x => .fldA off (.v (ev x))
  | .ixAS _ es x i => .ixAS .any es (.v (ev x)) (.v (ev i))
  | .ixAA len es x i => .ixAA len es (.v (ev x)) (.v (ev i))
  | .ixA ag len es x i => .ixA ag len es (.v (ev x)) (.v (ev i))
  | .app e s x => .app e (.v (ev s)) (.v (ev x))
  | .bk b args => .bk b (args.map fun y => .v (ev y))
  | .eqv neg k sh x y => .eqv neg k sh (.v (ev x)) (.v (ev y))
  | io => io
/-- A value that is built of parts that are not told. -/
def bigB (hs : List (Nat × Sh)) : IOp → Bool
  | .build _ ps => ps.any fun p => match p.2.2 with
    | .t n => !shFree (hsGet hs n)
    | .v _ => false
  | _ => false
def isHu (hs : List (Nat × Sh)) (io : IOp) : Bool := isH io || bigB hs io
def noCall : CallF := fun _ _ _ => none
theorem close_ok {call : CallF} {ev : Opd → AV} {H : Heap} {io : IOp} (h : isH io = true) : aop call ev H io = aop noCall (evO []) H (close ev io) := by
  cases io <;> first | (cases h; done) | skip
  case bk b args =>
    cases b <;> first | (cases h; done) | skip
    cases args with
    | nil => rfl
    | cons x l => cases l <;> rfl
  case mkrow e n ps => simp only [close, aop, List.map_map]; rfl
  case subV es x lo hi mx => cases lo <;> cases hi <;> cases mx <;> rfl
  all_goals rfl

theorem close_okB {call : CallF} {ev : Opd → AV} {H : Heap} {hs : List (Nat × Sh)} {io : IOp} (h : isHu hs io = true) : aop call ev H io = aop noCall (evO []) H (close ev io) := by
  unfold isHu at h
  rcases Bool.or_eq_true_iff.mp h with h | h
  · exact close_ok h
  · cases io <;> first | (cases h; done) | skip
    case build z ps => simp only [close, aop, List.map_map]; rfl

def xiter (g : St → (Ex → St → Ans) → Ans) : Nat → St → (Ex → St → Ans) → Ans
  | 0, _, _ => none
  | n + 1, s, K => g s fun e s' => match e with
    | .normal => xiter g n s' K
    | .exit i => K (.exit i) s'
    | .ret => K .ret s'

def xgo (i : Nat) : List Nat → List (St → Ans) → St → Ans
  | id :: ids, k :: ks, s => if i = id then k s else xgo i ids ks s
  | _, _, _ => none

def isInt (k : IntKind) : Option AV → Option Int
  | some (.int k' n) => if k' = k then some n else none
  | _ => none
def isBool : Option AV → Option Bool
  | some (.bool b) => some b
  | _ => none
def isStr : Option AV → Option (List UInt8)
  | some (.str b) => some b
  | _ => none
def isAgg (n : Nat) : Option AV → Option (List AV)
  | some (.agg l) => if l.length = n then some l else none
  | _ => none
def isTup (n : Nat) : Option AV → Option (List AV)
  | some (.tup l) => if l.length = n then some l else none
  | _ => none

/-- Do they look at no memory both? -/
def disjB : TV → TV → Bool
  | .addr v, .addr w => (idsOf v).all fun i => !(idsOf w).contains i
  | .all l, .addr _ => l.all (noId DEPTH)
  | .addr _, .all l => l.all (noId DEPTH)
  | .all l, .all _ => l.all (noId DEPTH)
  | .no, _ => true
  | _, .no => true
/-- What they are. -/
noncomputable def C0 : Cb where
  grow H Z K := K H.length (H ++ Z)
  keep A B l K := match keepL A B l with
    | true => K
    | false => none
  mkat H id io K := match makeAt (evO []) id io with
    | some (v, k) => K v (H.set id (some k))
    | none => none
  cal M pc n b g args H K := match callB M pc n b g args H with
    | some (v, H') => K v H'
    | none => none
  disj a b K := match disjB a b with
    | true => K
    | false => none
  fin H v := some (snap DEPTH H v)
  hop H io K := match aop noCall (evO []) H io with
    | some (v, H') => K v H'
    | none => none
  snp H args K := match args.all (noId DEPTH) with
    | true => K args true
    | false => K (args.map (snap DEPTH H)) false
  int k o K := (isInt k o).bind K
  bool o K := (isBool o).bind K
  str o K := (isStr o).bind K
  lst o K Z := match o with
    | some (.lst l) => K l
    | some (.zsl b) => Z b
    | _ => none
  agg n o K := (isAgg n o).bind K
  tup n o K := (isTup n o).bind K
  any o K := o.bind K
  same o v K := @ite _ (o = some v) (Classical.propDecidable _) K none
  sameH a b K := @ite _ (a = b) (Classical.propDecidable _) K none
  iter g n s ids ks kr := xiter g n s fun e s' => match e with
    | .ret => kr s'
    | .exit i => xgo i ids ks s'
    | .normal => none

section
variable (C : Cb)

mutual
/-- A value of a shape: taken apart. -/
def destr : Sh → Option AV → (AV → Ans) → Ans
  | .i k, o, K => C.int k o fun n => K (.int k n)
  | .b, o, K => C.bool o fun b => K (.bool b)
  | .s, o, K => C.str o fun b => K (.str b)
  | .l, o, K => C.lst o (fun l => K (.lst l)) (fun b => K (.zsl b))
  | .agg l, o, K => C.agg l.length o fun cs => destrL l cs 0 fun vs => K (.agg vs)
  | .tup l, o, K => C.tup l.length o fun cs => destrL l cs 0 fun vs => K (.tup vs)
  | .any, o, K => C.any o K
  | .lo, o, K => C.lst o (fun l => K (.lst l)) (fun _ => none)
  | .z, o, K => C.lst o (fun _ => none) (fun b => K (.zsl b))
def destrL : List Sh → List AV → Nat → (List AV → Ans) → Ans
  | [], _, _, K => K []
  | s :: l, cs, i, K => destr s cs[i]? fun v => destrL l cs (i + 1) fun vs => K (v :: vs)
end

abbrev PC := FuncId → List AV → Option AV

/-- A call with what it gets alone. -/
def xpure (pc : PC) (sn : Bool) (sh : Sh) (g : FuncId) (args : List AV) (H : Heap) (K : AV → Heap → Ans) : Ans :=
  match sn with
  | true => C.snp H args fun as_ fr => destr C (loSh sh) (pc g as_) fun v => cnd (fr || noMem DEPTH v) (K v H) none
  | false => match args.all (noId DEPTH) with
    | true => destr C (loSh sh) (pc g args) fun v => K v H
    | false => destr C (loSh sh) (pc g (args.map (snap DEPTH H))) fun v => cnd (noMem DEPTH v) (K v H) none

def xext (sh : Sh) (e : List AV → Option AV) (args : List AV) (H : Heap) (K : AV → Heap → Ans) : Ans := destr C sh (e args) fun v => K v H

abbrev XCall := Bool → Sh → FuncId → List AV → Heap → (AV → Heap → Ans) → Ans

/-- What comes of nothing. -/
def xempty (M : Mod) (pc : PC) (g : FuncId) (args : List AV) (H : Heap) (K : AV → Heap → Ans) (rest : Ans) : Ans := match M.cl g with
  | true => match args with
    | [x] => C.bool (clr x) fun b => cnd b (C.same (emptyQ pc g) (.lst []) (K (.lst []) H)) rest
    | _ => rest
  | false => rest

def xcallZ (M : Mod) (pc : PC) : XCall := fun sn sh g args H K =>
  match M.ext g with
  | some e => xext C sh e args H K
  | none => match M.inl g with
    | true => xempty C M pc g args H K (xpure C pc sn sh g args H K)
    | false => xpure C pc sn sh g args H K

/-- A place in a list by a number that may not be told. -/
def xat (sh : Sh) (l : List AV) (q : Int) (K : AV → Ans) : Ans :=
  cnd (decide (0 ≤ q)) (destr C sh l[q.toNat]? K) none

def xpick (c : AV) (x y : AV) (K : AV → Ans) : Ans := match c with
  | .bool t => match x, y with
    | .int k n, .int k' n' => match decide (k = k') with
      | true => K (.int k (bif t then n else n'))
      | false => cnd t (K (.int k n)) (K (.int k' n'))
    | .bool n, .bool n' => K (.bool (bif t then n else n'))
    | x, y => cnd t (K x) (K y)
  | _ => none

def xbin (op : BinOp) (x y : AV) (K : AV → Ans) : Ans := match x, y with
  | .int k a, .int k' b => match op with
    | .shl => cnd (decide (b < 0)) none (K (.int k (k.wrap (a * 2 ^ min b.toNat k.bits))))
    | .shr => cnd (decide (b < 0)) none (K (.int k (a.fdiv (2 ^ min b.toNat k.bits))))
    | .quo => match decide (k = k') with
      | true => cnd (decide (b = 0)) none (K (.int k (k.wrap (a.tdiv b))))
      | false => none
    | .rem => match decide (k = k') with
      | true => cnd (decide (b = 0)) none (K (.int k (a.tmod b)))
      | false => none
    | op => match aBin op (.int k a) (.int k' b) with
      | some v => K v
      | none => none
  | x, y => match op with
    | .add => match x, y with
      | .str a, .str b => cnd (decide ((a.length + b.length) ≤ 9223372036854775807)) (K (.str (a ++ b))) none
      | _, _ => none
    | op => match aBin op x y with
      | some v => K v
      | none => none

def xbound (x : Option AV) (d top : Nat) (K : Nat → Ans) : Ans := match x with
  | none => K d
  | some v => match aInt v with
    | some i => cnd (decide (0 ≤ i ∧ i ≤ (top : Int))) (K i.toNat) none
    | none => none

/-- One operation, of what is told. -/
def xop0 (u : XU) (call : XCall) (ev : Opd → AV) (H : Heap) (io : IOp) (K : AV → Heap → Ans) : Ans := match io with
  | .pick c a b => xpick (ev c) (ev a) (ev b) fun v => K v H
  | .bin op x y => xbin op (ev x) (ev y) fun v => K v H
  | .eqv neg 0 sh x y => match eqV 0 sh (ev x) (ev y) with
    | some b => K (.bool (xor neg b)) H
    | none => none
  | .eqv neg 4 sh x y => match eqV 4 sh (ev x) (ev y) with
    | some b => K (.bool (xor neg b)) H
    | none => none
  | .eqv neg 2 sh x y => match ev x, ev y with
    | .lst l, .zsl true => cnd l.isEmpty none (K (.bool (xor neg false)) H)
    | x, y => match eqV 2 sh x y with
      | some b => K (.bool (xor neg b)) H
      | none => none
  | .call sh f args => match ev f with
    | .fn g a b => match u.hm with
      | true => call (!freeOps u.hs args) (relax sh) g (a ++ args.map ev ++ b) H K
      | false => call false sh g (a ++ args.map ev ++ b) H K
    | _ => none
  | .subS x lo hi => match ev x with
    | .str s => xbound (hi.map ev) s.length s.length fun h => xbound (lo.map ev) 0 h fun l => K (.str ((s.take h).drop l)) H
    | _ => none
  | .ixS x i => match ev x, aInt (ev i) with
    | .str s, some q => cnd (decide (0 ≤ q)) (C.int .u8 ((s[q.toNat]?).map fun b => .int .u8 b.toNat) fun n => K (.int .u8 n) H) none
    | _, _ => none
  | .ixAS sh es x i => match aInt (ev i) with
    | some q => match ev x with
      | .lst l => xat C sh l q fun v => match decide (v.cells.length = es) with
        | true => K (.fptr v 0) H
        | false => none
      | .slc id o n => match hget H id with
        | some b => match decide (b.e.es = es) with
          | true => cnd (decide (0 ≤ q ∧ q < (n : Int))) (K (.ptr id (o + q.toNat) 0) H) none
          | false => none
        | none => none
      | _ => none
    | none => none
  | io => match aop (fun _ _ _ => none) ev H io with
    | some (v, H') => K v H'
    | none => none

def xop (u : XU) (sh : Sh) (call : XCall) (ev : Opd → AV) (H : Heap) (io : IOp) (K : AV → Heap → Ans) : Ans := match u.hm with
  | true => match isHu u.hs io with
    | true => C.hop H (close ev io) fun v H' => match sh with
      | .any => K v H'
      | sh => destr C sh (some v) fun v' => K v' H'
    | false => xop0 C u call ev H io K
  | false => xop0 C u call ev H io K

def dhs (u : XU) : Option Nat → Sh
  | some d => hsGet u.hs d
  | none => .any

def xwant (env : List AV) (g : Option (Option Nat × Bool)) (A B : List AV → Ans) : Ans := match g with
  | none => A env
  | some (some t, b) => match env.getD t .undef with
    | .bool c => match b with
      | true => cnd c (A (env.set t (.bool true))) (B (env.set t (.bool false)))
      | false => cnd c (B (env.set t (.bool true))) (A (env.set t (.bool false)))
    | .tup [] => B env
    | _ => none
  | some (none, _) => B env

def xrunOps (u : XU) (call : XCall) : List IOper → St → (St → Ans) → Ans
  | [], s, K => K s
  | o :: l, s, K => xwant s.env o.guard (fun env => xop C u (dhs u o.dst) call (evO env) s.H o.op fun v H => xrunOps u call l ⟨put env o.dst v, H⟩ K) (fun env => xrunOps u call l ⟨put env o.dst (.tup []), s.H⟩ K)

/-- What an operation looks at. -/
def tvOf (ev : Opd → AV) : IOp → TV
  | .load _ _ a => .addr (ev a)
  | .store _ a _ => .addr (ev a)
  | .b2s x => .addr (ev x)
  | .call _ f args => match ev f with
    | .fn _ p q => .all (p ++ args.map ev ++ q)
    | _ => .all []
  | _ => .no
def xdisj (chk : List Nat) (t : TV) : List (Nat × TV) → Ans → Ans
  | [], K => K
  | (i, s) :: l, K => match chk.contains i with
    | true => match s, t with
      | .no, _ => xdisj chk t l K
      | _, .no => xdisj chk t l K
      | s, t => C.disj s t (xdisj chk t l K)
    | false => xdisj chk t l K
/-- Operations in any order, where memory isn't told. -/
def xrunOpsH (u : XU) (call callP : XCall) : List (IOper × List Nat) → Nat → List (Nat × TV) → St → (St → Ans) → Ans
  | [], _, _, s, K => K s
  | (o, chk) :: l, i, log, s, K => xwant s.env o.guard
      (fun env => xdisj C chk (tvOf (evO env) o.op) log (xop C u (dhs u o.dst) (match isFull chk with | true => call | false => callP) (evO env) s.H o.op fun v H => xrunOpsH u call callP l (i + 1) ((i, tvOf (evO env) o.op) :: log) ⟨put env o.dst v, H⟩ K))
      (fun env => xrunOpsH u call callP l (i + 1) log ⟨put env o.dst (.tup []), s.H⟩ K)

def xrunOpsD (u : XU) (call callP : XCall) : List (IOper × List Nat) → Nat → List (Nat × Nat) → St → (St → Ans) → Ans
  | [], _, _, s, K => K s
  | (o, chk) :: l, i, log, s, K => xwant s.env o.guard
      (fun env => match chk.isEmpty || log.all (fun p => !(chk.contains p.1) || !((touch (evO env) s.H o.op).contains p.2)) with
        | true => xop C u (dhs u o.dst) (match isFull chk with | true => call | false => callP) (evO env) s.H o.op fun v H => xrunOpsD u call callP l (i + 1) (log ++ (touch (evO env) s.H o.op).map fun id => (i, id)) ⟨put env o.dst v, H⟩ K
        | false => none)
      (fun env => xrunOpsD u call callP l (i + 1) log ⟨put env o.dst (.tup []), s.H⟩ K)

/-- Operations of a drawn region where calls may do anything. -/
def xstepS (u : XU) (call : XCall) (base : Nat) (o : SOp) (env : List AV) (H : Heap) (K : AV → Heap → Ans) : Ans := match o.slot with
  | none => xop C u (dhs u o.op.dst) call (evO env) H o.op.op K
  | some j => match allocOp o.op.op with
    | true => K (.ptr (base + j) 0 0) H
    | false => C.mkat H (base + j) (close (evO env) o.op.op) K
def xkeep (A B : Heap) (l : List AV) (K : Ans) : Ans := match l with
  | [] => K
  | x :: l => C.keep A B (x :: l) K
def xlogS (o : SOp) (nm : List AV) (H H' : Heap) : List LogE → Ans → Ans
  | [], K => K
  | e :: l, K => match o.chk.contains e.idx with
    | true => (match e.chg with
      | some (A, B) => xkeep C A B nm (match chgS o with
        | true => xkeep C H H' e.nm (xlogS o nm H H' l K)
        | false => xlogS o nm H H' l K)
      | none => match chgS o with
        | true => xkeep C H H' e.nm (xlogS o nm H H' l K)
        | false => xlogS o nm H H' l K)
    | false => xlogS o nm H H' l K
def xrunOpsS (u : XU) (call : XCall) (base : Nat) : List SOp → Nat → List LogE → St → (St → Ans) → Ans
  | [], _, _, s, K => K s
  | o :: l, i, log, s, K => xwant s.env o.op.guard
      (fun env => xstepS C u call base o env s.H fun v H' => xlogS C o (namesOf (evO env) o.op.op) s.H H' log (xkeep C s.H H' (o.kp.map fun j => .ptr (base + j) 0 0)
        (xrunOpsS u call base l (i + 1) (entS i o (evO env) s.H H' :: log) ⟨put env o.op.dst v, H'⟩ K)))
      (fun env => xrunOpsS u call base l (i + 1) log ⟨put env o.op.dst (.tup []), s.H⟩ K)

/-- A value's shape: what may be told of it in another round, too. -/
def shOf : Nat → AV → Sh
  | 0, _ => .any
  | d + 1, v => match v with
    | .int k _ => .i k
    | .bool _ => .b
    | .str _ => .s
    | .lst _ => .lo
    | .zsl _ => .z
    | .agg cs => .agg (cs.map (shOf d))
    | _ => .any

/-- What code puts somewhere. -/
def dstsOf : IC → List Nat
  | .reg l => l.filterMap (·.dst)
  | .regD l => l.filterMap (·.1.dst)
  | .regS l => l.filterMap (·.op.dst)
  | .seq a b => dstsOf a ++ dstsOf b
  | .cond _ a b => dstsOf a ++ dstsOf b
  | .block _ a => dstsOf a
  | .loop a => dstsOf a
  | _ => []

def noMake : IOp → Bool
  | .store .. | .box .. | .alloc .. | .mkrow .. | .s2b .. | .mkslice .. | .app .. => false
  | _ => true
/-- Does it leave own memory as_ it is? -/
def noMakes : IC → Bool
  | .reg l => l.all fun o => noMake o.op
  | .regD l => l.all fun o => noMake o.1.op
  | .regS _ => false
  | .seq a b => noMakes a && noMakes b
  | .cond _ a b => noMakes a && noMakes b
  | .block _ a => noMakes a
  | .loop a => noMakes a
  | _ => true

def meetL (a b : List Nat) : List Nat := a.filter fun x => b.contains x
def joinO : Option (List Nat) → Option (List Nat) → Option (List Nat)
  | none, b => b
  | a, none => a
  | some a, some b => some (meetL a b)
def daOp (da : List Nat) (o : IOper) : List Nat := match o.guard, o.dst with
  | none, some d => d :: da
  | _, _ => da
def exAt (id : Nat) : List (Nat × List Nat) → Option (List Nat)
  | [] => none
  | (i, s) :: l => match Nat.beq i id with
    | true => joinO (some s) (exAt id l)
    | false => exAt id l
def RETID : Nat := 1000000
/-- What is put for sure: where code ends, and at each of its exits. -/
def daA : IC → List Nat → Option (List Nat) × List (Nat × List Nat)
  | .skip, s => (some s, [])
  | .reg l, s => (some (l.foldl daOp s), [])
  | .regD l, s => (some (l.foldl (fun s o => daOp s o.1) s), [])
  | .regS l, s => (some (l.foldl (fun s o => daOp s o.op) s), [])
  | .seq a b, s => match daA a s with
    | (none, e) => (none, e)
    | (some s', e) => match daA b s' with
      | (n, e2) => (n, e ++ e2)
  | .cond _ a b, s => match daA a s, daA b s with
    | (n, e), (n2, e2) => (joinO n n2, e ++ e2)
  | .block id a, s => match daA a s with
    | (n, e) => (joinO n (exAt id e), e.filter fun p => !(Nat.beq p.1 id))
  | .loop a, s => match daA a s with
    | (_, e) => (none, e)
  | .exit id, s => (none, [(id, s)])
  | .ret, s => (none, [(RETID, s)])
def daN (a : IC) (s : List Nat) : List Nat := match (daA a s).1 with
  | some s => s
  | none => []
def daX (a : IC) (s : List Nat) (i : Nat) : List Nat := match exAt i (daA a s).2 with
  | some s => s
  | none => []

/-- What is not put anew stays; the rest is taken apart as_ it was ahead ('da': what was put ahead), or as_ it is told to be ('db': what is put behind). -/
def destrV (u : XU) (ds da db : List Nat) : List AV → List AV → Nat → (List AV → Ans) → Ans
  | [], _, _, K => K []
  | v :: l, cs, i, K => match ds.contains i with
    | true => destr C (match da.contains i with
        | true => match u.hm with
          | true => hsGet u.hs i
          | false => shOf 3 v
        | false => match db.contains i with
          | true => relax (hsGet u.hs i)
          | false => .any) cs[i]? fun w => destrV u ds da db l cs (i + 1) fun us => K (w :: us)
    | false => C.same cs[i]? v (destrV u ds da db l cs (i + 1) fun us => K (v :: us))

def destrE (u : XU) (da db : List Nat) (a : IC) (s0 s : St) (K : St → Ans) : Ans := cnd (s.env.length == s0.env.length) (destrV C u (dstsOf a) da db s0.env s.env 0 fun env => match noMakes a with
  | true => match u.hm with
    | true => K ⟨env, s.H⟩
    | false => C.sameH s.H s0.H (K ⟨env, s0.H⟩)
  | false => K ⟨env, s.H⟩) none

/-- Where a loop may leave to. -/
def exitsOf : IC → List Nat
  | .seq a b => exitsOf a ++ exitsOf b
  | .cond _ a b => exitsOf a ++ exitsOf b
  | .block id a => (exitsOf a).filter (· != id)
  | .loop a => exitsOf a
  | .exit id => [id]
  | _ => []

/-- How often does code end (two: often)? -/
def exN (id : Nat) : IC → Nat
  | .seq a b => exN id a + exN id b
  | .cond _ a b => exN id a + exN id b
  | .block i a => match Nat.beq i id with
    | true => 0
    | false => exN id a
  | .loop a => min 1 (exN id a)
  | .exit i => match Nat.beq i id with
    | true => 1
    | false => 0
  | _ => 0
def endN : IC → Nat
  | .skip => 1
  | .reg l => match l.all (fun o => o.guard.isNone) with
    | true => 1
    | false => 2
  | .regD l => match l.all (fun o => o.1.guard.isNone) with
    | true => 1
    | false => 2
  | .regS l => match l.all (fun o => o.op.guard.isNone) with
    | true => 1
    | false => 2
  | .seq a b => match endN a with
    | 0 => 0
    | _ => endN b
  | .cond _ a b => endN a + endN b
  | .block id a => endN a + exN id a
  | _ => 0
/-- Is what comes behind told once, for all its ends? -/
def joins (u : XU) (a : IC) : Bool := u.jn && (Nat.ble 2 (endN a) && (u.hm || noMakes a))
def JID : Nat := 2000000
def hasRet (a : IC) : Bool := (exAt RETID (daA a []).2).isSome

def xexec (u : XU) (call callP : XCall) (fu : Nat) : IC → List Nat → St → (Ex → St → Ans) → Ans
  | .skip, _, s, K => K .normal s
  | .regD ops, _, s, K => match u.hm with
    | true => xrunOpsH C u call callP ops 0 [] s fun s' => K .normal s'
    | false => xrunOpsD C u call callP ops 0 [] s fun s' => K .normal s'
  | .regS ops, _, s, K => match u.hm with
    | true => C.grow s.H (preH ops) fun n H => xrunOpsS C u call n ops 0 [] ⟨s.env, H⟩ fun s' => K .normal s'
    | false => none
  | .reg ops, _, s, K => xrunOps C u call ops s fun s' => K .normal s'
  | .seq a b, da, s, K => match joins u a with
    | false => xexec u call callP fu a da s fun e s' => match e with
      | .normal => xexec u call callP fu b (daN a da) s' K
      | .exit i => K (.exit i) s'
      | .ret => K .ret s'
    | true => C.iter (fun s1 Kn => destrE C u da [] a s s1 fun s2 => xexec u call callP fu a da s2 fun e s' => match e with
      | .normal => Kn (.exit JID) s'
      | .exit i => match decide (i = JID) with
        | true => none
        | false => Kn (.exit i) s'
      | .ret => Kn .ret s') 1 s (JID :: (exitsOf a).eraseDups) ((fun s1 => destrE C u da (daN a da) a s s1 fun s2 => xexec u call callP fu b (daN a da) s2 K) :: (exitsOf a).eraseDups.map fun i s1 => destrE C u da (daX a da i) a s s1 fun s2 => K (.exit i) s2) fun s1 => destrE C u da (daX a da RETID) a s s1 fun s2 => match hasRet a with
      | true => K .ret s2
      | false => none
  | .cond (.t n) a b, da, s, K => match s.env.getD n .undef with
    | .bool t => cnd t (xexec u call callP fu a da ⟨s.env.set n (.bool true), s.H⟩ K) (xexec u call callP fu b da ⟨s.env.set n (.bool false), s.H⟩ K)
    | _ => none
  | .cond (.v c) a b, da, s, K => match c with
    | .bool t => cnd t (xexec u call callP fu a da s K) (xexec u call callP fu b da s K)
    | _ => none
  | .block id a, da, s, K => xexec u call callP fu a da s fun e s' => match e with
    | .normal => K .normal s'
    | .exit i => match decide (i = id) with
      | true => K .normal s'
      | false => K (.exit i) s'
    | .ret => K .ret s'
  | .loop a, da, s, K => match u.un with
    | true => xiter (fun s1 Kn => xexec u call callP fu a da s1 Kn) fu s K
    | false => C.iter (fun s1 Kn => destrE C u da [] a s s1 fun s2 => xexec u call callP fu a da s2 Kn) fu s (exitsOf a).eraseDups ((exitsOf a).eraseDups.map fun i s1 => destrE C u da (daX a da i) a s s1 fun s2 => K (.exit i) s2) fun s1 => destrE C u da (daX a da RETID) a s s1 fun s2 => K .ret s2
  | .exit id, _, s, K => K (.exit id) s
  | .ret, _, s, K => K .ret s

/-- Results, where memory isn't told. -/
def xresAll (s : St) : List RV → (List AV → Ans) → Ans
  | [], K => K []
  | .tmp t :: l, K => xresAll s l fun vs => K (s.env.getD t .undef :: vs)
  | .cell ag n t :: l, K => C.hop s.H (.load ag n (.v (s.env.getD t .undef))) fun v _ => xresAll s l fun vs => K (v :: vs)

def xrunFn (u : XU) (call callP : XCall) (fu : Nat) (fn : AFn) (args : List AV) (H : Heap) (K : AV → Heap → Ans) : Ans :=
  xexec C u call callP fu fn.body (List.range args.length) ⟨args ++ List.replicate (fn.ntmps - args.length) (.tup []), H⟩ fun e s => match e with
    | .exit _ => none
    | _ => match u.hm with
      | true => xresAll C s fn.results fun vs => K (packRes vs) s.H
      | false => match resAll s fn.results with
        | some vs => K (packRes vs) s.H
        | none => none

/-- A run in new memory. -/
def xfresh (u : XU) (call callP : XCall) (fu : Nat) (fn : AFn) (args : List AV) (H : Heap) (K : AV → Heap → Ans) : Ans :=
  xrunFn C u call callP fu fn args (padH H.length) fun v H1 => match padOk H.length H1 with
    | true => K v (H ++ H1.drop H.length)
    | false => none

def xcallB (M : Mod) (U : FuncId → XU) (pc : PC) : Nat → Bool → XCall
  | 0, _ => xcallZ C M pc
  | n + 1, b => fun sn sh g args H K =>
    match M.ext g with
    | some e => xext C sh e args H K
    | none => match M.inl g with
      | true => match (U g).ca with
        | true => C.cal M pc (n + 1) b g args H fun v H' => destr C sh (some v) fun v' => K v' H'
        | false => xempty C M pc g args H K (match b with
          | true => match M.code g args.length with
            | some fn => xrunFn C (U g) (xcallB M U pc n true) (xcallB M U pc n false) M.fu fn args H K
            | none => none
          | false => match M.fr g && args.all (noId DEPTH) with
            | true => match M.code g args.length with
              | some fn => xfresh C (U g) (xcallB M U pc n true) (xcallB M U pc n false) M.fu fn args H K
              | none => none
            | false => xpure C pc sn sh g args H K)
      | false => xpure C pc sn sh g args H K

/-- A call of a function, told forwards. -/
def xcall (M : Mod) (U : FuncId → XU) (d : Nat) (g : FuncId) (args : List AV) : Ans := match M.code g args.length with
  | none => none
  | some fn => xrunFn C (U g) (xcallB C M U (pcall M d) IDEPTH true) (xcallB C M U (pcall M d) IDEPTH false) M.fu fn args [] fun v H' => match (U g).hm with
    | true => C.fin H' v
    | false => some (snap DEPTH H' v)
/-- A call in the caller's own memory, told forwards. -/
def xmeth (M : Mod) (U : FuncId → XU) (d n : Nat) (g : FuncId) (args : List AV) (H : Heap) (K : AV → Heap → Ans) : Ans := match M.code g args.length with
  | none => none
  | some fn => xrunFn C (U g) (xcallB C M U (pcall M d) n true) (xcallB C M U (pcall M d) n false) M.fu fn args H K
end

/-! ### It says what the other one says -/
section
mutual
theorem destr_sound : ∀ (sh : Sh) (o : Option AV) (K : AV → Ans) (r : AV), destr C0 sh o K = some r → ∃ v, o = some v ∧ K v = some r
  | .i k, o, K, r, h => by
    simp only [destr, C0] at h
    obtain ⟨n, h1, h2⟩ := Option.bind_eq_some_iff.mp h
    unfold isInt at h1
    split at h1 <;> (try (cases h1; done))
    split at h1 <;> (try (cases h1; done))
    rename_i k' n' hk
    cases h1; subst hk
    exact ⟨_, rfl, h2⟩
  | .b, o, K, r, h => by
    simp only [destr, C0] at h
    obtain ⟨n, h1, h2⟩ := Option.bind_eq_some_iff.mp h
    unfold isBool at h1
    split at h1 <;> (try (cases h1; done))
    cases h1
    exact ⟨_, rfl, h2⟩
  | .s, o, K, r, h => by
    simp only [destr, C0] at h
    obtain ⟨n, h1, h2⟩ := Option.bind_eq_some_iff.mp h
    unfold isStr at h1
    split at h1 <;> (try (cases h1; done))
    cases h1
    exact ⟨_, rfl, h2⟩
  | .l, o, K, r, h => by
    simp only [destr, C0] at h
    split at h <;> (try (cases h; done))
    · exact ⟨_, rfl, h⟩
    · exact ⟨_, rfl, h⟩
  | .agg l, o, K, r, h => by
    simp only [destr, C0] at h
    obtain ⟨cs, h1, h2⟩ := Option.bind_eq_some_iff.mp h
    unfold isAgg at h1
    split at h1 <;> (try (cases h1; done))
    split at h1 <;> (try (cases h1; done))
    rename_i hl
    cases h1
    obtain ⟨vs, q1, q2, q3⟩ := destrL_sound l cs 0 _ r h2
    have : vs = cs := by
      apply List.ext_getElem?
      intro i
      rcases Nat.lt_or_ge i l.length with hlt | hge
      · have := q2 i hlt; simpa using this.symm
      · rw [List.getElem?_eq_none (by omega), List.getElem?_eq_none (by omega)]
    subst this
    exact ⟨_, rfl, q3⟩
  | .tup l, o, K, r, h => by
    simp only [destr, C0] at h
    obtain ⟨cs, h1, h2⟩ := Option.bind_eq_some_iff.mp h
    unfold isTup at h1
    split at h1 <;> (try (cases h1; done))
    split at h1 <;> (try (cases h1; done))
    rename_i hl
    cases h1
    obtain ⟨vs, q1, q2, q3⟩ := destrL_sound l cs 0 _ r h2
    have : vs = cs := by
      apply List.ext_getElem?
      intro i
      rcases Nat.lt_or_ge i l.length with hlt | hge
      · have := q2 i hlt; simpa using this.symm
      · rw [List.getElem?_eq_none (by omega), List.getElem?_eq_none (by omega)]
    subst this
    exact ⟨_, rfl, q3⟩
  | .any, o, K, r, h => by
    simp only [destr, C0] at h
    exact Option.bind_eq_some_iff.mp h
  | .lo, o, K, r, h => by
    simp only [destr, C0] at h
    split at h <;> (try (cases h; done))
    exact ⟨_, rfl, h⟩
  | .z, o, K, r, h => by
    simp only [destr, C0] at h
    split at h <;> (try (cases h; done))
    exact ⟨_, rfl, h⟩
theorem destrL_sound : ∀ (l : List Sh) (cs : List AV) (i : Nat) (K : List AV → Ans) (r : AV), destrL C0 l cs i K = some r → ∃ vs, vs.length = l.length ∧ (∀ j, j < l.length → cs[i + j]? = vs[j]?) ∧ K vs = some r
  | [], cs, i, K, r, h => ⟨[], rfl, by simp, h⟩
  | s :: l, cs, i, K, r, h => by
    simp only [destrL] at h
    obtain ⟨v, h1, h2⟩ := destr_sound s _ _ r h
    obtain ⟨vs, q1, q2, q3⟩ := destrL_sound l cs (i + 1) _ r h2
    refine ⟨v :: vs, by simp [q1], fun j hj => ?_, q3⟩
    cases j with
    | zero => simpa using h1
    | succ j =>
      have := q2 j (by simpa using hj)
      simpa [show i + 1 + j = i + (j + 1) by omega] using this
end

theorem cnd_some {t : Bool} {a b : Ans} {r : AV} (h : cnd t a b = some r) : (t = true ∧ a = some r) ∨ (t = false ∧ b = some r) := by
  cases t <;> simp [cnd] at h <;> simp [h]

theorem destrV_sound (U0 : XU) (ds da db : List Nat) : ∀ (l cs : List AV) (i : Nat) (K : List AV → Ans) (r : AV), destrV C0 U0 ds da db l cs i K = some r → ∃ vs, vs.length = l.length ∧ (∀ j, j < l.length → cs[i + j]? = vs[j]?) ∧ K vs = some r
  | [], cs, i, K, r, h => ⟨[], rfl, by simp, h⟩
  | v :: l, cs, i, K, r, h => by
    simp only [destrV] at h
    have fin : ∀ u, cs[i]? = some u → destrV C0 U0 ds da db l cs (i + 1) (fun us => K (u :: us)) = some r → ∃ vs, vs.length = (v :: l).length ∧ (∀ j, j < (v :: l).length → cs[i + j]? = vs[j]?) ∧ K vs = some r := by
      intro u h1 h2
      obtain ⟨vs, q1, q2, q3⟩ := destrV_sound U0 ds da db l cs (i + 1) _ r h2
      refine ⟨u :: vs, by simp [q1], fun j hj => ?_, q3⟩
      cases j with
      | zero => simpa using h1
      | succ j =>
        have := q2 j (by simpa using hj)
        simpa [show i + 1 + j = i + (j + 1) by omega] using this
    split at h
    · obtain ⟨u, h1, h2⟩ := destr_sound _ _ _ r h
      exact fin u h1 h2
    · simp only [C0] at h
      split at h
      · rename_i he; exact fin v he h
      · cases h

theorem destrE_sound {u : XU} {da db : List Nat} {a : IC} {s0 s : St} {K : St → Ans} {r : AV} (h : destrE C0 u da db a s0 s K = some r) : K s = some r := by
  unfold destrE at h
  rcases cnd_some h with ⟨hl, h⟩ | ⟨_, h⟩
  · obtain ⟨vs, q1, q2, q3⟩ := destrV_sound _ _ _ _ _ _ _ _ _ h
    have hl : s.env.length = s0.env.length := by simpa using hl
    have : vs = s.env := by
      apply List.ext_getElem?
      intro i
      rcases Nat.lt_or_ge i s0.env.length with hlt | hge
      · have := q2 i hlt; simpa using this.symm
      · rw [List.getElem?_eq_none (by omega), List.getElem?_eq_none (by omega)]
    subst this
    split at q3
    · split at q3
      · exact q3
      · simp only [C0] at q3
        split at q3
        · rename_i he; rw [← he] at q3; exact q3
        · cases q3
    · exact q3
  · cases h

theorem xgo_ok {i : Nat} {s : St} {r : AV} {f : Nat → St → Ans} : ∀ ids : List Nat, xgo i ids (ids.map f) s = some r → f i s = some r
  | [], h => by cases h
  | id :: ids, h => by
    simp only [List.map_cons, xgo] at h
    split at h
    · rename_i he; rw [he]; exact h
    · exact xgo_ok ids h

/-- Calls told forwards. -/
def XOK (x : XCall) (call : CallF) : Prop := ∀ sn sh g args H K r, x sn sh g args H K = some r → ∃ v H', call g args H = some (v, H') ∧ K v H' = some r

theorem xpure_ok (pc : PC) : XOK (xpure C0 pc) (pureCall pc) := by
  intro sn sh g args H K r h
  unfold xpure at h
  unfold pureCall
  cases sn with
  | true =>
    simp only [C0] at h
    cases ha : args.all (noId DEPTH) <;> simp only [ha] at h
    · obtain ⟨v, h1, h2⟩ := destr_sound _ _ _ _ h
      rcases cnd_some h2 with ⟨h3, h2⟩ | ⟨_, h2⟩
      · simp only [Bool.false_or] at h3
        exact ⟨v, H, by simp [h1, h3], h2⟩
      · cases h2
    · obtain ⟨v, h1, h2⟩ := destr_sound _ _ _ _ h
      rcases cnd_some h2 with ⟨h3, h2⟩ | ⟨h3, h2⟩
      · exact ⟨v, H, by simp [h1], h2⟩
      · cases h2
  | false =>
    cases ha : args.all (noId DEPTH) <;> simp only [ha] at h
    · obtain ⟨v, h1, h2⟩ := destr_sound _ _ _ _ h
      rcases cnd_some h2 with ⟨h3, h2⟩ | ⟨_, h2⟩
      · exact ⟨v, H, by simp [h1, h3], h2⟩
      · cases h2
    · obtain ⟨v, h1, h2⟩ := destr_sound _ _ _ _ h
      exact ⟨v, H, by simp [h1], h2⟩

theorem xbound_ok {x : Option AV} {d top : Nat} {K : Nat → Ans} {r : AV} (h : xbound x d top K = some r) : ∃ n, bound x d top = some n ∧ K n = some r := by
  unfold xbound at h
  split at h
  · exact ⟨_, rfl, h⟩
  · split at h <;> (try (cases h; done))
    rename_i v i hi
    rcases cnd_some h with ⟨h0, h⟩ | ⟨_, h⟩
    · have h0 := of_decide_eq_true h0
      exact ⟨_, by simp only [bound, hi]; rw [if_pos h0], h⟩
    · cases h

theorem xpick_ok {c x y : AV} {K : AV → Ans} {r : AV} (h : xpick c x y K = some r) : ∃ t, c = .bool t ∧ K (bif t then x else y) = some r := by
  unfold xpick at h
  split at h <;> (try (cases h; done))
  rename_i t
  refine ⟨t, rfl, ?_⟩
  split at h
  · split at h
    · rename_i hk
      have hk := of_decide_eq_true hk
      subst hk
      cases t <;> exact h
    · rcases cnd_some h with ⟨rfl, h⟩ | ⟨rfl, h⟩ <;> exact h
  · cases t <;> exact h
  · rcases cnd_some h with ⟨rfl, h⟩ | ⟨rfl, h⟩ <;> exact h

theorem xbin_ok {op : BinOp} {x y : AV} {K : AV → Ans} {r : AV} (h : xbin op x y K = some r) : ∃ v, aBin op x y = some v ∧ K v = some r := by
  unfold xbin at h
  split at h
  · rename_i k a k' b
    split at h
    · rcases cnd_some h with ⟨_, h⟩ | ⟨hb, h⟩
      · cases h
      · have hb := of_decide_eq_false hb
        exact ⟨_, by simp [aBin, hb], h⟩
    · rcases cnd_some h with ⟨_, h⟩ | ⟨hb, h⟩
      · cases h
      · have hb := of_decide_eq_false hb
        exact ⟨_, by simp [aBin, hb], h⟩
    · split at h
      · rename_i hk
        have hk := of_decide_eq_true hk
        rcases cnd_some h with ⟨_, h⟩ | ⟨hb, h⟩
        · cases h
        · have hb := of_decide_eq_false hb
          exact ⟨_, by simp [aBin, hk, hb], h⟩
      · cases h
    · split at h
      · rename_i hk
        have hk := of_decide_eq_true hk
        rcases cnd_some h with ⟨_, h⟩ | ⟨hb, h⟩
        · cases h
        · have hb := of_decide_eq_false hb
          exact ⟨_, by simp [aBin, hk, hb], h⟩
      · cases h
    · split at h
      · rename_i v hv; exact ⟨v, hv, h⟩
      · cases h
  · split at h
    · split at h
      · rcases cnd_some h with ⟨hb, h⟩ | ⟨_, h⟩
        · have hb := of_decide_eq_true hb
          exact ⟨_, by simp [aBin, hb], h⟩
        · cases h
      · cases h
    · split at h
      · rename_i v hv; exact ⟨v, hv, h⟩
      · cases h
end
end Go.Proofs.Ytdceaeifcniabaa.AE
