/- The texts that the law RulefileReads needs, part 0. No conditions. -/
import Derived.Test.YtbmedgpiphibaaaMc5
namespace Go.Proofs.Ytbmedgpiphibaaa.AE
set_option linter.unusedVariables false
set_option linter.unusedSimpArgs false
open Go Go.Proofs.Ytbmedgpiphibaaa.Geo
attribute [local irreducible] pcall C0
theorem by8_b (b:UInt8):by8 (b.toNat:Int)=b:=by
 unfold by8
 have h:=b.toNat_lt
 rw [show ((b.toNat:Int) % 256).toNat=b.toNat by omega]
 simp
theorem be4_num4 {s:List UInt8} (h:s.length=4):be4 (num4 s)=s:=by
 match s,h with
 | [a,b,c,e],_ =>
   unfold num4 be4
   simp only [List.getD_cons_zero,List.getD_cons_succ]
   have ha:=u8lt a; have hb:=u8lt b; have hc:=u8lt c; have he:=u8lt e
   have e1:((a.toNat:Int) * 16777216+b.toNat * 65536+c.toNat * 256+e.toNat) / 16777216=a.toNat:=by omega
   rw [e1,by8_b]
   have e2:((a.toNat:Int) * 16777216+b.toNat * 65536+c.toNat * 256+e.toNat) / 65536 % 256=b.toNat:=by omega
   have e3:((a.toNat:Int) * 16777216+b.toNat * 65536+c.toNat * 256+e.toNat) / 256 % 256=c.toNat:=by omega
   have e4:((a.toNat:Int) * 16777216+b.toNat * 65536+c.toNat * 256+e.toNat) % 256=e.toNat:=by omega
   rw [← by8_mod (_ / 65536),e2,by8_b,← by8_mod (_ / 256),e3,by8_b,← by8_mod (_+_),e4,by8_b]
end Go.Proofs.Ytbmedgpiphibaaa.AE

namespace Go.Proofs.Ytbmedgpiphibaaa.AE
set_option linter.unusedVariables false
set_option linter.unusedSimpArgs false
set_option linter.constructorNameAsVariable false
open Go
set_option maxRecDepth 100000
set_option maxHeartbeats 0
def r16R2 (C:Cb) (d:Nat) (a0:List UInt8) (v0:AV) (x30 x31:Int) (s32:List UInt8) (x33:Int) (b34 b35:Bool) (v36 v37:AV) (b38:Bool) (v39 v40 v41 v42 v43 v44 v45 v46 v47:AV) (x52 x53 x54 x55 x56 x57 x58 x59:Int) (v60:AV) (k65:Ex→St→Ans) (x67 x68 x69:Int) (v78 v79 v85 v120 v143 v144 v145 v146 v147 v148:AV) (x149 x152 x153 x154 x155 x156:Int) (v157:AV):St→(Ex→St→Ans)→Ans:=fun s163 k164 =>
 cnd ((List.length s163.env) == 161)
 (sames C s163.env 0 [(.str a0),tz,v0,(iz x67),(iz x30),v60] <|
 C.int .i64 s163.env[6]? fun x166 =>
 sames C s163.env 7 [(iz x69),(iz (IntKind.wrap .i64 x152)),v157] <|
 C.int .i64 s163.env[10]? fun x167 =>
 sames C s163.env 11 [(iz x31),(.str s32),(iz x33),(.bool b34),(.bool b35),v36,v37,(.bool b38),v39,v40,v41,v42,v43,v44,v45,v46,v47,(.str a0),(iz (((List.length a0):Nat):Int)),bf,tz,(.str a0),(.int .u8 x52),(iz (IntKind.wrap .i64 x52)),(.str a0),(.int .u8 x53),(iz (IntKind.wrap .i64 x53)),(.str a0),(.int .u8 x54),(iz (IntKind.wrap .i64 x54)),(.str a0),(.int .u8 x55),(iz (IntKind.wrap .i64 x55)),(.str a0),(.int .u8 x56),(iz (IntKind.wrap .i64 x56)),(.str a0),(.str (List.drop (Int.toNat 10) (List.take (List.length a0) a0))),(iz x57),(.str a0),(.str (List.drop (Int.toNat 14) (List.take (List.length a0) a0))),(iz x58),(.str a0),(.str (List.drop (Int.toNat 18) (List.take (List.length a0) a0))),(iz x59),(.agg [(.zsl true),(iz (IntKind.wrap .i64 x52)),(iz (IntKind.wrap .i64 x53)),(iz (IntKind.wrap .i64 x54)),(iz x57),(iz x58),(iz (IntKind.wrap .i64 x55)),(iz x59),(iz (IntKind.wrap .i64 x56))]),(iz x69),(.str a0),(.int .u8 x149),(iz (IntKind.wrap .i64 x149)),bt,v78,v79,(.str a0),(iz (((List.length a0):Nat):Int)),(iz x68),(iz (IntKind.wrap .i64 (x68+14))),bf,v85,(.str a0),(iz x68),(.int .u8 x152),(iz (IntKind.wrap .i64 x152)),(.str a0),(iz x68),(iz (IntKind.wrap .i64 (x68+1))),(.int .u8 x153),(iz (IntKind.wrap .i64 x153)),(.str a0),(iz x68),(iz (IntKind.wrap .i64 (x68+2))),(.str (List.drop (Int.toNat (IntKind.wrap .i64 (x68+2))) (List.take (List.length a0) a0))),(iz x154),(.str a0),(iz x68),(iz (IntKind.wrap .i64 (x68+6))),(.str (List.drop (Int.toNat (IntKind.wrap .i64 (x68+6))) (List.take (List.length a0) a0))),(iz x155),(.str a0),(iz x68),(iz (IntKind.wrap .i64 (x68+10))),(.str (List.drop (Int.toNat (IntKind.wrap .i64 (x68+10))) (List.take (List.length a0) a0))),(iz x156),(.agg [(.zsl true),(iz (IntKind.wrap .i64 x153)),(iz x154),(iz x155),(iz x156)]),(iz x68),(iz (IntKind.wrap .i64 (x68+14))),(.str a0),(iz (((List.length a0):Nat):Int)),(iz (IntKind.wrap .i64 (x68+14))),(iz (IntKind.wrap .i64 x152)),(iz (IntKind.wrap .i64 (8 * (IntKind.wrap .i64 x152)))),(iz (IntKind.wrap .i64 ((IntKind.wrap .i64 (x68+14))+(IntKind.wrap .i64 (8 * (IntKind.wrap .i64 x152)))))),bf,v120] <|
 anys C s163.env 105 3 <|
 C.any s163.env[108]? fun v171 =>
 C.any s163.env[109]? fun v172 =>
 C.any s163.env[110]? fun v173 =>
 C.any s163.env[111]? fun v174 =>
 C.any s163.env[112]? fun v175 =>
 C.any s163.env[113]? fun v176 =>
 C.any s163.env[114]? fun v177 =>
 C.any s163.env[115]? fun v178 =>
 C.any s163.env[116]? fun v179 =>
 C.any s163.env[117]? fun v180 =>
 C.any s163.env[118]? fun v181 =>
 C.any s163.env[119]? fun v182 =>
 C.any s163.env[120]? fun v183 =>
 C.any s163.env[121]? fun v184 =>
 C.any s163.env[122]? fun v185 =>
 C.any s163.env[123]? fun v186 =>
 C.any s163.env[124]? fun v187 =>
 C.any s163.env[125]? fun v188 =>
 C.any s163.env[126]? fun v189 =>
 sames C s163.env 127 [v143,v144,v145,v146,v147,v148,tz,tz,tz,tz,tz,tz,tz,tz,tz,tz,tz,tz,tz,tz,tz,tz,tz,tz,tz,tz,tz,tz,tz,tz,tz,tz,tz,tz] <|
 cnd (decide (x167 < (IntKind.wrap .i64 x152)))
 (C.hop (St.H s163) (.fldA 0 (.v v157)) fun v190 h191 =>
 C.hop h191 (.load false 1 (.v v190)) fun v192 h193 =>
 cnd (decide (((0:Int)≤x166)∧(x166≤(((List.length a0):Nat):Int))))
 (C.int .i64 (pcall M d 31 [(.str (List.drop (Int.toNat x166) (List.take (List.length a0) a0)))]) fun x194 =>
 cnd (decide (((0:Int)≤(IntKind.wrap .i64 (x166+4)))∧((IntKind.wrap .i64 (x166+4))≤(((List.length a0):Nat):Int))))
 (C.int .i64 (pcall M d 31 [(.str (List.drop (Int.toNat (IntKind.wrap .i64 (x166+4))) (List.take (List.length a0) a0)))]) fun x195 =>
 C.hop h193 (.mkrow E50 1 [(0,(.v (.agg [(iz x194),(iz x195)])))]) fun v196 h197 =>
 C.hop h197 (.app E50 (.v v192) (.v v196)) fun v198 h199 =>
 C.hop h199 (.fldA 0 (.v v157)) fun v200 h201 =>
 C.hop h201 (.store 1 (.v v200) (.v v198)) fun v202 h203 =>
 k164 .normal ⟨[(.str a0),tz,v0,(iz x67),(iz x30),v60,(iz (IntKind.wrap .i64 (x166+8))),(iz x69),(iz (IntKind.wrap .i64 x152)),v157,(iz (IntKind.wrap .i64 (x167+1))),(iz x31),(.str s32),(iz x33),(bz b34),(bz b35),v36,v37,(bz b38),v39,v40,v41,v42,v43,v44,v45,v46,v47,(.str a0),(iz (((List.length a0):Nat):Int)),bf,tz,(.str a0),(.int .u8 x52),(iz (IntKind.wrap .i64 x52)),(.str a0),(.int .u8 x53),(iz (IntKind.wrap .i64 x53)),(.str a0),(.int .u8 x54),(iz (IntKind.wrap .i64 x54)),(.str a0),(.int .u8 x55),(iz (IntKind.wrap .i64 x55)),(.str a0),(.int .u8 x56),(iz (IntKind.wrap .i64 x56)),(.str a0),(.str (List.drop (Int.toNat 10) (List.take (List.length a0) a0))),(iz x57),(.str a0),(.str (List.drop (Int.toNat 14) (List.take (List.length a0) a0))),(iz x58),(.str a0),(.str (List.drop (Int.toNat 18) (List.take (List.length a0) a0))),(iz x59),(.agg [(.zsl true),(iz (IntKind.wrap .i64 x52)),(iz (IntKind.wrap .i64 x53)),(iz (IntKind.wrap .i64 x54)),(iz x57),(iz x58),(iz (IntKind.wrap .i64 x55)),(iz x59),(iz (IntKind.wrap .i64 x56))]),(iz x69),(.str a0),(.int .u8 x149),(iz (IntKind.wrap .i64 x149)),bt,v78,v79,(.str a0),(iz (((List.length a0):Nat):Int)),(iz x68),(iz (IntKind.wrap .i64 (x68+14))),bf,v85,(.str a0),(iz x68),(.int .u8 x152),(iz (IntKind.wrap .i64 x152)),(.str a0),(iz x68),(iz (IntKind.wrap .i64 (x68+1))),(.int .u8 x153),(iz (IntKind.wrap .i64 x153)),(.str a0),(iz x68),(iz (IntKind.wrap .i64 (x68+2))),(.str (List.drop (Int.toNat (IntKind.wrap .i64 (x68+2))) (List.take (List.length a0) a0))),(iz x154),(.str a0),(iz x68),(iz (IntKind.wrap .i64 (x68+6))),(.str (List.drop (Int.toNat (IntKind.wrap .i64 (x68+6))) (List.take (List.length a0) a0))),(iz x155),(.str a0),(iz x68),(iz (IntKind.wrap .i64 (x68+10))),(.str (List.drop (Int.toNat (IntKind.wrap .i64 (x68+10))) (List.take (List.length a0) a0))),(iz x156),(.agg [(.zsl true),(iz (IntKind.wrap .i64 x153)),(iz x154),(iz x155),(iz x156)]),(iz x68),(iz (IntKind.wrap .i64 (x68+14))),(.str a0),(iz (((List.length a0):Nat):Int)),(iz (IntKind.wrap .i64 (x68+14))),(iz (IntKind.wrap .i64 x152)),(iz (IntKind.wrap .i64 (8 * (IntKind.wrap .i64 x152)))),(iz (IntKind.wrap .i64 ((IntKind.wrap .i64 (x68+14))+(IntKind.wrap .i64 (8 * (IntKind.wrap .i64 x152)))))),bf,v120,(iz x167),(iz (IntKind.wrap .i64 x152)),bt,(iz x167),(iz (IntKind.wrap .i64 (x167+1))),v190,v192,(.str a0),(iz x166),(.str (List.drop (Int.toNat x166) (List.take (List.length a0) a0))),(iz x194),(.str a0),(iz x166),(iz (IntKind.wrap .i64 (x166+4))),(.str (List.drop (Int.toNat (IntKind.wrap .i64 (x166+4))) (List.take (List.length a0) a0))),(iz x195),(.agg [(iz x194),(iz x195)]),v196,v198,v200,(iz x166),(iz (IntKind.wrap .i64 (x166+8))),v143,v144,v145,v146,v147,v148,tz,tz,tz,tz,tz,tz,tz,tz,tz,tz,tz,tz,tz,tz,tz,tz,tz,tz,tz,tz,tz,tz,tz,tz,tz,tz,tz,tz],h203⟩)
 (none))
 (none))
 (k164 (.exit 4) ⟨[(.str a0),tz,v0,(iz x67),(iz x30),v60,(iz x166),(iz x69),(iz (IntKind.wrap .i64 x152)),v157,(iz x167),(iz x31),(.str s32),(iz x33),(bz b34),(bz b35),v36,v37,(bz b38),v39,v40,v41,v42,v43,v44,v45,v46,v47,(.str a0),(iz (((List.length a0):Nat):Int)),bf,tz,(.str a0),(.int .u8 x52),(iz (IntKind.wrap .i64 x52)),(.str a0),(.int .u8 x53),(iz (IntKind.wrap .i64 x53)),(.str a0),(.int .u8 x54),(iz (IntKind.wrap .i64 x54)),(.str a0),(.int .u8 x55),(iz (IntKind.wrap .i64 x55)),(.str a0),(.int .u8 x56),(iz (IntKind.wrap .i64 x56)),(.str a0),(.str (List.drop (Int.toNat 10) (List.take (List.length a0) a0))),(iz x57),(.str a0),(.str (List.drop (Int.toNat 14) (List.take (List.length a0) a0))),(iz x58),(.str a0),(.str (List.drop (Int.toNat 18) (List.take (List.length a0) a0))),(iz x59),(.agg [(.zsl true),(iz (IntKind.wrap .i64 x52)),(iz (IntKind.wrap .i64 x53)),(iz (IntKind.wrap .i64 x54)),(iz x57),(iz x58),(iz (IntKind.wrap .i64 x55)),(iz x59),(iz (IntKind.wrap .i64 x56))]),(iz x69),(.str a0),(.int .u8 x149),(iz (IntKind.wrap .i64 x149)),bt,v78,v79,(.str a0),(iz (((List.length a0):Nat):Int)),(iz x68),(iz (IntKind.wrap .i64 (x68+14))),bf,v85,(.str a0),(iz x68),(.int .u8 x152),(iz (IntKind.wrap .i64 x152)),(.str a0),(iz x68),(iz (IntKind.wrap .i64 (x68+1))),(.int .u8 x153),(iz (IntKind.wrap .i64 x153)),(.str a0),(iz x68),(iz (IntKind.wrap .i64 (x68+2))),(.str (List.drop (Int.toNat (IntKind.wrap .i64 (x68+2))) (List.take (List.length a0) a0))),(iz x154),(.str a0),(iz x68),(iz (IntKind.wrap .i64 (x68+6))),(.str (List.drop (Int.toNat (IntKind.wrap .i64 (x68+6))) (List.take (List.length a0) a0))),(iz x155),(.str a0),(iz x68),(iz (IntKind.wrap .i64 (x68+10))),(.str (List.drop (Int.toNat (IntKind.wrap .i64 (x68+10))) (List.take (List.length a0) a0))),(iz x156),(.agg [(.zsl true),(iz (IntKind.wrap .i64 x153)),(iz x154),(iz x155),(iz x156)]),(iz x68),(iz (IntKind.wrap .i64 (x68+14))),(.str a0),(iz (((List.length a0):Nat):Int)),(iz (IntKind.wrap .i64 (x68+14))),(iz (IntKind.wrap .i64 x152)),(iz (IntKind.wrap .i64 (8 * (IntKind.wrap .i64 x152)))),(iz (IntKind.wrap .i64 ((IntKind.wrap .i64 (x68+14))+(IntKind.wrap .i64 (8 * (IntKind.wrap .i64 x152)))))),bf,v120,(iz x167),(iz (IntKind.wrap .i64 x152)),bf,v171,v172,v173,v174,v175,v176,v177,v178,v179,v180,v181,v182,v183,v184,v185,v186,v187,v188,v189,v143,v144,v145,v146,v147,v148,tz,tz,tz,tz,tz,tz,tz,tz,tz,tz,tz,tz,tz,tz,tz,tz,tz,tz,tz,tz,tz,tz,tz,tz,tz,tz,tz,tz],(St.H s163)⟩))
 (none)
def r16X2_0 (C:Cb) (d:Nat) (a0:List UInt8) (v0:AV) (x30 x31:Int) (s32:List UInt8) (x33:Int) (b34 b35:Bool) (v36 v37:AV) (b38:Bool) (v39 v40 v41 v42 v43 v44 v45 v46 v47:AV) (x52 x53 x54 x55 x56 x57 x58 x59:Int) (v60:AV) (k65:Ex→St→Ans) (x67 x68 x69:Int) (v78 v79 v85 v120 v143 v144 v145 v146 v147 v148:AV) (x149 x152 x153 x154 x155 x156:Int) (v157:AV):St→Ans:=fun s204 =>
 cnd ((List.length s204.env) == 161)
 (sames C s204.env 0 [(.str a0),tz,v0,(iz x67),(iz x30),v60] <|
 C.int .i64 s204.env[6]? fun x205 =>
 sames C s204.env 7 [(iz x69),(iz (IntKind.wrap .i64 x152)),v157] <|
 C.int .i64 s204.env[10]? fun x206 =>
 sames C s204.env 11 [(iz x31),(.str s32),(iz x33),(.bool b34),(.bool b35),v36,v37,(.bool b38),v39,v40,v41,v42,v43,v44,v45,v46,v47,(.str a0),(iz (((List.length a0):Nat):Int)),bf,tz,(.str a0),(.int .u8 x52),(iz (IntKind.wrap .i64 x52)),(.str a0),(.int .u8 x53),(iz (IntKind.wrap .i64 x53)),(.str a0),(.int .u8 x54),(iz (IntKind.wrap .i64 x54)),(.str a0),(.int .u8 x55),(iz (IntKind.wrap .i64 x55)),(.str a0),(.int .u8 x56),(iz (IntKind.wrap .i64 x56)),(.str a0),(.str (List.drop (Int.toNat 10) (List.take (List.length a0) a0))),(iz x57),(.str a0),(.str (List.drop (Int.toNat 14) (List.take (List.length a0) a0))),(iz x58),(.str a0),(.str (List.drop (Int.toNat 18) (List.take (List.length a0) a0))),(iz x59),(.agg [(.zsl true),(iz (IntKind.wrap .i64 x52)),(iz (IntKind.wrap .i64 x53)),(iz (IntKind.wrap .i64 x54)),(iz x57),(iz x58),(iz (IntKind.wrap .i64 x55)),(iz x59),(iz (IntKind.wrap .i64 x56))]),(iz x69),(.str a0),(.int .u8 x149),(iz (IntKind.wrap .i64 x149)),bt,v78,v79,(.str a0),(iz (((List.length a0):Nat):Int)),(iz x68),(iz (IntKind.wrap .i64 (x68+14))),bf,v85,(.str a0),(iz x68),(.int .u8 x152),(iz (IntKind.wrap .i64 x152)),(.str a0),(iz x68),(iz (IntKind.wrap .i64 (x68+1))),(.int .u8 x153),(iz (IntKind.wrap .i64 x153)),(.str a0),(iz x68),(iz (IntKind.wrap .i64 (x68+2))),(.str (List.drop (Int.toNat (IntKind.wrap .i64 (x68+2))) (List.take (List.length a0) a0))),(iz x154),(.str a0),(iz x68),(iz (IntKind.wrap .i64 (x68+6))),(.str (List.drop (Int.toNat (IntKind.wrap .i64 (x68+6))) (List.take (List.length a0) a0))),(iz x155),(.str a0),(iz x68),(iz (IntKind.wrap .i64 (x68+10))),(.str (List.drop (Int.toNat (IntKind.wrap .i64 (x68+10))) (List.take (List.length a0) a0))),(iz x156),(.agg [(.zsl true),(iz (IntKind.wrap .i64 x153)),(iz x154),(iz x155),(iz x156)]),(iz x68),(iz (IntKind.wrap .i64 (x68+14))),(.str a0),(iz (((List.length a0):Nat):Int)),(iz (IntKind.wrap .i64 (x68+14))),(iz (IntKind.wrap .i64 x152)),(iz (IntKind.wrap .i64 (8 * (IntKind.wrap .i64 x152)))),(iz (IntKind.wrap .i64 ((IntKind.wrap .i64 (x68+14))+(IntKind.wrap .i64 (8 * (IntKind.wrap .i64 x152)))))),bf,v120] <|
 C.int .i64 s204.env[105]? fun x207 =>
 C.int .i64 s204.env[106]? fun x208 =>
 C.bool s204.env[107]? fun b209 =>
 C.any s204.env[108]? fun v210 =>
 C.any s204.env[109]? fun v211 =>
 C.any s204.env[110]? fun v212 =>
 C.any s204.env[111]? fun v213 =>
 C.any s204.env[112]? fun v214 =>
 C.any s204.env[113]? fun v215 =>
 C.any s204.env[114]? fun v216 =>
 C.any s204.env[115]? fun v217 =>
 C.any s204.env[116]? fun v218 =>
 C.any s204.env[117]? fun v219 =>
 C.any s204.env[118]? fun v220 =>
 C.any s204.env[119]? fun v221 =>
 C.any s204.env[120]? fun v222 =>
 C.any s204.env[121]? fun v223 =>
 C.any s204.env[122]? fun v224 =>
 C.any s204.env[123]? fun v225 =>
 C.any s204.env[124]? fun v226 =>
 C.any s204.env[125]? fun v227 =>
 C.any s204.env[126]? fun v228 =>
 sames C s204.env 127 [v143,v144,v145,v146,v147,v148,tz,tz,tz,tz,tz,tz,tz,tz,tz,tz,tz,tz,tz,tz,tz,tz,tz,tz,tz,tz,tz,tz,tz,tz,tz,tz,tz,tz] <|
 C.hop (St.H s204) (.fldA 0 (.v v60)) fun v229 h230 =>
 C.hop h230 (.load false 1 (.v v229)) fun v231 h232 =>
 C.hop h232 (.load true 5 (.v v157)) fun v233 h234 =>
 C.agg 5 (some v233) fun l235 =>
 C.any l235[0]? fun v236 =>
 C.int .i64 l235[1]? fun x237 =>
 C.int .i64 l235[2]? fun x238 =>
 C.int .i64 l235[3]? fun x239 =>
 C.int .i64 l235[4]? fun x240 =>
 C.hop h234 (.mkrow E46 1 [(0,(.v (.agg [v236,(iz x237),(iz x238),(iz x239),(iz x240)])))]) fun v241 h242 =>
 C.hop h242 (.app E46 (.v v231) (.v v241)) fun v243 h244 =>
 C.hop h244 (.fldA 0 (.v v60)) fun v245 h246 =>
 C.hop h246 (.store 1 (.v v245) (.v v243)) fun v247 h248 =>
 k65 .normal ⟨[(.str a0),tz,v0,(iz x67),(iz x30),v60,(iz x205),(iz (IntKind.wrap .i64 (x69+1))),(iz (IntKind.wrap .i64 x152)),v157,(iz x206),(iz x31),(.str s32),(iz x33),(bz b34),(bz b35),v36,v37,(bz b38),v39,v40,v41,v42,v43,v44,v45,v46,v47,(.str a0),(iz (((List.length a0):Nat):Int)),bf,tz,(.str a0),(.int .u8 x52),(iz (IntKind.wrap .i64 x52)),(.str a0),(.int .u8 x53),(iz (IntKind.wrap .i64 x53)),(.str a0),(.int .u8 x54),(iz (IntKind.wrap .i64 x54)),(.str a0),(.int .u8 x55),(iz (IntKind.wrap .i64 x55)),(.str a0),(.int .u8 x56),(iz (IntKind.wrap .i64 x56)),(.str a0),(.str (List.drop (Int.toNat 10) (List.take (List.length a0) a0))),(iz x57),(.str a0),(.str (List.drop (Int.toNat 14) (List.take (List.length a0) a0))),(iz x58),(.str a0),(.str (List.drop (Int.toNat 18) (List.take (List.length a0) a0))),(iz x59),(.agg [(.zsl true),(iz (IntKind.wrap .i64 x52)),(iz (IntKind.wrap .i64 x53)),(iz (IntKind.wrap .i64 x54)),(iz x57),(iz x58),(iz (IntKind.wrap .i64 x55)),(iz x59),(iz (IntKind.wrap .i64 x56))]),(iz x69),(.str a0),(.int .u8 x149),(iz (IntKind.wrap .i64 x149)),bt,(iz x69),(iz (IntKind.wrap .i64 (x69+1))),(.str a0),(iz (((List.length a0):Nat):Int)),(iz x68),(iz (IntKind.wrap .i64 (x68+14))),bf,v85,(.str a0),(iz x68),(.int .u8 x152),(iz (IntKind.wrap .i64 x152)),(.str a0),(iz x68),(iz (IntKind.wrap .i64 (x68+1))),(.int .u8 x153),(iz (IntKind.wrap .i64 x153)),(.str a0),(iz x68),(iz (IntKind.wrap .i64 (x68+2))),(.str (List.drop (Int.toNat (IntKind.wrap .i64 (x68+2))) (List.take (List.length a0) a0))),(iz x154),(.str a0),(iz x68),(iz (IntKind.wrap .i64 (x68+6))),(.str (List.drop (Int.toNat (IntKind.wrap .i64 (x68+6))) (List.take (List.length a0) a0))),(iz x155),(.str a0),(iz x68),(iz (IntKind.wrap .i64 (x68+10))),(.str (List.drop (Int.toNat (IntKind.wrap .i64 (x68+10))) (List.take (List.length a0) a0))),(iz x156),(.agg [(.zsl true),(iz (IntKind.wrap .i64 x153)),(iz x154),(iz x155),(iz x156)]),(iz x68),(iz (IntKind.wrap .i64 (x68+14))),(.str a0),(iz (((List.length a0):Nat):Int)),(iz (IntKind.wrap .i64 (x68+14))),(iz (IntKind.wrap .i64 x152)),(iz (IntKind.wrap .i64 (8 * (IntKind.wrap .i64 x152)))),(iz (IntKind.wrap .i64 ((IntKind.wrap .i64 (x68+14))+(IntKind.wrap .i64 (8 * (IntKind.wrap .i64 x152)))))),bf,v120,(iz x207),(iz x208),(bz b209),v210,v211,v212,v213,v214,v215,v216,v217,v218,v219,v220,v221,v222,v223,v224,v225,v226,v227,v228,v229,v231,(.agg [v236,(iz x237),(iz x238),(iz x239),(iz x240)]),v241,v243,v245,tz,tz,tz,tz,tz,tz,tz,tz,tz,tz,tz,tz,tz,tz,tz,tz,tz,tz,tz,tz,tz,tz,tz,tz,tz,tz,tz,tz],h248⟩)
 (none)
def r16E2 (C:Cb) (d:Nat) (a0:List UInt8) (v0:AV) (x30 x31:Int) (s32:List UInt8) (x33:Int) (b34 b35:Bool) (v36 v37:AV) (b38:Bool) (v39 v40 v41 v42 v43 v44 v45 v46 v47:AV) (x52 x53 x54 x55 x56 x57 x58 x59:Int) (v60:AV) (k65:Ex→St→Ans) (x67 x68 x69:Int) (v78 v79 v85 v120 v143 v144 v145 v146 v147 v148:AV) (x149 x152 x153 x154 x155 x156:Int) (v157:AV):St→Ans:=fun s165 =>
 cnd ((List.length s165.env) == 161)
 (sames C s165.env 0 [(.str a0),tz,v0,(iz x67),(iz x30),v60] <|
 C.int .i64 s165.env[6]? fun x249 =>
 sames C s165.env 7 [(iz x69),(iz (IntKind.wrap .i64 x152)),v157] <|
 C.int .i64 s165.env[10]? fun x250 =>
 sames C s165.env 11 [(iz x31),(.str s32),(iz x33),(.bool b34),(.bool b35),v36,v37,(.bool b38),v39,v40,v41,v42,v43,v44,v45,v46,v47,(.str a0),(iz (((List.length a0):Nat):Int)),bf,tz,(.str a0),(.int .u8 x52),(iz (IntKind.wrap .i64 x52)),(.str a0),(.int .u8 x53),(iz (IntKind.wrap .i64 x53)),(.str a0),(.int .u8 x54),(iz (IntKind.wrap .i64 x54)),(.str a0),(.int .u8 x55),(iz (IntKind.wrap .i64 x55)),(.str a0),(.int .u8 x56),(iz (IntKind.wrap .i64 x56)),(.str a0),(.str (List.drop (Int.toNat 10) (List.take (List.length a0) a0))),(iz x57),(.str a0),(.str (List.drop (Int.toNat 14) (List.take (List.length a0) a0))),(iz x58),(.str a0),(.str (List.drop (Int.toNat 18) (List.take (List.length a0) a0))),(iz x59),(.agg [(.zsl true),(iz (IntKind.wrap .i64 x52)),(iz (IntKind.wrap .i64 x53)),(iz (IntKind.wrap .i64 x54)),(iz x57),(iz x58),(iz (IntKind.wrap .i64 x55)),(iz x59),(iz (IntKind.wrap .i64 x56))]),(iz x69),(.str a0),(.int .u8 x149),(iz (IntKind.wrap .i64 x149)),bt,v78,v79,(.str a0),(iz (((List.length a0):Nat):Int)),(iz x68),(iz (IntKind.wrap .i64 (x68+14))),bf,v85,(.str a0),(iz x68),(.int .u8 x152),(iz (IntKind.wrap .i64 x152)),(.str a0),(iz x68),(iz (IntKind.wrap .i64 (x68+1))),(.int .u8 x153),(iz (IntKind.wrap .i64 x153)),(.str a0),(iz x68),(iz (IntKind.wrap .i64 (x68+2))),(.str (List.drop (Int.toNat (IntKind.wrap .i64 (x68+2))) (List.take (List.length a0) a0))),(iz x154),(.str a0),(iz x68),(iz (IntKind.wrap .i64 (x68+6))),(.str (List.drop (Int.toNat (IntKind.wrap .i64 (x68+6))) (List.take (List.length a0) a0))),(iz x155),(.str a0),(iz x68),(iz (IntKind.wrap .i64 (x68+10))),(.str (List.drop (Int.toNat (IntKind.wrap .i64 (x68+10))) (List.take (List.length a0) a0))),(iz x156),(.agg [(.zsl true),(iz (IntKind.wrap .i64 x153)),(iz x154),(iz x155),(iz x156)]),(iz x68),(iz (IntKind.wrap .i64 (x68+14))),(.str a0),(iz (((List.length a0):Nat):Int)),(iz (IntKind.wrap .i64 (x68+14))),(iz (IntKind.wrap .i64 x152)),(iz (IntKind.wrap .i64 (8 * (IntKind.wrap .i64 x152)))),(iz (IntKind.wrap .i64 ((IntKind.wrap .i64 (x68+14))+(IntKind.wrap .i64 (8 * (IntKind.wrap .i64 x152)))))),bf,v120] <|
 C.any s165.env[105]? fun v251 =>
 C.any s165.env[106]? fun v252 =>
 C.any s165.env[107]? fun v253 =>
 C.any s165.env[108]? fun v254 =>
 C.any s165.env[109]? fun v255 =>
 C.any s165.env[110]? fun v256 =>
 C.any s165.env[111]? fun v257 =>
 C.any s165.env[112]? fun v258 =>
 C.any s165.env[113]? fun v259 =>
 C.any s165.env[114]? fun v260 =>
 C.any s165.env[115]? fun v261 =>
 C.any s165.env[116]? fun v262 =>
 C.any s165.env[117]? fun v263 =>
 C.any s165.env[118]? fun v264 =>
 C.any s165.env[119]? fun v265 =>
 C.any s165.env[120]? fun v266 =>
 C.any s165.env[121]? fun v267 =>
 C.any s165.env[122]? fun v268 =>
 C.any s165.env[123]? fun v269 =>
 C.any s165.env[124]? fun v270 =>
 C.any s165.env[125]? fun v271 =>
 C.any s165.env[126]? fun v272 =>
 sames C s165.env 127 [v143,v144,v145,v146,v147,v148,tz,tz,tz,tz,tz,tz,tz,tz,tz,tz,tz,tz,tz,tz,tz,tz,tz,tz,tz,tz,tz,tz,tz,tz,tz,tz,tz,tz] <|
 k65 .ret ⟨[(.str a0),tz,v0,(iz x67),(iz x30),v60,(iz x249),(iz x69),(iz (IntKind.wrap .i64 x152)),v157,(iz x250),(iz x31),(.str s32),(iz x33),(bz b34),(bz b35),v36,v37,(bz b38),v39,v40,v41,v42,v43,v44,v45,v46,v47,(.str a0),(iz (((List.length a0):Nat):Int)),bf,tz,(.str a0),(.int .u8 x52),(iz (IntKind.wrap .i64 x52)),(.str a0),(.int .u8 x53),(iz (IntKind.wrap .i64 x53)),(.str a0),(.int .u8 x54),(iz (IntKind.wrap .i64 x54)),(.str a0),(.int .u8 x55),(iz (IntKind.wrap .i64 x55)),(.str a0),(.int .u8 x56),(iz (IntKind.wrap .i64 x56)),(.str a0),(.str (List.drop (Int.toNat 10) (List.take (List.length a0) a0))),(iz x57),(.str a0),(.str (List.drop (Int.toNat 14) (List.take (List.length a0) a0))),(iz x58),(.str a0),(.str (List.drop (Int.toNat 18) (List.take (List.length a0) a0))),(iz x59),(.agg [(.zsl true),(iz (IntKind.wrap .i64 x52)),(iz (IntKind.wrap .i64 x53)),(iz (IntKind.wrap .i64 x54)),(iz x57),(iz x58),(iz (IntKind.wrap .i64 x55)),(iz x59),(iz (IntKind.wrap .i64 x56))]),(iz x69),(.str a0),(.int .u8 x149),(iz (IntKind.wrap .i64 x149)),bt,v78,v79,(.str a0),(iz (((List.length a0):Nat):Int)),(iz x68),(iz (IntKind.wrap .i64 (x68+14))),bf,v85,(.str a0),(iz x68),(.int .u8 x152),(iz (IntKind.wrap .i64 x152)),(.str a0),(iz x68),(iz (IntKind.wrap .i64 (x68+1))),(.int .u8 x153),(iz (IntKind.wrap .i64 x153)),(.str a0),(iz x68),(iz (IntKind.wrap .i64 (x68+2))),(.str (List.drop (Int.toNat (IntKind.wrap .i64 (x68+2))) (List.take (List.length a0) a0))),(iz x154),(.str a0),(iz x68),(iz (IntKind.wrap .i64 (x68+6))),(.str (List.drop (Int.toNat (IntKind.wrap .i64 (x68+6))) (List.take (List.length a0) a0))),(iz x155),(.str a0),(iz x68),(iz (IntKind.wrap .i64 (x68+10))),(.str (List.drop (Int.toNat (IntKind.wrap .i64 (x68+10))) (List.take (List.length a0) a0))),(iz x156),(.agg [(.zsl true),(iz (IntKind.wrap .i64 x153)),(iz x154),(iz x155),(iz x156)]),(iz x68),(iz (IntKind.wrap .i64 (x68+14))),(.str a0),(iz (((List.length a0):Nat):Int)),(iz (IntKind.wrap .i64 (x68+14))),(iz (IntKind.wrap .i64 x152)),(iz (IntKind.wrap .i64 (8 * (IntKind.wrap .i64 x152)))),(iz (IntKind.wrap .i64 ((IntKind.wrap .i64 (x68+14))+(IntKind.wrap .i64 (8 * (IntKind.wrap .i64 x152)))))),bf,v120,v251,v252,v253,v254,v255,v256,v257,v258,v259,v260,v261,v262,v263,v264,v265,v266,v267,v268,v269,v270,v271,v272,v143,v144,v145,v146,v147,v148,tz,tz,tz,tz,tz,tz,tz,tz,tz,tz,tz,tz,tz,tz,tz,tz,tz,tz,tz,tz,tz,tz,tz,tz,tz,tz,tz,tz],(St.H s165)⟩)
 (none)
def r16R1 (C:Cb) (d:Nat) (a0:List UInt8) (v0:AV) (x30 x31:Int) (s32:List UInt8) (x33:Int) (b34 b35:Bool) (v36 v37:AV) (b38:Bool) (v39 v40 v41 v42 v43 v44 v45 v46 v47:AV) (x52 x53 x54 x55 x56 x57 x58 x59:Int) (v60:AV):St→(Ex→St→Ans)→Ans:=fun s64 k65 =>
 cnd ((List.length s64.env) == 161)
 (sames C s64.env 0 [(.str a0),tz,v0] <|
 C.int .i64 s64.env[3]? fun x67 =>
 sames C s64.env 4 [(iz x30),v60] <|
 C.int .i64 s64.env[6]? fun x68 =>
 C.int .i64 s64.env[7]? fun x69 =>
 C.any s64.env[8]? fun v70 =>
 C.any s64.env[9]? fun v71 =>
 C.any s64.env[10]? fun v72 =>
 sames C s64.env 11 [(iz x31),(.str s32),(iz x33),(.bool b34),(.bool b35),v36,v37,(.bool b38),v39,v40,v41,v42,v43,v44,v45,v46,v47,(.str a0),(iz (((List.length a0):Nat):Int)),bf,tz,(.str a0),(.int .u8 x52),(iz (IntKind.wrap .i64 x52)),(.str a0),(.int .u8 x53),(iz (IntKind.wrap .i64 x53)),(.str a0),(.int .u8 x54),(iz (IntKind.wrap .i64 x54)),(.str a0),(.int .u8 x55),(iz (IntKind.wrap .i64 x55)),(.str a0),(.int .u8 x56),(iz (IntKind.wrap .i64 x56)),(.str a0),(.str (List.drop (Int.toNat 10) (List.take (List.length a0) a0))),(iz x57),(.str a0),(.str (List.drop (Int.toNat 14) (List.take (List.length a0) a0))),(iz x58),(.str a0),(.str (List.drop (Int.toNat 18) (List.take (List.length a0) a0))),(iz x59),(.agg [(.zsl true),(iz (IntKind.wrap .i64 x52)),(iz (IntKind.wrap .i64 x53)),(iz (IntKind.wrap .i64 x54)),(iz x57),(iz x58),(iz (IntKind.wrap .i64 x55)),(iz x59),(iz (IntKind.wrap .i64 x56))])] <|
 anys C s64.env 57 5 <|
 C.any s64.env[62]? fun v78 =>
 C.any s64.env[63]? fun v79 =>
 C.any s64.env[64]? fun v80 =>
 C.any s64.env[65]? fun v81 =>
 C.any s64.env[66]? fun v82 =>
 C.any s64.env[67]? fun v83 =>
 C.any s64.env[68]? fun v84 =>
 C.any s64.env[69]? fun v85 =>
 C.any s64.env[70]? fun v86 =>
 C.any s64.env[71]? fun v87 =>
 C.any s64.env[72]? fun v88 =>
 C.any s64.env[73]? fun v89 =>
 C.any s64.env[74]? fun v90 =>
 C.any s64.env[75]? fun v91 =>
 C.any s64.env[76]? fun v92 =>
 C.any s64.env[77]? fun v93 =>
 C.any s64.env[78]? fun v94 =>
 C.any s64.env[79]? fun v95 =>
 C.any s64.env[80]? fun v96 =>
 C.any s64.env[81]? fun v97 =>
 C.any s64.env[82]? fun v98 =>
 C.any s64.env[83]? fun v99 =>
 C.any s64.env[84]? fun v100 =>
 C.any s64.env[85]? fun v101 =>
 C.any s64.env[86]? fun v102 =>
 C.any s64.env[87]? fun v103 =>
 C.any s64.env[88]? fun v104 =>
 C.any s64.env[89]? fun v105 =>
 C.any s64.env[90]? fun v106 =>
 C.any s64.env[91]? fun v107 =>
 C.any s64.env[92]? fun v108 =>
 C.any s64.env[93]? fun v109 =>
 C.any s64.env[94]? fun v110 =>
 C.any s64.env[95]? fun v111 =>
 C.any s64.env[96]? fun v112 =>
 C.any s64.env[97]? fun v113 =>
 C.any s64.env[98]? fun v114 =>
 C.any s64.env[99]? fun v115 =>
 C.any s64.env[100]? fun v116 =>
 C.any s64.env[101]? fun v117 =>
 C.any s64.env[102]? fun v118 =>
 C.any s64.env[103]? fun v119 =>
 C.any s64.env[104]? fun v120 =>
 C.any s64.env[105]? fun v121 =>
 C.any s64.env[106]? fun v122 =>
 C.any s64.env[107]? fun v123 =>
 C.any s64.env[108]? fun v124 =>
 C.any s64.env[109]? fun v125 =>
 C.any s64.env[110]? fun v126 =>
 C.any s64.env[111]? fun v127 =>
 C.any s64.env[112]? fun v128 =>
 C.any s64.env[113]? fun v129 =>
 C.any s64.env[114]? fun v130 =>
 C.any s64.env[115]? fun v131 =>
 C.any s64.env[116]? fun v132 =>
 C.any s64.env[117]? fun v133 =>
 C.any s64.env[118]? fun v134 =>
 C.any s64.env[119]? fun v135 =>
 C.any s64.env[120]? fun v136 =>
 C.any s64.env[121]? fun v137 =>
 C.any s64.env[122]? fun v138 =>
 C.any s64.env[123]? fun v139 =>
 C.any s64.env[124]? fun v140 =>
 C.any s64.env[125]? fun v141 =>
 C.any s64.env[126]? fun v142 =>
 C.any s64.env[127]? fun v143 =>
 C.any s64.env[128]? fun v144 =>
 C.any s64.env[129]? fun v145 =>
 C.any s64.env[130]? fun v146 =>
 C.any s64.env[131]? fun v147 =>
 C.any s64.env[132]? fun v148 =>
 sames C s64.env 133 [tz,tz,tz,tz,tz,tz,tz,tz,tz,tz,tz,tz,tz,tz,tz,tz,tz,tz,tz,tz,tz,tz,tz,tz,tz,tz,tz,tz] <|
 C.int .u8 (Option.map (fun b:UInt8=>AV.int .u8 (b.toNat:Int)) a0[4]?) fun x149 =>
 cnd (decide (x69 < (IntKind.wrap .i64 x149)))
 (cnd (decide ((((List.length a0):Nat):Int) < (IntKind.wrap .i64 (x68+14))))
 (C.hop (St.H s64) (.store 9 (.v v0) (.v (.agg [(.zsl true),(iz 0),(iz 0),(iz 0),(iz 0),(iz 0),(iz 0),(iz 0),(iz 0)]))) fun v150 h151 =>
 k65 .ret ⟨[(.str a0),tz,v0,(iz 5),(iz x30),v60,(iz x68),(iz x69),v70,v71,v72,(iz x31),(.str s32),(iz x33),(bz b34),(bz b35),v36,v37,(bz b38),v39,v40,v41,v42,v43,v44,v45,v46,v47,(.str a0),(iz (((List.length a0):Nat):Int)),bf,tz,(.str a0),(.int .u8 x52),(iz (IntKind.wrap .i64 x52)),(.str a0),(.int .u8 x53),(iz (IntKind.wrap .i64 x53)),(.str a0),(.int .u8 x54),(iz (IntKind.wrap .i64 x54)),(.str a0),(.int .u8 x55),(iz (IntKind.wrap .i64 x55)),(.str a0),(.int .u8 x56),(iz (IntKind.wrap .i64 x56)),(.str a0),(.str (List.drop (Int.toNat 10) (List.take (List.length a0) a0))),(iz x57),(.str a0),(.str (List.drop (Int.toNat 14) (List.take (List.length a0) a0))),(iz x58),(.str a0),(.str (List.drop (Int.toNat 18) (List.take (List.length a0) a0))),(iz x59),(.agg [(.zsl true),(iz (IntKind.wrap .i64 x52)),(iz (IntKind.wrap .i64 x53)),(iz (IntKind.wrap .i64 x54)),(iz x57),(iz x58),(iz (IntKind.wrap .i64 x55)),(iz x59),(iz (IntKind.wrap .i64 x56))]),(iz x69),(.str a0),(.int .u8 x149),(iz (IntKind.wrap .i64 x149)),bt,v78,v79,(.str a0),(iz (((List.length a0):Nat):Int)),(iz x68),(iz (IntKind.wrap .i64 (x68+14))),bt,(.agg [(.zsl true),(iz 0),(iz 0),(iz 0),(iz 0),(iz 0),(iz 0),(iz 0),(iz 0)]),v86,v87,v88,v89,v90,v91,v92,v93,v94,v95,v96,v97,v98,v99,v100,v101,v102,v103,v104,v105,v106,v107,v108,v109,v110,v111,v112,v113,v114,v115,v116,v117,v118,v119,v120,v121,v122,v123,v124,v125,v126,v127,v128,v129,v130,v131,v132,v133,v134,v135,v136,v137,v138,v139,v140,v141,v142,v143,v144,v145,v146,v147,v148,tz,tz,tz,tz,tz,tz,tz,tz,tz,tz,tz,tz,tz,tz,tz,tz,tz,tz,tz,tz,tz,tz,tz,tz,tz,tz,tz,tz],h151⟩)
 (cnd (decide ((0:Int)≤x68))
 (C.int .u8 (Option.map (fun b:UInt8=>AV.int .u8 (b.toNat:Int)) a0[(Int.toNat x68)]?) fun x152 =>
 cnd (decide ((0:Int)≤(IntKind.wrap .i64 (x68+1))))
 (C.int .u8 (Option.map (fun b:UInt8=>AV.int .u8 (b.toNat:Int)) a0[(Int.toNat (IntKind.wrap .i64 (x68+1)))]?) fun x153 =>
 cnd (decide (((0:Int)≤(IntKind.wrap .i64 (x68+2)))∧((IntKind.wrap .i64 (x68+2))≤(((List.length a0):Nat):Int))))
 (C.int .i64 (pcall M d 30 [(.str (List.drop (Int.toNat (IntKind.wrap .i64 (x68+2))) (List.take (List.length a0) a0)))]) fun x154 =>
 cnd (decide (((0:Int)≤(IntKind.wrap .i64 (x68+6)))∧((IntKind.wrap .i64 (x68+6))≤(((List.length a0):Nat):Int))))
 (C.int .i64 (pcall M d 30 [(.str (List.drop (Int.toNat (IntKind.wrap .i64 (x68+6))) (List.take (List.length a0) a0)))]) fun x155 =>
 cnd (decide (((0:Int)≤(IntKind.wrap .i64 (x68+10)))∧((IntKind.wrap .i64 (x68+10))≤(((List.length a0):Nat):Int))))
 (C.int .i64 (pcall M d 30 [(.str (List.drop (Int.toNat (IntKind.wrap .i64 (x68+10))) (List.take (List.length a0) a0)))]) fun x156 =>
 C.hop (St.H s64) (.alloc E46) fun v157 h158 =>
 C.hop h158 (.store 5 (.v v157) (.v (.agg [(.zsl true),(iz (IntKind.wrap .i64 x153)),(iz x154),(iz x155),(iz x156)]))) fun v159 h160 =>
 cnd (decide ((((List.length a0):Nat):Int) < (IntKind.wrap .i64 ((IntKind.wrap .i64 (x68+14))+(IntKind.wrap .i64 (8 * (IntKind.wrap .i64 x152)))))))
 (C.hop h160 (.store 9 (.v v0) (.v (.agg [(.zsl true),(iz 0),(iz 0),(iz 0),(iz 0),(iz 0),(iz 0),(iz 0),(iz 0)]))) fun v161 h162 =>
 k65 .ret ⟨[(.str a0),tz,v0,(iz 5),(iz x30),v60,(iz (IntKind.wrap .i64 (x68+14))),(iz x69),(iz (IntKind.wrap .i64 x152)),v157,v72,(iz x31),(.str s32),(iz x33),(bz b34),(bz b35),v36,v37,(bz b38),v39,v40,v41,v42,v43,v44,v45,v46,v47,(.str a0),(iz (((List.length a0):Nat):Int)),bf,tz,(.str a0),(.int .u8 x52),(iz (IntKind.wrap .i64 x52)),(.str a0),(.int .u8 x53),(iz (IntKind.wrap .i64 x53)),(.str a0),(.int .u8 x54),(iz (IntKind.wrap .i64 x54)),(.str a0),(.int .u8 x55),(iz (IntKind.wrap .i64 x55)),(.str a0),(.int .u8 x56),(iz (IntKind.wrap .i64 x56)),(.str a0),(.str (List.drop (Int.toNat 10) (List.take (List.length a0) a0))),(iz x57),(.str a0),(.str (List.drop (Int.toNat 14) (List.take (List.length a0) a0))),(iz x58),(.str a0),(.str (List.drop (Int.toNat 18) (List.take (List.length a0) a0))),(iz x59),(.agg [(.zsl true),(iz (IntKind.wrap .i64 x52)),(iz (IntKind.wrap .i64 x53)),(iz (IntKind.wrap .i64 x54)),(iz x57),(iz x58),(iz (IntKind.wrap .i64 x55)),(iz x59),(iz (IntKind.wrap .i64 x56))]),(iz x69),(.str a0),(.int .u8 x149),(iz (IntKind.wrap .i64 x149)),bt,v78,v79,(.str a0),(iz (((List.length a0):Nat):Int)),(iz x68),(iz (IntKind.wrap .i64 (x68+14))),bf,v85,(.str a0),(iz x68),(.int .u8 x152),(iz (IntKind.wrap .i64 x152)),(.str a0),(iz x68),(iz (IntKind.wrap .i64 (x68+1))),(.int .u8 x153),(iz (IntKind.wrap .i64 x153)),(.str a0),(iz x68),(iz (IntKind.wrap .i64 (x68+2))),(.str (List.drop (Int.toNat (IntKind.wrap .i64 (x68+2))) (List.take (List.length a0) a0))),(iz x154),(.str a0),(iz x68),(iz (IntKind.wrap .i64 (x68+6))),(.str (List.drop (Int.toNat (IntKind.wrap .i64 (x68+6))) (List.take (List.length a0) a0))),(iz x155),(.str a0),(iz x68),(iz (IntKind.wrap .i64 (x68+10))),(.str (List.drop (Int.toNat (IntKind.wrap .i64 (x68+10))) (List.take (List.length a0) a0))),(iz x156),(.agg [(.zsl true),(iz (IntKind.wrap .i64 x153)),(iz x154),(iz x155),(iz x156)]),(iz x68),(iz (IntKind.wrap .i64 (x68+14))),(.str a0),(iz (((List.length a0):Nat):Int)),(iz (IntKind.wrap .i64 (x68+14))),(iz (IntKind.wrap .i64 x152)),(iz (IntKind.wrap .i64 (8 * (IntKind.wrap .i64 x152)))),(iz (IntKind.wrap .i64 ((IntKind.wrap .i64 (x68+14))+(IntKind.wrap .i64 (8 * (IntKind.wrap .i64 x152)))))),bt,(.agg [(.zsl true),(iz 0),(iz 0),(iz 0),(iz 0),(iz 0),(iz 0),(iz 0),(iz 0)]),v121,v122,v123,v124,v125,v126,v127,v128,v129,v130,v131,v132,v133,v134,v135,v136,v137,v138,v139,v140,v141,v142,v143,v144,v145,v146,v147,v148,tz,tz,tz,tz,tz,tz,tz,tz,tz,tz,tz,tz,tz,tz,tz,tz,tz,tz,tz,tz,tz,tz,tz,tz,tz,tz,tz,tz],h162⟩)
 (C.iter (r16R2 C d a0 v0 x30 x31 s32 x33 b34 b35 v36 v37 b38 v39 v40 v41 v42 v43 v44 v45 v46 v47 x52 x53 x54 x55 x56 x57 x58 x59 v60 k65 x67 x68 x69 v78 v79 v85 v120 v143 v144 v145 v146 v147 v148 x149 x152 x153 x154 x155 x156 v157) 10000000000000000000 ⟨[(.str a0),tz,v0,(iz x67),(iz x30),v60,(iz (IntKind.wrap .i64 (x68+14))),(iz x69),(iz (IntKind.wrap .i64 x152)),v157,(iz 0),(iz x31),(.str s32),(iz x33),(bz b34),(bz b35),v36,v37,(bz b38),v39,v40,v41,v42,v43,v44,v45,v46,v47,(.str a0),(iz (((List.length a0):Nat):Int)),bf,tz,(.str a0),(.int .u8 x52),(iz (IntKind.wrap .i64 x52)),(.str a0),(.int .u8 x53),(iz (IntKind.wrap .i64 x53)),(.str a0),(.int .u8 x54),(iz (IntKind.wrap .i64 x54)),(.str a0),(.int .u8 x55),(iz (IntKind.wrap .i64 x55)),(.str a0),(.int .u8 x56),(iz (IntKind.wrap .i64 x56)),(.str a0),(.str (List.drop (Int.toNat 10) (List.take (List.length a0) a0))),(iz x57),(.str a0),(.str (List.drop (Int.toNat 14) (List.take (List.length a0) a0))),(iz x58),(.str a0),(.str (List.drop (Int.toNat 18) (List.take (List.length a0) a0))),(iz x59),(.agg [(.zsl true),(iz (IntKind.wrap .i64 x52)),(iz (IntKind.wrap .i64 x53)),(iz (IntKind.wrap .i64 x54)),(iz x57),(iz x58),(iz (IntKind.wrap .i64 x55)),(iz x59),(iz (IntKind.wrap .i64 x56))]),(iz x69),(.str a0),(.int .u8 x149),(iz (IntKind.wrap .i64 x149)),bt,v78,v79,(.str a0),(iz (((List.length a0):Nat):Int)),(iz x68),(iz (IntKind.wrap .i64 (x68+14))),bf,v85,(.str a0),(iz x68),(.int .u8 x152),(iz (IntKind.wrap .i64 x152)),(.str a0),(iz x68),(iz (IntKind.wrap .i64 (x68+1))),(.int .u8 x153),(iz (IntKind.wrap .i64 x153)),(.str a0),(iz x68),(iz (IntKind.wrap .i64 (x68+2))),(.str (List.drop (Int.toNat (IntKind.wrap .i64 (x68+2))) (List.take (List.length a0) a0))),(iz x154),(.str a0),(iz x68),(iz (IntKind.wrap .i64 (x68+6))),(.str (List.drop (Int.toNat (IntKind.wrap .i64 (x68+6))) (List.take (List.length a0) a0))),(iz x155),(.str a0),(iz x68),(iz (IntKind.wrap .i64 (x68+10))),(.str (List.drop (Int.toNat (IntKind.wrap .i64 (x68+10))) (List.take (List.length a0) a0))),(iz x156),(.agg [(.zsl true),(iz (IntKind.wrap .i64 x153)),(iz x154),(iz x155),(iz x156)]),(iz x68),(iz (IntKind.wrap .i64 (x68+14))),(.str a0),(iz (((List.length a0):Nat):Int)),(iz (IntKind.wrap .i64 (x68+14))),(iz (IntKind.wrap .i64 x152)),(iz (IntKind.wrap .i64 (8 * (IntKind.wrap .i64 x152)))),(iz (IntKind.wrap .i64 ((IntKind.wrap .i64 (x68+14))+(IntKind.wrap .i64 (8 * (IntKind.wrap .i64 x152)))))),bf,v120,v121,v122,v123,v124,v125,v126,v127,v128,v129,v130,v131,v132,v133,v134,v135,v136,v137,v138,v139,v140,v141,v142,v143,v144,v145,v146,v147,v148,tz,tz,tz,tz,tz,tz,tz,tz,tz,tz,tz,tz,tz,tz,tz,tz,tz,tz,tz,tz,tz,tz,tz,tz,tz,tz,tz,tz],h160⟩ [4] [r16X2_0 C d a0 v0 x30 x31 s32 x33 b34 b35 v36 v37 b38 v39 v40 v41 v42 v43 v44 v45 v46 v47 x52 x53 x54 x55 x56 x57 x58 x59 v60 k65 x67 x68 x69 v78 v79 v85 v120 v143 v144 v145 v146 v147 v148 x149 x152 x153 x154 x155 x156 v157] (r16E2 C d a0 v0 x30 x31 s32 x33 b34 b35 v36 v37 b38 v39 v40 v41 v42 v43 v44 v45 v46 v47 x52 x53 x54 x55 x56 x57 x58 x59 v60 k65 x67 x68 x69 v78 v79 v85 v120 v143 v144 v145 v146 v147 v148 x149 x152 x153 x154 x155 x156 v157)))
 (none))
 (none))
 (none))
 (none))
 (none)))
 (k65 (.exit 2) ⟨[(.str a0),tz,v0,(iz x67),(iz x30),v60,(iz x68),(iz x69),v70,v71,v72,(iz x31),(.str s32),(iz x33),(bz b34),(bz b35),v36,v37,(bz b38),v39,v40,v41,v42,v43,v44,v45,v46,v47,(.str a0),(iz (((List.length a0):Nat):Int)),bf,tz,(.str a0),(.int .u8 x52),(iz (IntKind.wrap .i64 x52)),(.str a0),(.int .u8 x53),(iz (IntKind.wrap .i64 x53)),(.str a0),(.int .u8 x54),(iz (IntKind.wrap .i64 x54)),(.str a0),(.int .u8 x55),(iz (IntKind.wrap .i64 x55)),(.str a0),(.int .u8 x56),(iz (IntKind.wrap .i64 x56)),(.str a0),(.str (List.drop (Int.toNat 10) (List.take (List.length a0) a0))),(iz x57),(.str a0),(.str (List.drop (Int.toNat 14) (List.take (List.length a0) a0))),(iz x58),(.str a0),(.str (List.drop (Int.toNat 18) (List.take (List.length a0) a0))),(iz x59),(.agg [(.zsl true),(iz (IntKind.wrap .i64 x52)),(iz (IntKind.wrap .i64 x53)),(iz (IntKind.wrap .i64 x54)),(iz x57),(iz x58),(iz (IntKind.wrap .i64 x55)),(iz x59),(iz (IntKind.wrap .i64 x56))]),(iz x69),(.str a0),(.int .u8 x149),(iz (IntKind.wrap .i64 x149)),bf,v78,v79,v80,v81,v82,v83,v84,v85,v86,v87,v88,v89,v90,v91,v92,v93,v94,v95,v96,v97,v98,v99,v100,v101,v102,v103,v104,v105,v106,v107,v108,v109,v110,v111,v112,v113,v114,v115,v116,v117,v118,v119,v120,v121,v122,v123,v124,v125,v126,v127,v128,v129,v130,v131,v132,v133,v134,v135,v136,v137,v138,v139,v140,v141,v142,v143,v144,v145,v146,v147,v148,tz,tz,tz,tz,tz,tz,tz,tz,tz,tz,tz,tz,tz,tz,tz,tz,tz,tz,tz,tz,tz,tz,tz,tz,tz,tz,tz,tz],(St.H s64)⟩))
 (none)
def r16X1_0 (C:Cb) (d:Nat) (a0:List UInt8) (v0:AV) (x30 x31:Int) (s32:List UInt8) (x33:Int) (b34 b35:Bool) (v36 v37:AV) (b38:Bool) (v39 v40 v41 v42 v43 v44 v45 v46 v47:AV) (x52 x53 x54 x55 x56 x57 x58 x59:Int) (v60:AV):St→Ans:=fun s273 =>
 cnd ((List.length s273.env) == 161)
 (sames C s273.env 0 [(.str a0),tz,v0] <|
 C.int .i64 s273.env[3]? fun x274 =>
 sames C s273.env 4 [(iz x30),v60] <|
 C.int .i64 s273.env[6]? fun x275 =>
 C.int .i64 s273.env[7]? fun x276 =>
 anys C s273.env 8 3 <|
 sames C s273.env 11 [(iz x31),(.str s32),(iz x33),(.bool b34),(.bool b35),v36,v37,(.bool b38),v39,v40,v41,v42,v43,v44,v45,v46,v47,(.str a0),(iz (((List.length a0):Nat):Int)),bf,tz,(.str a0),(.int .u8 x52),(iz (IntKind.wrap .i64 x52)),(.str a0),(.int .u8 x53),(iz (IntKind.wrap .i64 x53)),(.str a0),(.int .u8 x54),(iz (IntKind.wrap .i64 x54)),(.str a0),(.int .u8 x55),(iz (IntKind.wrap .i64 x55)),(.str a0),(.int .u8 x56),(iz (IntKind.wrap .i64 x56)),(.str a0),(.str (List.drop (Int.toNat 10) (List.take (List.length a0) a0))),(iz x57),(.str a0),(.str (List.drop (Int.toNat 14) (List.take (List.length a0) a0))),(iz x58),(.str a0),(.str (List.drop (Int.toNat 18) (List.take (List.length a0) a0))),(iz x59),(.agg [(.zsl true),(iz (IntKind.wrap .i64 x52)),(iz (IntKind.wrap .i64 x53)),(iz (IntKind.wrap .i64 x54)),(iz x57),(iz x58),(iz (IntKind.wrap .i64 x55)),(iz x59),(iz (IntKind.wrap .i64 x56))])] <|
 C.int .i64 s273.env[57]? fun x280 =>
 C.str s273.env[58]? fun s281 =>
 C.int .u8 s273.env[59]? fun x282 =>
 C.int .i64 s273.env[60]? fun x283 =>
 C.bool s273.env[61]? fun b284 =>
 anys C s273.env 62 71 <|
 sames C s273.env 133 [tz,tz,tz,tz,tz,tz,tz,tz,tz,tz,tz,tz,tz,tz,tz,tz,tz,tz,tz,tz,tz,tz,tz,tz,tz,tz,tz,tz] <|
 cnd (decide ((((List.length a0):Nat):Int) < (IntKind.wrap .i64 (x275+4))))
 (C.hop (St.H s273) (.store 9 (.v v0) (.v (.agg [(.zsl true),(iz 0),(iz 0),(iz 0),(iz 0),(iz 0),(iz 0),(iz 0),(iz 0)]))) fun v356 h357 =>
 C.hop h357 (.load true 9 (.v v0)) fun v358 h359 =>
 C.fin h357 (.tup [v358,(iz 5)]))
 (cnd (decide ((((List.length a0):Nat):Int) > (IntKind.wrap .i64 (x275+4))))
 (C.hop (St.H s273) (.store 9 (.v v0) (.v (.agg [(.zsl true),(iz 0),(iz 0),(iz 0),(iz 0),(iz 0),(iz 0),(iz 0),(iz 0)]))) fun v360 h361 =>
 C.hop h361 (.load true 9 (.v v0)) fun v362 h363 =>
 C.fin h361 (.tup [v362,(iz 3)]))
 (cnd (decide (((0:Int)≤x275)∧(x275≤(((List.length a0):Nat):Int))))
 (C.int .u32 (pcall M d 19 [(.str (List.drop 0 (List.take (Int.toNat x275) a0)))]) fun x364 =>
 cnd (decide (((0:Int)≤x275)∧(x275≤(((List.length a0):Nat):Int))))
 (C.int .i64 (pcall M d 30 [(.str (List.drop (Int.toNat x275) (List.take (List.length a0) a0)))]) fun x365 =>
 cnd ((IntKind.wrap .i64 x364) != x365)
 (C.hop (St.H s273) (.store 9 (.v v0) (.v (.agg [(.zsl true),(iz 0),(iz 0),(iz 0),(iz 0),(iz 0),(iz 0),(iz 0),(iz 0)]))) fun v366 h367 =>
 C.hop h367 (.load true 9 (.v v0)) fun v368 h369 =>
 C.fin h367 (.tup [v368,(iz 4)]))
 (C.hop (St.H s273) (.load true 9 (.v v60)) fun v370 h371 =>
 C.agg 9 (some v370) fun l372 =>
 C.any l372[0]? fun v373 =>
 C.int .i64 l372[1]? fun x374 =>
 C.int .i64 l372[2]? fun x375 =>
 C.int .i64 l372[3]? fun x376 =>
 C.int .i64 l372[4]? fun x377 =>
 C.int .i64 l372[5]? fun x378 =>
 C.int .i64 l372[6]? fun x379 =>
 C.int .i64 l372[7]? fun x380 =>
 C.int .i64 l372[8]? fun x381 =>
 C.snp h371 [(.agg [v373,(iz x374),(iz x375),(iz x376),(iz x377),(iz x378),(iz x379),(iz x380),(iz x381)])] fun l382 b383 =>
 C.int .i64 (pcall M d 11 l382) fun x384 =>
 cnd (b383 || true)
 (cnd (x384 != 0)
 (C.hop h371 (.store 9 (.v v0) (.v (.agg [(.zsl true),(iz 0),(iz 0),(iz 0),(iz 0),(iz 0),(iz 0),(iz 0),(iz 0)]))) fun v385 h386 =>
 C.hop h386 (.load true 9 (.v v0)) fun v387 h388 =>
 C.fin h386 (.tup [v387,(iz 3)]))
 (C.hop h371 (.load true 9 (.v v60)) fun v389 h390 =>
 C.agg 9 (some v389) fun l391 =>
 C.any l391[0]? fun v392 =>
 C.int .i64 l391[1]? fun x393 =>
 C.int .i64 l391[2]? fun x394 =>
 C.int .i64 l391[3]? fun x395 =>
 C.int .i64 l391[4]? fun x396 =>
 C.int .i64 l391[5]? fun x397 =>
 C.int .i64 l391[6]? fun x398 =>
 C.int .i64 l391[7]? fun x399 =>
 C.int .i64 l391[8]? fun x400 =>
 C.hop h390 (.store 9 (.v v0) (.v (.agg [v392,(iz x393),(iz x394),(iz x395),(iz x396),(iz x397),(iz x398),(iz x399),(iz x400)]))) fun v401 h402 =>
 C.hop h402 (.load true 9 (.v v0)) fun v403 h404 =>
 C.fin h402 (.tup [v403,(iz 0)])))
 (none)))
 (none))
 (none))))
 (none)
def r16E1 (C:Cb) (d:Nat) (a0:List UInt8) (v0:AV) (x30 x31:Int) (s32:List UInt8) (x33:Int) (b34 b35:Bool) (v36 v37:AV) (b38:Bool) (v39 v40 v41 v42 v43 v44 v45 v46 v47:AV) (x52 x53 x54 x55 x56 x57 x58 x59:Int) (v60:AV):St→Ans:=fun s66 =>
 cnd ((List.length s66.env) == 161)
 (sames C s66.env 0 [(.str a0),tz,v0] <|
 C.int .i64 s66.env[3]? fun x405 =>
 sames C s66.env 4 [(iz x30),v60] <|
 C.int .i64 s66.env[6]? fun x406 =>
 C.int .i64 s66.env[7]? fun x407 =>
 anys C s66.env 8 3 <|
 sames C s66.env 11 [(iz x31),(.str s32),(iz x33),(.bool b34),(.bool b35),v36,v37,(.bool b38),v39,v40,v41,v42,v43,v44,v45,v46,v47,(.str a0),(iz (((List.length a0):Nat):Int)),bf,tz,(.str a0),(.int .u8 x52),(iz (IntKind.wrap .i64 x52)),(.str a0),(.int .u8 x53),(iz (IntKind.wrap .i64 x53)),(.str a0),(.int .u8 x54),(iz (IntKind.wrap .i64 x54)),(.str a0),(.int .u8 x55),(iz (IntKind.wrap .i64 x55)),(.str a0),(.int .u8 x56),(iz (IntKind.wrap .i64 x56)),(.str a0),(.str (List.drop (Int.toNat 10) (List.take (List.length a0) a0))),(iz x57),(.str a0),(.str (List.drop (Int.toNat 14) (List.take (List.length a0) a0))),(iz x58),(.str a0),(.str (List.drop (Int.toNat 18) (List.take (List.length a0) a0))),(iz x59),(.agg [(.zsl true),(iz (IntKind.wrap .i64 x52)),(iz (IntKind.wrap .i64 x53)),(iz (IntKind.wrap .i64 x54)),(iz x57),(iz x58),(iz (IntKind.wrap .i64 x55)),(iz x59),(iz (IntKind.wrap .i64 x56))])] <|
 C.int .i64 s66.env[57]? fun x411 =>
 C.str s66.env[58]? fun s412 =>
 C.int .u8 s66.env[59]? fun x413 =>
 C.int .i64 s66.env[60]? fun x414 =>
 C.bool s66.env[61]? fun b415 =>
 anys C s66.env 62 2 <|
 C.str s66.env[64]? fun s418 =>
 C.int .i64 s66.env[65]? fun x419 =>
 C.int .i64 s66.env[66]? fun x420 =>
 C.int .i64 s66.env[67]? fun x421 =>
 C.bool s66.env[68]? fun b422 =>
 anys C s66.env 69 64 <|
 sames C s66.env 133 [tz,tz,tz,tz,tz,tz,tz,tz,tz,tz,tz,tz,tz,tz,tz,tz,tz,tz,tz,tz,tz,tz,tz,tz,tz,tz,tz,tz] <|
 C.hop (St.H s66) (.load true 9 (.v v0)) fun v487 h488 =>
 C.fin (St.H s66) (.tup [v487,(iz x405)]))
 (none)
def r16R0 (C:Cb) (d:Nat) (a0:List UInt8) (v0:AV):St→(Ex→St→Ans)→Ans:=fun s2 k3 =>
 cnd ((List.length s2.env) == 161)
 (sames C s2.env 0 [(.str a0),tz,v0] <|
 C.int .i64 s2.env[3]? fun x5 =>
 C.int .i64 s2.env[4]? fun x6 =>
 sames C s2.env 5 [tz,tz,tz,tz,tz,tz] <|
 anys C s2.env 11 8 <|
 C.any s2.env[19]? fun v15 =>
 C.any s2.env[20]? fun v16 =>
 C.any s2.env[21]? fun v17 =>
 C.any s2.env[22]? fun v18 =>
 C.any s2.env[23]? fun v19 =>
 C.any s2.env[24]? fun v20 =>
 C.any s2.env[25]? fun v21 =>
 C.any s2.env[26]? fun v22 =>
 C.any s2.env[27]? fun v23 =>
 sames C s2.env 28 [tz,tz,tz,tz,tz,tz,tz,tz,tz,tz,tz,tz,tz,tz,tz,tz,tz,tz,tz,tz,tz,tz,tz,tz,tz,tz,tz,tz,tz,tz,tz,tz,tz,tz,tz,tz,tz,tz,tz,tz,tz,tz,tz,tz,tz,tz,tz,tz,tz,tz,tz,tz,tz,tz,tz,tz,tz,tz,tz,tz,tz,tz,tz,tz,tz,tz,tz,tz,tz,tz,tz,tz,tz,tz,tz,tz,tz,tz,tz,tz,tz,tz,tz,tz,tz,tz,tz,tz,tz,tz,tz,tz,tz,tz,tz,tz,tz,tz,tz,tz,tz,tz,tz,tz,tz,tz,tz,tz,tz,tz,tz,tz,tz,tz,tz,tz,tz,tz,tz,tz,tz,tz,tz,tz,tz,tz,tz,tz,tz,tz,tz,tz,tz] <|
 cnd (decide (x6 < (((List.length a0):Nat):Int)))
 (cnd (decide (x6 < 4))
 (cnd (decide ((0:Int)≤x6))
 (C.int .u8 (Option.map (fun b:UInt8=>AV.int .u8 (b.toNat:Int)) a0[(Int.toNat x6)]?) fun x24 =>
 cnd (decide ((0:Int)≤x6))
 (C.int .u8 (Option.map (fun b:UInt8=>AV.int .u8 (b.toNat:Int)) [65,70,84,85][(Int.toNat x6)]?) fun x25 =>
 cnd (x24 != x25)
 (C.hop (St.H s2) (.store 9 (.v v0) (.v (.agg [(.zsl true),(iz 0),(iz 0),(iz 0),(iz 0),(iz 0),(iz 0),(iz 0),(iz 0)]))) fun v26 h27 =>
 k3 .ret ⟨[(.str a0),tz,v0,(iz 3),(iz x6),tz,tz,tz,tz,tz,tz,(iz x6),(.str a0),(iz (((List.length a0):Nat):Int)),(bz (decide (x6 < (((List.length a0):Nat):Int)))),bt,(iz x6),(bz (decide (x6 < 4))),bt,v15,v16,(.str a0),(iz x6),(.int .u8 x24),(iz x6),(.int .u8 x25),bt,(.agg [(.zsl true),(iz 0),(iz 0),(iz 0),(iz 0),(iz 0),(iz 0),(iz 0),(iz 0)]),tz,tz,tz,tz,tz,tz,tz,tz,tz,tz,tz,tz,tz,tz,tz,tz,tz,tz,tz,tz,tz,tz,tz,tz,tz,tz,tz,tz,tz,tz,tz,tz,tz,tz,tz,tz,tz,tz,tz,tz,tz,tz,tz,tz,tz,tz,tz,tz,tz,tz,tz,tz,tz,tz,tz,tz,tz,tz,tz,tz,tz,tz,tz,tz,tz,tz,tz,tz,tz,tz,tz,tz,tz,tz,tz,tz,tz,tz,tz,tz,tz,tz,tz,tz,tz,tz,tz,tz,tz,tz,tz,tz,tz,tz,tz,tz,tz,tz,tz,tz,tz,tz,tz,tz,tz,tz,tz,tz,tz,tz,tz,tz,tz,tz,tz,tz,tz,tz,tz,tz,tz,tz,tz,tz,tz,tz,tz,tz,tz,tz,tz,tz,tz],h27⟩)
 (k3 .normal ⟨[(.str a0),tz,v0,(iz x5),(iz (IntKind.wrap .i64 (x6+1))),tz,tz,tz,tz,tz,tz,(iz x6),(.str a0),(iz (((List.length a0):Nat):Int)),(bz (decide (x6 < (((List.length a0):Nat):Int)))),bt,(iz x6),(bz (decide (x6 < 4))),bt,(iz x6),(iz (IntKind.wrap .i64 (x6+1))),(.str a0),(iz x6),(.int .u8 x24),(iz x6),(.int .u8 x25),bf,v23,tz,tz,tz,tz,tz,tz,tz,tz,tz,tz,tz,tz,tz,tz,tz,tz,tz,tz,tz,tz,tz,tz,tz,tz,tz,tz,tz,tz,tz,tz,tz,tz,tz,tz,tz,tz,tz,tz,tz,tz,tz,tz,tz,tz,tz,tz,tz,tz,tz,tz,tz,tz,tz,tz,tz,tz,tz,tz,tz,tz,tz,tz,tz,tz,tz,tz,tz,tz,tz,tz,tz,tz,tz,tz,tz,tz,tz,tz,tz,tz,tz,tz,tz,tz,tz,tz,tz,tz,tz,tz,tz,tz,tz,tz,tz,tz,tz,tz,tz,tz,tz,tz,tz,tz,tz,tz,tz,tz,tz,tz,tz,tz,tz,tz,tz,tz,tz,tz,tz,tz,tz,tz,tz,tz,tz,tz,tz,tz,tz,tz,tz,tz,tz],(St.H s2)⟩))
 (none))
 (none))
 (k3 (.exit 0) ⟨[(.str a0),tz,v0,(iz x5),(iz x6),tz,tz,tz,tz,tz,tz,(iz x6),(.str a0),(iz (((List.length a0):Nat):Int)),(bz (decide (x6 < (((List.length a0):Nat):Int)))),bt,(iz x6),(bz (decide (x6 < 4))),bf,v15,v16,v17,v18,v19,v20,v21,v22,v23,tz,tz,tz,tz,tz,tz,tz,tz,tz,tz,tz,tz,tz,tz,tz,tz,tz,tz,tz,tz,tz,tz,tz,tz,tz,tz,tz,tz,tz,tz,tz,tz,tz,tz,tz,tz,tz,tz,tz,tz,tz,tz,tz,tz,tz,tz,tz,tz,tz,tz,tz,tz,tz,tz,tz,tz,tz,tz,tz,tz,tz,tz,tz,tz,tz,tz,tz,tz,tz,tz,tz,tz,tz,tz,tz,tz,tz,tz,tz,tz,tz,tz,tz,tz,tz,tz,tz,tz,tz,tz,tz,tz,tz,tz,tz,tz,tz,tz,tz,tz,tz,tz,tz,tz,tz,tz,tz,tz,tz,tz,tz,tz,tz,tz,tz,tz,tz,tz,tz,tz,tz,tz,tz,tz,tz,tz,tz,tz,tz,tz,tz,tz,tz],(St.H s2)⟩))
 (k3 (.exit 0) ⟨[(.str a0),tz,v0,(iz x5),(iz x6),tz,tz,tz,tz,tz,tz,(iz x6),(.str a0),(iz (((List.length a0):Nat):Int)),(bz (decide (x6 < (((List.length a0):Nat):Int)))),bf,tz,tz,bf,v15,v16,v17,v18,v19,v20,v21,v22,v23,tz,tz,tz,tz,tz,tz,tz,tz,tz,tz,tz,tz,tz,tz,tz,tz,tz,tz,tz,tz,tz,tz,tz,tz,tz,tz,tz,tz,tz,tz,tz,tz,tz,tz,tz,tz,tz,tz,tz,tz,tz,tz,tz,tz,tz,tz,tz,tz,tz,tz,tz,tz,tz,tz,tz,tz,tz,tz,tz,tz,tz,tz,tz,tz,tz,tz,tz,tz,tz,tz,tz,tz,tz,tz,tz,tz,tz,tz,tz,tz,tz,tz,tz,tz,tz,tz,tz,tz,tz,tz,tz,tz,tz,tz,tz,tz,tz,tz,tz,tz,tz,tz,tz,tz,tz,tz,tz,tz,tz,tz,tz,tz,tz,tz,tz,tz,tz,tz,tz,tz,tz,tz,tz,tz,tz,tz,tz,tz,tz,tz,tz,tz,tz],(St.H s2)⟩))
 (none)
def r16X0_0 (C:Cb) (d:Nat) (a0:List UInt8) (v0:AV):St→Ans:=fun s28 =>
 cnd ((List.length s28.env) == 161)
 (sames C s28.env 0 [(.str a0),tz,v0] <|
 C.int .i64 s28.env[3]? fun x29 =>
 C.int .i64 s28.env[4]? fun x30 =>
 sames C s28.env 5 [tz,tz,tz,tz,tz,tz] <|
 C.int .i64 s28.env[11]? fun x31 =>
 C.str s28.env[12]? fun s32 =>
 C.int .i64 s28.env[13]? fun x33 =>
 C.bool s28.env[14]? fun b34 =>
 C.bool s28.env[15]? fun b35 =>
 C.any s28.env[16]? fun v36 =>
 C.any s28.env[17]? fun v37 =>
 C.bool s28.env[18]? fun b38 =>
 C.any s28.env[19]? fun v39 =>
 C.any s28.env[20]? fun v40 =>
 C.any s28.env[21]? fun v41 =>
 C.any s28.env[22]? fun v42 =>
 C.any s28.env[23]? fun v43 =>
 C.any s28.env[24]? fun v44 =>
 C.any s28.env[25]? fun v45 =>
 C.any s28.env[26]? fun v46 =>
 C.any s28.env[27]? fun v47 =>
 sames C s28.env 28 [tz,tz,tz,tz,tz,tz,tz,tz,tz,tz,tz,tz,tz,tz,tz,tz,tz,tz,tz,tz,tz,tz,tz,tz,tz,tz,tz,tz,tz,tz,tz,tz,tz,tz,tz,tz,tz,tz,tz,tz,tz,tz,tz,tz,tz,tz,tz,tz,tz,tz,tz,tz,tz,tz,tz,tz,tz,tz,tz,tz,tz,tz,tz,tz,tz,tz,tz,tz,tz,tz,tz,tz,tz,tz,tz,tz,tz,tz,tz,tz,tz,tz,tz,tz,tz,tz,tz,tz,tz,tz,tz,tz,tz,tz,tz,tz,tz,tz,tz,tz,tz,tz,tz,tz,tz,tz,tz,tz,tz,tz,tz,tz,tz,tz,tz,tz,tz,tz,tz,tz,tz,tz,tz,tz,tz,tz,tz,tz,tz,tz,tz,tz,tz] <|
 cnd (decide ((((List.length a0):Nat):Int) < 22))
 (C.hop (St.H s28) (.store 9 (.v v0) (.v (.agg [(.zsl true),(iz 0),(iz 0),(iz 0),(iz 0),(iz 0),(iz 0),(iz 0),(iz 0)]))) fun v48 h49 =>
 C.hop h49 (.load true 9 (.v v0)) fun v50 h51 =>
 C.fin h49 (.tup [v50,(iz 5)]))
 (C.int .u8 (Option.map (fun b:UInt8=>AV.int .u8 (b.toNat:Int)) a0[5]?) fun x52 =>
 C.int .u8 (Option.map (fun b:UInt8=>AV.int .u8 (b.toNat:Int)) a0[6]?) fun x53 =>
 C.int .u8 (Option.map (fun b:UInt8=>AV.int .u8 (b.toNat:Int)) a0[7]?) fun x54 =>
 C.int .u8 (Option.map (fun b:UInt8=>AV.int .u8 (b.toNat:Int)) a0[8]?) fun x55 =>
 C.int .u8 (Option.map (fun b:UInt8=>AV.int .u8 (b.toNat:Int)) a0[9]?) fun x56 =>
 cnd (decide (((0:Int)≤10)∧((10:Int)≤(((List.length a0):Nat):Int))))
 (C.int .i64 (pcall M d 30 [(.str (List.drop (Int.toNat 10) (List.take (List.length a0) a0)))]) fun x57 =>
 cnd (decide (((0:Int)≤14)∧((14:Int)≤(((List.length a0):Nat):Int))))
 (C.int .i64 (pcall M d 30 [(.str (List.drop (Int.toNat 14) (List.take (List.length a0) a0)))]) fun x58 =>
 cnd (decide (((0:Int)≤18)∧((18:Int)≤(((List.length a0):Nat):Int))))
 (C.int .i64 (pcall M d 30 [(.str (List.drop (Int.toNat 18) (List.take (List.length a0) a0)))]) fun x59 =>
 C.hop (St.H s28) (.alloc E24) fun v60 h61 =>
 C.hop h61 (.store 9 (.v v60) (.v (.agg [(.zsl true),(iz (IntKind.wrap .i64 x52)),(iz (IntKind.wrap .i64 x53)),(iz (IntKind.wrap .i64 x54)),(iz x57),(iz x58),(iz (IntKind.wrap .i64 x55)),(iz x59),(iz (IntKind.wrap .i64 x56))]))) fun v62 h63 =>
 C.iter (r16R1 C d a0 v0 x30 x31 s32 x33 b34 b35 v36 v37 b38 v39 v40 v41 v42 v43 v44 v45 v46 v47 x52 x53 x54 x55 x56 x57 x58 x59 v60) 10000000000000000000 ⟨[(.str a0),tz,v0,(iz x29),(iz x30),v60,(iz 22),(iz 0),tz,tz,tz,(iz x31),(.str s32),(iz x33),(bz b34),(bz b35),v36,v37,(bz b38),v39,v40,v41,v42,v43,v44,v45,v46,v47,(.str a0),(iz (((List.length a0):Nat):Int)),bf,tz,(.str a0),(.int .u8 x52),(iz (IntKind.wrap .i64 x52)),(.str a0),(.int .u8 x53),(iz (IntKind.wrap .i64 x53)),(.str a0),(.int .u8 x54),(iz (IntKind.wrap .i64 x54)),(.str a0),(.int .u8 x55),(iz (IntKind.wrap .i64 x55)),(.str a0),(.int .u8 x56),(iz (IntKind.wrap .i64 x56)),(.str a0),(.str (List.drop (Int.toNat 10) (List.take (List.length a0) a0))),(iz x57),(.str a0),(.str (List.drop (Int.toNat 14) (List.take (List.length a0) a0))),(iz x58),(.str a0),(.str (List.drop (Int.toNat 18) (List.take (List.length a0) a0))),(iz x59),(.agg [(.zsl true),(iz (IntKind.wrap .i64 x52)),(iz (IntKind.wrap .i64 x53)),(iz (IntKind.wrap .i64 x54)),(iz x57),(iz x58),(iz (IntKind.wrap .i64 x55)),(iz x59),(iz (IntKind.wrap .i64 x56))]),tz,tz,tz,tz,tz,tz,tz,tz,tz,tz,tz,tz,tz,tz,tz,tz,tz,tz,tz,tz,tz,tz,tz,tz,tz,tz,tz,tz,tz,tz,tz,tz,tz,tz,tz,tz,tz,tz,tz,tz,tz,tz,tz,tz,tz,tz,tz,tz,tz,tz,tz,tz,tz,tz,tz,tz,tz,tz,tz,tz,tz,tz,tz,tz,tz,tz,tz,tz,tz,tz,tz,tz,tz,tz,tz,tz,tz,tz,tz,tz,tz,tz,tz,tz,tz,tz,tz,tz,tz,tz,tz,tz,tz,tz,tz,tz,tz,tz,tz,tz,tz,tz,tz,tz],h63⟩ [2] [r16X1_0 C d a0 v0 x30 x31 s32 x33 b34 b35 v36 v37 b38 v39 v40 v41 v42 v43 v44 v45 v46 v47 x52 x53 x54 x55 x56 x57 x58 x59 v60] (r16E1 C d a0 v0 x30 x31 s32 x33 b34 b35 v36 v37 b38 v39 v40 v41 v42 v43 v44 v45 v46 v47 x52 x53 x54 x55 x56 x57 x58 x59 v60))
 (none))
 (none))
 (none)))
 (none)
def r16E0 (C:Cb) (d:Nat) (a0:List UInt8) (v0:AV):St→Ans:=fun s4 =>
 cnd ((List.length s4.env) == 161)
 (sames C s4.env 0 [(.str a0),tz,v0] <|
 C.int .i64 s4.env[3]? fun x489 =>
 C.int .i64 s4.env[4]? fun x490 =>
 sames C s4.env 5 [tz,tz,tz,tz,tz,tz] <|
 C.int .i64 s4.env[11]? fun x491 =>
 C.str s4.env[12]? fun s492 =>
 C.int .i64 s4.env[13]? fun x493 =>
 C.bool s4.env[14]? fun b494 =>
 C.bool s4.env[15]? fun b495 =>
 anys C s4.env 16 2 <|
 C.bool s4.env[18]? fun b498 =>
 anys C s4.env 19 2 <|
 C.str s4.env[21]? fun s501 =>
 C.int .i64 s4.env[22]? fun x502 =>
 C.int .u8 s4.env[23]? fun x503 =>
 C.int .i64 s4.env[24]? fun x504 =>
 C.int .u8 s4.env[25]? fun x505 =>
 C.bool s4.env[26]? fun b506 =>
 C.agg 9 s4.env[27]? fun l507 =>
 C.any l507[0]? fun v508 =>
 C.int .i64 l507[1]? fun x509 =>
 C.int .i64 l507[2]? fun x510 =>
 C.int .i64 l507[3]? fun x511 =>
 C.int .i64 l507[4]? fun x512 =>
 C.int .i64 l507[5]? fun x513 =>
 C.int .i64 l507[6]? fun x514 =>
 C.int .i64 l507[7]? fun x515 =>
 C.int .i64 l507[8]? fun x516 =>
 sames C s4.env 28 [tz,tz,tz,tz,tz,tz,tz,tz,tz,tz,tz,tz,tz,tz,tz,tz,tz,tz,tz,tz,tz,tz,tz,tz,tz,tz,tz,tz,tz,tz,tz,tz,tz,tz,tz,tz,tz,tz,tz,tz,tz,tz,tz,tz,tz,tz,tz,tz,tz,tz,tz,tz,tz,tz,tz,tz,tz,tz,tz,tz,tz,tz,tz,tz,tz,tz,tz,tz,tz,tz,tz,tz,tz,tz,tz,tz,tz,tz,tz,tz,tz,tz,tz,tz,tz,tz,tz,tz,tz,tz,tz,tz,tz,tz,tz,tz,tz,tz,tz,tz,tz,tz,tz,tz,tz,tz,tz,tz,tz,tz,tz,tz,tz,tz,tz,tz,tz,tz,tz,tz,tz,tz,tz,tz,tz,tz,tz,tz,tz,tz,tz,tz,tz] <|
 C.hop (St.H s4) (.load true 9 (.v v0)) fun v517 h518 =>
 C.fin (St.H s4) (.tup [v517,(iz x489)]))
 (none)
theorem r16 (C:Cb) (d:Nat) (a0:List UInt8):xcall C M unr d 16 [(.str a0)] =
 C.hop [] (.alloc E24) fun v0 h1 =>
 C.iter (r16R0 C d a0 v0) 10000000000000000000 ⟨[(.str a0),tz,v0,(iz 0),(iz 0),tz,tz,tz,tz,tz,tz,tz,tz,tz,tz,tz,tz,tz,tz,tz,tz,tz,tz,tz,tz,tz,tz,tz,tz,tz,tz,tz,tz,tz,tz,tz,tz,tz,tz,tz,tz,tz,tz,tz,tz,tz,tz,tz,tz,tz,tz,tz,tz,tz,tz,tz,tz,tz,tz,tz,tz,tz,tz,tz,tz,tz,tz,tz,tz,tz,tz,tz,tz,tz,tz,tz,tz,tz,tz,tz,tz,tz,tz,tz,tz,tz,tz,tz,tz,tz,tz,tz,tz,tz,tz,tz,tz,tz,tz,tz,tz,tz,tz,tz,tz,tz,tz,tz,tz,tz,tz,tz,tz,tz,tz,tz,tz,tz,tz,tz,tz,tz,tz,tz,tz,tz,tz,tz,tz,tz,tz,tz,tz,tz,tz,tz,tz,tz,tz,tz,tz,tz,tz,tz,tz,tz,tz,tz,tz,tz,tz,tz,tz,tz,tz,tz,tz,tz,tz,tz,tz],h1⟩ [0] [r16X0_0 C d a0 v0] (r16E0 C d a0 v0):=by kernel_rfl
theorem r30 (C:Cb) (d:Nat) (a0:List UInt8):xcall C M unr d 30 [(.str a0)] =
 C.int .u8 (Option.map (fun b:UInt8=>AV.int .u8 (b.toNat:Int)) a0[0]?) fun x0 =>
 C.int .u8 (Option.map (fun b:UInt8=>AV.int .u8 (b.toNat:Int)) a0[1]?) fun x1 =>
 C.int .u8 (Option.map (fun b:UInt8=>AV.int .u8 (b.toNat:Int)) a0[2]?) fun x2 =>
 C.int .u8 (Option.map (fun b:UInt8=>AV.int .u8 (b.toNat:Int)) a0[3]?) fun x3 =>
 some (iz (IntKind.wrap .i64 ((IntKind.wrap .i64 ((IntKind.wrap .i64 ((IntKind.wrap .i64 ((IntKind.wrap .i64 x0) * 16777216))+(IntKind.wrap .i64 ((IntKind.wrap .i64 x1) * 65536))))+(IntKind.wrap .i64 ((IntKind.wrap .i64 x2) * 256))))+(IntKind.wrap .i64 x3)))):=by kernel_rfl
theorem r31 (C:Cb) (d:Nat) (a0:List UInt8):xcall C M unr d 31 [(.str a0)] =
 C.int .i64 (pcall M d 30 [(.str a0)]) fun x0 =>
 cnd (decide (x0 ≥ 2147483648))
 (some (iz (IntKind.wrap .i64 (x0 - 4294967296))))
 (some (iz x0)):=by kernel_rfl
noncomputable def X16_2_0 (d:Nat) (a0:List UInt8) (v60:AV) (x69 x152:Int) (v157:AV) (k65N:Int→Int→Heap→Ans) (x205:Int) (H:Heap):Ans :=
 C0.hop H (.fldA 0 (.v v60)) fun v229 h230 =>
  C0.hop h230 (.load false 1 (.v v229)) fun v231 h232 =>
  C0.hop h232 (.load true 5 (.v v157)) fun v233 h234 =>
  C0.agg 5 (some v233) fun l235 =>
  C0.any l235[0]? fun v236 =>
  C0.int .i64 l235[1]? fun x237 =>
  C0.int .i64 l235[2]? fun x238 =>
  C0.int .i64 l235[3]? fun x239 =>
  C0.int .i64 l235[4]? fun x240 =>
  C0.hop h234 (.mkrow E46 1 [(0,(.v (.agg [v236,(iz x237),(iz x238),(iz x239),(iz x240)])))]) fun v241 h242 =>
  C0.hop h242 (.app E46 (.v v231) (.v v241)) fun v243 h244 =>
  C0.hop h244 (.fldA 0 (.v v60)) fun v245 h246 =>
  C0.hop h246 (.store 1 (.v v245) (.v v243)) fun v247 h248 =>
  k65N x205 (IntKind.wrap .i64 (x69+1)) h248
theorem X16_2_0_ok (d:Nat) (a0:List UInt8) (v0:AV) (x30 x31:Int) (s32:List UInt8) (x33:Int) (b34 b35:Bool) (v36 v37:AV) (b38:Bool) (v39 v40 v41 v42 v43 v44 v45 v46 v47:AV) (x52 x53 x54 x55 x56 x57 x58 x59:Int) (v60:AV) (k65:Ex→St→Ans) (x67 x68 x69:Int) (v78 v79 v85 v120 v143 v144 v145 v146 v147 v148:AV) (x149 x152 x153 x154 x155 x156:Int) (v157:AV) (k65N:Int→Int→Heap→Ans) (hk65N:∀ (x67 x68 x69:Int) (v70 v71 v72 v73 v74 v75 v76 v77 v78 v79 v80 v81 v82 v83 v84 v85 v86 v87 v88 v89 v90 v91 v92 v93 v94 v95 v96 v97 v98 v99 v100 v101 v102 v103 v104 v105 v106 v107 v108 v109 v110 v111 v112 v113 v114 v115 v116 v117 v118 v119 v120 v121 v122 v123 v124 v125 v126 v127 v128 v129 v130 v131 v132 v133 v134 v135 v136 v137 v138 v139 v140 v141 v142 v143 v144 v145 v146 v147 v148:AV) (H:Heap),k65 .normal ⟨[(.str a0),tz,v0,(iz x67),(iz x30),v60,(iz x68),(iz x69),v70,v71,v72,(iz x31),(.str s32),(iz x33),(bz b34),(bz b35),v36,v37,(bz b38),v39,v40,v41,v42,v43,v44,v45,v46,v47,(.str a0),(iz (((List.length a0):Nat):Int)),bf,tz,(.str a0),(.int .u8 x52),(iz (IntKind.wrap .i64 x52)),(.str a0),(.int .u8 x53),(iz (IntKind.wrap .i64 x53)),(.str a0),(.int .u8 x54),(iz (IntKind.wrap .i64 x54)),(.str a0),(.int .u8 x55),(iz (IntKind.wrap .i64 x55)),(.str a0),(.int .u8 x56),(iz (IntKind.wrap .i64 x56)),(.str a0),(.str (List.drop (Int.toNat 10) (List.take (List.length a0) a0))),(iz x57),(.str a0),(.str (List.drop (Int.toNat 14) (List.take (List.length a0) a0))),(iz x58),(.str a0),(.str (List.drop (Int.toNat 18) (List.take (List.length a0) a0))),(iz x59),(.agg [(.zsl true),(iz (IntKind.wrap .i64 x52)),(iz (IntKind.wrap .i64 x53)),(iz (IntKind.wrap .i64 x54)),(iz x57),(iz x58),(iz (IntKind.wrap .i64 x55)),(iz x59),(iz (IntKind.wrap .i64 x56))]),v73,v74,v75,v76,v77,v78,v79,v80,v81,v82,v83,v84,v85,v86,v87,v88,v89,v90,v91,v92,v93,v94,v95,v96,v97,v98,v99,v100,v101,v102,v103,v104,v105,v106,v107,v108,v109,v110,v111,v112,v113,v114,v115,v116,v117,v118,v119,v120,v121,v122,v123,v124,v125,v126,v127,v128,v129,v130,v131,v132,v133,v134,v135,v136,v137,v138,v139,v140,v141,v142,v143,v144,v145,v146,v147,v148,tz,tz,tz,tz,tz,tz,tz,tz,tz,tz,tz,tz,tz,tz,tz,tz,tz,tz,tz,tz,tz,tz,tz,tz,tz,tz,tz,tz],H⟩=k65N x68 x69 H) (x205 x206 x207 x208:Int) (b209:Bool) (v210 v211 v212 v213 v214 v215 v216 v217 v218 v219 v220 v221 v222 v223 v224 v225 v226 v227 v228:AV) (H:Heap):r16X2_0 C0 d a0 v0 x30 x31 s32 x33 b34 b35 v36 v37 b38 v39 v40 v41 v42 v43 v44 v45 v46 v47 x52 x53 x54 x55 x56 x57 x58 x59 v60 k65 x67 x68 x69 v78 v79 v85 v120 v143 v144 v145 v146 v147 v148 x149 x152 x153 x154 x155 x156 v157 ⟨[(.str a0),tz,v0,(iz x67),(iz x30),v60,(iz x205),(iz x69),(iz (IntKind.wrap .i64 x152)),v157,(iz x206),(iz x31),(.str s32),(iz x33),(bz b34),(bz b35),v36,v37,(bz b38),v39,v40,v41,v42,v43,v44,v45,v46,v47,(.str a0),(iz (((List.length a0):Nat):Int)),bf,tz,(.str a0),(.int .u8 x52),(iz (IntKind.wrap .i64 x52)),(.str a0),(.int .u8 x53),(iz (IntKind.wrap .i64 x53)),(.str a0),(.int .u8 x54),(iz (IntKind.wrap .i64 x54)),(.str a0),(.int .u8 x55),(iz (IntKind.wrap .i64 x55)),(.str a0),(.int .u8 x56),(iz (IntKind.wrap .i64 x56)),(.str a0),(.str (List.drop (Int.toNat 10) (List.take (List.length a0) a0))),(iz x57),(.str a0),(.str (List.drop (Int.toNat 14) (List.take (List.length a0) a0))),(iz x58),(.str a0),(.str (List.drop (Int.toNat 18) (List.take (List.length a0) a0))),(iz x59),(.agg [(.zsl true),(iz (IntKind.wrap .i64 x52)),(iz (IntKind.wrap .i64 x53)),(iz (IntKind.wrap .i64 x54)),(iz x57),(iz x58),(iz (IntKind.wrap .i64 x55)),(iz x59),(iz (IntKind.wrap .i64 x56))]),(iz x69),(.str a0),(.int .u8 x149),(iz (IntKind.wrap .i64 x149)),bt,v78,v79,(.str a0),(iz (((List.length a0):Nat):Int)),(iz x68),(iz (IntKind.wrap .i64 (x68+14))),bf,v85,(.str a0),(iz x68),(.int .u8 x152),(iz (IntKind.wrap .i64 x152)),(.str a0),(iz x68),(iz (IntKind.wrap .i64 (x68+1))),(.int .u8 x153),(iz (IntKind.wrap .i64 x153)),(.str a0),(iz x68),(iz (IntKind.wrap .i64 (x68+2))),(.str (List.drop (Int.toNat (IntKind.wrap .i64 (x68+2))) (List.take (List.length a0) a0))),(iz x154),(.str a0),(iz x68),(iz (IntKind.wrap .i64 (x68+6))),(.str (List.drop (Int.toNat (IntKind.wrap .i64 (x68+6))) (List.take (List.length a0) a0))),(iz x155),(.str a0),(iz x68),(iz (IntKind.wrap .i64 (x68+10))),(.str (List.drop (Int.toNat (IntKind.wrap .i64 (x68+10))) (List.take (List.length a0) a0))),(iz x156),(.agg [(.zsl true),(iz (IntKind.wrap .i64 x153)),(iz x154),(iz x155),(iz x156)]),(iz x68),(iz (IntKind.wrap .i64 (x68+14))),(.str a0),(iz (((List.length a0):Nat):Int)),(iz (IntKind.wrap .i64 (x68+14))),(iz (IntKind.wrap .i64 x152)),(iz (IntKind.wrap .i64 (8 * (IntKind.wrap .i64 x152)))),(iz (IntKind.wrap .i64 ((IntKind.wrap .i64 (x68+14))+(IntKind.wrap .i64 (8 * (IntKind.wrap .i64 x152)))))),bf,v120,(iz x207),(iz x208),(bz b209),v210,v211,v212,v213,v214,v215,v216,v217,v218,v219,v220,v221,v222,v223,v224,v225,v226,v227,v228,v143,v144,v145,v146,v147,v148,tz,tz,tz,tz,tz,tz,tz,tz,tz,tz,tz,tz,tz,tz,tz,tz,tz,tz,tz,tz,tz,tz,tz,tz,tz,tz,tz,tz],H⟩=X16_2_0 d a0 v60 x69 x152 v157 k65N x205 H:=by
 try dsimp only at hk65N
 unfold r16X2_0; refine Eq.trans (pl_len (by rfl)) ?_; refine yt ySs ?_; refine yt yI ?_; refine yt ySs ?_; refine yt yI ?_; refine yt ySs ?_; (iterate 2 (refine yt yI ?_)); refine yt yB ?_; (iterate 19 (refine yt yA ?_)); refine yt ySs ?_
 first | (simp only [hk65N] <;> rfl) | rfl
noncomputable def L16_2 (d:Nat) (a0:List UInt8) (v60:AV) (x69 x152:Int) (v157:AV) (k65N:Int→Int→Heap→Ans):Nat→Int→Int→Heap→Ans
 | 0,_,_,_=>none
 | n+1,x166,x167,H =>
 cnd (decide (x167 < (IntKind.wrap .i64 x152)))
  (C0.hop H (.fldA 0 (.v v157)) fun v190 h191 =>
  C0.hop h191 (.load false 1 (.v v190)) fun v192 h193 =>
  cnd (decide (((0:Int)≤x166)∧(x166≤(((List.length a0):Nat):Int))))
  (C0.int .i64 (pcall M d 31 [(.str (List.drop (Int.toNat x166) (List.take (List.length a0) a0)))]) fun x194 =>
  cnd (decide (((0:Int)≤(IntKind.wrap .i64 (x166+4)))∧((IntKind.wrap .i64 (x166+4))≤(((List.length a0):Nat):Int))))
  (C0.int .i64 (pcall M d 31 [(.str (List.drop (Int.toNat (IntKind.wrap .i64 (x166+4))) (List.take (List.length a0) a0)))]) fun x195 =>
  C0.hop h193 (.mkrow E50 1 [(0,(.v (.agg [(iz x194),(iz x195)])))]) fun v196 h197 =>
  C0.hop h197 (.app E50 (.v v192) (.v v196)) fun v198 h199 =>
  C0.hop h199 (.fldA 0 (.v v157)) fun v200 h201 =>
  C0.hop h201 (.store 1 (.v v200) (.v v198)) fun v202 h203 =>
  L16_2 d a0 v60 x69 x152 v157 k65N n (IntKind.wrap .i64 (x166+8)) (IntKind.wrap .i64 (x167+1)) h203)
  (none))
  (none))
  (X16_2_0 d a0 v60 x69 x152 v157 k65N x166 H)
theorem L16_2_s (d:Nat) (a0:List UInt8) (v60:AV) (x69 x152:Int) (v157:AV) (k65N:Int→Int→Heap→Ans) (n:Nat) (x166 x167:Int) (H:Heap):L16_2 d a0 v60 x69 x152 v157 k65N (n+1) x166 x167 H=(cnd (decide (x167 < (IntKind.wrap .i64 x152)))
 (C0.hop H (.fldA 0 (.v v157)) fun v190 h191 =>
 C0.hop h191 (.load false 1 (.v v190)) fun v192 h193 =>
 cnd (decide (((0:Int)≤x166)∧(x166≤(((List.length a0):Nat):Int))))
 (C0.int .i64 (pcall M d 31 [(.str (List.drop (Int.toNat x166) (List.take (List.length a0) a0)))]) fun x194 =>
 cnd (decide (((0:Int)≤(IntKind.wrap .i64 (x166+4)))∧((IntKind.wrap .i64 (x166+4))≤(((List.length a0):Nat):Int))))
 (C0.int .i64 (pcall M d 31 [(.str (List.drop (Int.toNat (IntKind.wrap .i64 (x166+4))) (List.take (List.length a0) a0)))]) fun x195 =>
 C0.hop h193 (.mkrow E50 1 [(0,(.v (.agg [(iz x194),(iz x195)])))]) fun v196 h197 =>
 C0.hop h197 (.app E50 (.v v192) (.v v196)) fun v198 h199 =>
 C0.hop h199 (.fldA 0 (.v v157)) fun v200 h201 =>
 C0.hop h201 (.store 1 (.v v200) (.v v198)) fun v202 h203 =>
 L16_2 d a0 v60 x69 x152 v157 k65N n (IntKind.wrap .i64 (x166+8)) (IntKind.wrap .i64 (x167+1)) h203)
 (none))
 (none))
 (X16_2_0 d a0 v60 x69 x152 v157 k65N x166 H)):=by kernel_rfl
theorem it16_2 (d:Nat) (a0:List UInt8) (v0:AV) (x30 x31:Int) (s32:List UInt8) (x33:Int) (b34 b35:Bool) (v36 v37:AV) (b38:Bool) (v39 v40 v41 v42 v43 v44 v45 v46 v47:AV) (x52 x53 x54 x55 x56 x57 x58 x59:Int) (v60:AV) (k65:Ex→St→Ans) (x67 x68 x69:Int) (v78 v79 v85 v120 v143 v144 v145 v146 v147 v148:AV) (x149 x152 x153 x154 x155 x156:Int) (v157:AV) (k65N:Int→Int→Heap→Ans) (hk65N:∀ (x67 x68 x69:Int) (v70 v71 v72 v73 v74 v75 v76 v77 v78 v79 v80 v81 v82 v83 v84 v85 v86 v87 v88 v89 v90 v91 v92 v93 v94 v95 v96 v97 v98 v99 v100 v101 v102 v103 v104 v105 v106 v107 v108 v109 v110 v111 v112 v113 v114 v115 v116 v117 v118 v119 v120 v121 v122 v123 v124 v125 v126 v127 v128 v129 v130 v131 v132 v133 v134 v135 v136 v137 v138 v139 v140 v141 v142 v143 v144 v145 v146 v147 v148:AV) (H:Heap),k65 .normal ⟨[(.str a0),tz,v0,(iz x67),(iz x30),v60,(iz x68),(iz x69),v70,v71,v72,(iz x31),(.str s32),(iz x33),(bz b34),(bz b35),v36,v37,(bz b38),v39,v40,v41,v42,v43,v44,v45,v46,v47,(.str a0),(iz (((List.length a0):Nat):Int)),bf,tz,(.str a0),(.int .u8 x52),(iz (IntKind.wrap .i64 x52)),(.str a0),(.int .u8 x53),(iz (IntKind.wrap .i64 x53)),(.str a0),(.int .u8 x54),(iz (IntKind.wrap .i64 x54)),(.str a0),(.int .u8 x55),(iz (IntKind.wrap .i64 x55)),(.str a0),(.int .u8 x56),(iz (IntKind.wrap .i64 x56)),(.str a0),(.str (List.drop (Int.toNat 10) (List.take (List.length a0) a0))),(iz x57),(.str a0),(.str (List.drop (Int.toNat 14) (List.take (List.length a0) a0))),(iz x58),(.str a0),(.str (List.drop (Int.toNat 18) (List.take (List.length a0) a0))),(iz x59),(.agg [(.zsl true),(iz (IntKind.wrap .i64 x52)),(iz (IntKind.wrap .i64 x53)),(iz (IntKind.wrap .i64 x54)),(iz x57),(iz x58),(iz (IntKind.wrap .i64 x55)),(iz x59),(iz (IntKind.wrap .i64 x56))]),v73,v74,v75,v76,v77,v78,v79,v80,v81,v82,v83,v84,v85,v86,v87,v88,v89,v90,v91,v92,v93,v94,v95,v96,v97,v98,v99,v100,v101,v102,v103,v104,v105,v106,v107,v108,v109,v110,v111,v112,v113,v114,v115,v116,v117,v118,v119,v120,v121,v122,v123,v124,v125,v126,v127,v128,v129,v130,v131,v132,v133,v134,v135,v136,v137,v138,v139,v140,v141,v142,v143,v144,v145,v146,v147,v148,tz,tz,tz,tz,tz,tz,tz,tz,tz,tz,tz,tz,tz,tz,tz,tz,tz,tz,tz,tz,tz,tz,tz,tz,tz,tz,tz,tz],H⟩=k65N x68 x69 H):∀ (n:Nat) (x166 x167:Int) (v168 v169 v170 v171 v172 v173 v174 v175 v176 v177 v178 v179 v180 v181 v182 v183 v184 v185 v186 v187 v188 v189:AV) (H:Heap),C0.iter (r16R2 C0 d a0 v0 x30 x31 s32 x33 b34 b35 v36 v37 b38 v39 v40 v41 v42 v43 v44 v45 v46 v47 x52 x53 x54 x55 x56 x57 x58 x59 v60 k65 x67 x68 x69 v78 v79 v85 v120 v143 v144 v145 v146 v147 v148 x149 x152 x153 x154 x155 x156 v157) n ⟨[(.str a0),tz,v0,(iz x67),(iz x30),v60,(iz x166),(iz x69),(iz (IntKind.wrap .i64 x152)),v157,(iz x167),(iz x31),(.str s32),(iz x33),(bz b34),(bz b35),v36,v37,(bz b38),v39,v40,v41,v42,v43,v44,v45,v46,v47,(.str a0),(iz (((List.length a0):Nat):Int)),bf,tz,(.str a0),(.int .u8 x52),(iz (IntKind.wrap .i64 x52)),(.str a0),(.int .u8 x53),(iz (IntKind.wrap .i64 x53)),(.str a0),(.int .u8 x54),(iz (IntKind.wrap .i64 x54)),(.str a0),(.int .u8 x55),(iz (IntKind.wrap .i64 x55)),(.str a0),(.int .u8 x56),(iz (IntKind.wrap .i64 x56)),(.str a0),(.str (List.drop (Int.toNat 10) (List.take (List.length a0) a0))),(iz x57),(.str a0),(.str (List.drop (Int.toNat 14) (List.take (List.length a0) a0))),(iz x58),(.str a0),(.str (List.drop (Int.toNat 18) (List.take (List.length a0) a0))),(iz x59),(.agg [(.zsl true),(iz (IntKind.wrap .i64 x52)),(iz (IntKind.wrap .i64 x53)),(iz (IntKind.wrap .i64 x54)),(iz x57),(iz x58),(iz (IntKind.wrap .i64 x55)),(iz x59),(iz (IntKind.wrap .i64 x56))]),(iz x69),(.str a0),(.int .u8 x149),(iz (IntKind.wrap .i64 x149)),bt,v78,v79,(.str a0),(iz (((List.length a0):Nat):Int)),(iz x68),(iz (IntKind.wrap .i64 (x68+14))),bf,v85,(.str a0),(iz x68),(.int .u8 x152),(iz (IntKind.wrap .i64 x152)),(.str a0),(iz x68),(iz (IntKind.wrap .i64 (x68+1))),(.int .u8 x153),(iz (IntKind.wrap .i64 x153)),(.str a0),(iz x68),(iz (IntKind.wrap .i64 (x68+2))),(.str (List.drop (Int.toNat (IntKind.wrap .i64 (x68+2))) (List.take (List.length a0) a0))),(iz x154),(.str a0),(iz x68),(iz (IntKind.wrap .i64 (x68+6))),(.str (List.drop (Int.toNat (IntKind.wrap .i64 (x68+6))) (List.take (List.length a0) a0))),(iz x155),(.str a0),(iz x68),(iz (IntKind.wrap .i64 (x68+10))),(.str (List.drop (Int.toNat (IntKind.wrap .i64 (x68+10))) (List.take (List.length a0) a0))),(iz x156),(.agg [(.zsl true),(iz (IntKind.wrap .i64 x153)),(iz x154),(iz x155),(iz x156)]),(iz x68),(iz (IntKind.wrap .i64 (x68+14))),(.str a0),(iz (((List.length a0):Nat):Int)),(iz (IntKind.wrap .i64 (x68+14))),(iz (IntKind.wrap .i64 x152)),(iz (IntKind.wrap .i64 (8 * (IntKind.wrap .i64 x152)))),(iz (IntKind.wrap .i64 ((IntKind.wrap .i64 (x68+14))+(IntKind.wrap .i64 (8 * (IntKind.wrap .i64 x152)))))),bf,v120,v168,v169,v170,v171,v172,v173,v174,v175,v176,v177,v178,v179,v180,v181,v182,v183,v184,v185,v186,v187,v188,v189,v143,v144,v145,v146,v147,v148,tz,tz,tz,tz,tz,tz,tz,tz,tz,tz,tz,tz,tz,tz,tz,tz,tz,tz,tz,tz,tz,tz,tz,tz,tz,tz,tz,tz],H⟩ [4] [r16X2_0 C0 d a0 v0 x30 x31 s32 x33 b34 b35 v36 v37 b38 v39 v40 v41 v42 v43 v44 v45 v46 v47 x52 x53 x54 x55 x56 x57 x58 x59 v60 k65 x67 x68 x69 v78 v79 v85 v120 v143 v144 v145 v146 v147 v148 x149 x152 x153 x154 x155 x156 v157] (r16E2 C0 d a0 v0 x30 x31 s32 x33 b34 b35 v36 v37 b38 v39 v40 v41 v42 v43 v44 v45 v46 v47 x52 x53 x54 x55 x56 x57 x58 x59 v60 k65 x67 x68 x69 v78 v79 v85 v120 v143 v144 v145 v146 v147 v148 x149 x152 x153 x154 x155 x156 v157)=L16_2 d a0 v60 x69 x152 v157 k65N n x166 x167 H:=by
 generalize hR:r16R2 C0 d a0 v0 x30 x31 s32 x33 b34 b35 v36 v37 b38 v39 v40 v41 v42 v43 v44 v45 v46 v47 x52 x53 x54 x55 x56 x57 x58 x59 v60 k65 x67 x68 x69 v78 v79 v85 v120 v143 v144 v145 v146 v147 v148 x149 x152 x153 x154 x155 x156 v157=R
 intro n
 induction n with
 | zero=>intros; rfl
 | succ n ih =>
   intro x166 x167 v168 v169 v170 v171 v172 v173 v174 v175 v176 v177 v178 v179 v180 v181 v182 v183 v184 v185 v186 v187 v188 v189 H
   simp only [it_ret] at ih
   rw [it_ret,xiter_s]
   refine Eq.trans (congrFun (congrFun hR.symm _) _) ?_
   unfold r16R2
   refine Eq.trans (pl_len (by rfl)) ?_; refine yt ySs ?_; refine yt yI ?_; refine yt ySs ?_; refine yt yI ?_; refine yt ySs ?_; refine yt yAs ?_; (iterate 19 (refine yt yA ?_)); refine yt ySs ?_
   simp only [kIter_n,kIter_x,kIter_r,kOut_x,kOut_r,xgo_hit,xgo_miss,ih,X16_2_0_ok d a0 v0 x30 x31 s32 x33 b34 b35 v36 v37 b38 v39 v40 v41 v42 v43 v44 v45 v46 v47 x52 x53 x54 x55 x56 x57 x58 x59 v60 k65 x67 x68 x69 v78 v79 v85 v120 v143 v144 v145 v146 v147 v148 x149 x152 x153 x154 x155 x156 v157 k65N hk65N]
   exact (L16_2_s d a0 v60 x69 x152 v157 k65N n x166 x167 H).symm
noncomputable def X16_1_0 (d:Nat) (a0:List UInt8) (v0 v60:AV) (x275:Int) (H:Heap):Ans :=
 cnd (decide ((((List.length a0):Nat):Int) < (IntKind.wrap .i64 (x275+4))))
  (C0.hop H (.store 9 (.v v0) (.v (.agg [(.zsl true),(iz 0),(iz 0),(iz 0),(iz 0),(iz 0),(iz 0),(iz 0),(iz 0)]))) fun v356 h357 =>
  C0.hop h357 (.load true 9 (.v v0)) fun v358 h359 =>
  C0.fin h357 (.tup [v358,(iz 5)]))
  (cnd (decide ((((List.length a0):Nat):Int) > (IntKind.wrap .i64 (x275+4))))
  (C0.hop H (.store 9 (.v v0) (.v (.agg [(.zsl true),(iz 0),(iz 0),(iz 0),(iz 0),(iz 0),(iz 0),(iz 0),(iz 0)]))) fun v360 h361 =>
  C0.hop h361 (.load true 9 (.v v0)) fun v362 h363 =>
  C0.fin h361 (.tup [v362,(iz 3)]))
  (cnd (decide (((0:Int)≤x275)∧(x275≤(((List.length a0):Nat):Int))))
  (C0.int .u32 (pcall M d 19 [(.str (List.drop 0 (List.take (Int.toNat x275) a0)))]) fun x364 =>
  cnd (decide (((0:Int)≤x275)∧(x275≤(((List.length a0):Nat):Int))))
  (C0.int .i64 (pcall M d 30 [(.str (List.drop (Int.toNat x275) (List.take (List.length a0) a0)))]) fun x365 =>
  cnd ((IntKind.wrap .i64 x364) != x365)
  (C0.hop H (.store 9 (.v v0) (.v (.agg [(.zsl true),(iz 0),(iz 0),(iz 0),(iz 0),(iz 0),(iz 0),(iz 0),(iz 0)]))) fun v366 h367 =>
  C0.hop h367 (.load true 9 (.v v0)) fun v368 h369 =>
  C0.fin h367 (.tup [v368,(iz 4)]))
  (C0.hop H (.load true 9 (.v v60)) fun v370 h371 =>
  C0.agg 9 (some v370) fun l372 =>
  C0.any l372[0]? fun v373 =>
  C0.int .i64 l372[1]? fun x374 =>
  C0.int .i64 l372[2]? fun x375 =>
  C0.int .i64 l372[3]? fun x376 =>
  C0.int .i64 l372[4]? fun x377 =>
  C0.int .i64 l372[5]? fun x378 =>
  C0.int .i64 l372[6]? fun x379 =>
  C0.int .i64 l372[7]? fun x380 =>
  C0.int .i64 l372[8]? fun x381 =>
  C0.snp h371 [(.agg [v373,(iz x374),(iz x375),(iz x376),(iz x377),(iz x378),(iz x379),(iz x380),(iz x381)])] fun l382 b383 =>
  C0.int .i64 (pcall M d 11 l382) fun x384 =>
  cnd (b383 || true)
  (cnd (x384 != 0)
  (C0.hop h371 (.store 9 (.v v0) (.v (.agg [(.zsl true),(iz 0),(iz 0),(iz 0),(iz 0),(iz 0),(iz 0),(iz 0),(iz 0)]))) fun v385 h386 =>
  C0.hop h386 (.load true 9 (.v v0)) fun v387 h388 =>
  C0.fin h386 (.tup [v387,(iz 3)]))
  (C0.hop h371 (.load true 9 (.v v60)) fun v389 h390 =>
  C0.agg 9 (some v389) fun l391 =>
  C0.any l391[0]? fun v392 =>
  C0.int .i64 l391[1]? fun x393 =>
  C0.int .i64 l391[2]? fun x394 =>
  C0.int .i64 l391[3]? fun x395 =>
  C0.int .i64 l391[4]? fun x396 =>
  C0.int .i64 l391[5]? fun x397 =>
  C0.int .i64 l391[6]? fun x398 =>
  C0.int .i64 l391[7]? fun x399 =>
  C0.int .i64 l391[8]? fun x400 =>
  C0.hop h390 (.store 9 (.v v0) (.v (.agg [v392,(iz x393),(iz x394),(iz x395),(iz x396),(iz x397),(iz x398),(iz x399),(iz x400)]))) fun v401 h402 =>
  C0.hop h402 (.load true 9 (.v v0)) fun v403 h404 =>
  C0.fin h402 (.tup [v403,(iz 0)])))
  (none)))
  (none))
  (none)))
theorem X16_1_0_ok (d:Nat) (a0:List UInt8) (v0:AV) (x30 x31:Int) (s32:List UInt8) (x33:Int) (b34 b35:Bool) (v36 v37:AV) (b38:Bool) (v39 v40 v41 v42 v43 v44 v45 v46 v47:AV) (x52 x53 x54 x55 x56 x57 x58 x59:Int) (v60:AV) (x274 x275 x276:Int) (v277 v278 v279:AV) (x280:Int) (s281:List UInt8) (x282 x283:Int) (b284:Bool) (v285 v286 v287 v288 v289 v290 v291 v292 v293 v294 v295 v296 v297 v298 v299 v300 v301 v302 v303 v304 v305 v306 v307 v308 v309 v310 v311 v312 v313 v314 v315 v316 v317 v318 v319 v320 v321 v322 v323 v324 v325 v326 v327 v328 v329 v330 v331 v332 v333 v334 v335 v336 v337 v338 v339 v340 v341 v342 v343 v344 v345 v346 v347 v348 v349 v350 v351 v352 v353 v354 v355:AV) (H:Heap):r16X1_0 C0 d a0 v0 x30 x31 s32 x33 b34 b35 v36 v37 b38 v39 v40 v41 v42 v43 v44 v45 v46 v47 x52 x53 x54 x55 x56 x57 x58 x59 v60 ⟨[(.str a0),tz,v0,(iz x274),(iz x30),v60,(iz x275),(iz x276),v277,v278,v279,(iz x31),(.str s32),(iz x33),(bz b34),(bz b35),v36,v37,(bz b38),v39,v40,v41,v42,v43,v44,v45,v46,v47,(.str a0),(iz (((List.length a0):Nat):Int)),bf,tz,(.str a0),(.int .u8 x52),(iz (IntKind.wrap .i64 x52)),(.str a0),(.int .u8 x53),(iz (IntKind.wrap .i64 x53)),(.str a0),(.int .u8 x54),(iz (IntKind.wrap .i64 x54)),(.str a0),(.int .u8 x55),(iz (IntKind.wrap .i64 x55)),(.str a0),(.int .u8 x56),(iz (IntKind.wrap .i64 x56)),(.str a0),(.str (List.drop (Int.toNat 10) (List.take (List.length a0) a0))),(iz x57),(.str a0),(.str (List.drop (Int.toNat 14) (List.take (List.length a0) a0))),(iz x58),(.str a0),(.str (List.drop (Int.toNat 18) (List.take (List.length a0) a0))),(iz x59),(.agg [(.zsl true),(iz (IntKind.wrap .i64 x52)),(iz (IntKind.wrap .i64 x53)),(iz (IntKind.wrap .i64 x54)),(iz x57),(iz x58),(iz (IntKind.wrap .i64 x55)),(iz x59),(iz (IntKind.wrap .i64 x56))]),(iz x280),(.str s281),(.int .u8 x282),(iz x283),(bz b284),v285,v286,v287,v288,v289,v290,v291,v292,v293,v294,v295,v296,v297,v298,v299,v300,v301,v302,v303,v304,v305,v306,v307,v308,v309,v310,v311,v312,v313,v314,v315,v316,v317,v318,v319,v320,v321,v322,v323,v324,v325,v326,v327,v328,v329,v330,v331,v332,v333,v334,v335,v336,v337,v338,v339,v340,v341,v342,v343,v344,v345,v346,v347,v348,v349,v350,v351,v352,v353,v354,v355,tz,tz,tz,tz,tz,tz,tz,tz,tz,tz,tz,tz,tz,tz,tz,tz,tz,tz,tz,tz,tz,tz,tz,tz,tz,tz,tz,tz],H⟩=X16_1_0 d a0 v0 v60 x275 H:=by
 unfold r16X1_0; refine Eq.trans (pl_len (by rfl)) ?_; refine yt ySs ?_; refine yt yI ?_; refine yt ySs ?_; (iterate 2 (refine yt yI ?_)); refine yt yAs ?_; refine yt ySs ?_; refine yt yI ?_; refine Eq.trans (pl_str (by rfl)) ?_; (iterate 2 (refine yt yI ?_)); refine yt yB ?_; refine yt yAs ?_; refine yt ySs ?_
 rfl
noncomputable def E16_1 (d:Nat) (a0:List UInt8) (v0 v60:AV) (x405:Int) (H:Heap):Ans :=
 C0.hop H (.load true 9 (.v v0)) fun v487 h488 =>
  C0.fin H (.tup [v487,(iz x405)])
theorem E16_1_ok (d:Nat) (a0:List UInt8) (v0:AV) (x30 x31:Int) (s32:List UInt8) (x33:Int) (b34 b35:Bool) (v36 v37:AV) (b38:Bool) (v39 v40 v41 v42 v43 v44 v45 v46 v47:AV) (x52 x53 x54 x55 x56 x57 x58 x59:Int) (v60:AV) (x405 x406 x407:Int) (v408 v409 v410:AV) (x411:Int) (s412:List UInt8) (x413 x414:Int) (b415:Bool) (v416 v417:AV) (s418:List UInt8) (x419 x420 x421:Int) (b422:Bool) (v423 v424 v425 v426 v427 v428 v429 v430 v431 v432 v433 v434 v435 v436 v437 v438 v439 v440 v441 v442 v443 v444 v445 v446 v447 v448 v449 v450 v451 v452 v453 v454 v455 v456 v457 v458 v459 v460 v461 v462 v463 v464 v465 v466 v467 v468 v469 v470 v471 v472 v473 v474 v475 v476 v477 v478 v479 v480 v481 v482 v483 v484 v485 v486:AV) (H:Heap):r16E1 C0 d a0 v0 x30 x31 s32 x33 b34 b35 v36 v37 b38 v39 v40 v41 v42 v43 v44 v45 v46 v47 x52 x53 x54 x55 x56 x57 x58 x59 v60 ⟨[(.str a0),tz,v0,(iz x405),(iz x30),v60,(iz x406),(iz x407),v408,v409,v410,(iz x31),(.str s32),(iz x33),(bz b34),(bz b35),v36,v37,(bz b38),v39,v40,v41,v42,v43,v44,v45,v46,v47,(.str a0),(iz (((List.length a0):Nat):Int)),bf,tz,(.str a0),(.int .u8 x52),(iz (IntKind.wrap .i64 x52)),(.str a0),(.int .u8 x53),(iz (IntKind.wrap .i64 x53)),(.str a0),(.int .u8 x54),(iz (IntKind.wrap .i64 x54)),(.str a0),(.int .u8 x55),(iz (IntKind.wrap .i64 x55)),(.str a0),(.int .u8 x56),(iz (IntKind.wrap .i64 x56)),(.str a0),(.str (List.drop (Int.toNat 10) (List.take (List.length a0) a0))),(iz x57),(.str a0),(.str (List.drop (Int.toNat 14) (List.take (List.length a0) a0))),(iz x58),(.str a0),(.str (List.drop (Int.toNat 18) (List.take (List.length a0) a0))),(iz x59),(.agg [(.zsl true),(iz (IntKind.wrap .i64 x52)),(iz (IntKind.wrap .i64 x53)),(iz (IntKind.wrap .i64 x54)),(iz x57),(iz x58),(iz (IntKind.wrap .i64 x55)),(iz x59),(iz (IntKind.wrap .i64 x56))]),(iz x411),(.str s412),(.int .u8 x413),(iz x414),(bz b415),v416,v417,(.str s418),(iz x419),(iz x420),(iz x421),(bz b422),v423,v424,v425,v426,v427,v428,v429,v430,v431,v432,v433,v434,v435,v436,v437,v438,v439,v440,v441,v442,v443,v444,v445,v446,v447,v448,v449,v450,v451,v452,v453,v454,v455,v456,v457,v458,v459,v460,v461,v462,v463,v464,v465,v466,v467,v468,v469,v470,v471,v472,v473,v474,v475,v476,v477,v478,v479,v480,v481,v482,v483,v484,v485,v486,tz,tz,tz,tz,tz,tz,tz,tz,tz,tz,tz,tz,tz,tz,tz,tz,tz,tz,tz,tz,tz,tz,tz,tz,tz,tz,tz,tz],H⟩=E16_1 d a0 v0 v60 x405 H:=by
 unfold r16E1; refine Eq.trans (pl_len (by rfl)) ?_; refine yt ySs ?_; refine yt yI ?_; refine yt ySs ?_; (iterate 2 (refine yt yI ?_)); refine yt yAs ?_; refine yt ySs ?_; refine yt yI ?_; refine Eq.trans (pl_str (by rfl)) ?_; (iterate 2 (refine yt yI ?_)); refine yt yB ?_; refine yt yAs ?_; refine Eq.trans (pl_str (by rfl)) ?_; (iterate 3 (refine yt yI ?_)); refine yt yB ?_; refine yt yAs ?_; refine yt ySs ?_
 rfl
noncomputable def L16_1 (d:Nat) (a0:List UInt8) (v0 v60:AV):Nat→Int→Int→Heap→Ans
 | 0,_,_,_=>none
 | n+1,x68,x69,H =>
 C0.int .u8 (Option.map (fun b:UInt8=>AV.int .u8 (b.toNat:Int)) a0[4]?) fun x149 =>
  cnd (decide (x69 < (IntKind.wrap .i64 x149)))
  (cnd (decide ((((List.length a0):Nat):Int) < (IntKind.wrap .i64 (x68+14))))
  (C0.hop H (.store 9 (.v v0) (.v (.agg [(.zsl true),(iz 0),(iz 0),(iz 0),(iz 0),(iz 0),(iz 0),(iz 0),(iz 0)]))) fun v150 h151 =>
  E16_1 d a0 v0 v60 5 h151)
  (cnd (decide ((0:Int)≤x68))
  (C0.int .u8 (Option.map (fun b:UInt8=>AV.int .u8 (b.toNat:Int)) a0[(Int.toNat x68)]?) fun x152 =>
  cnd (decide ((0:Int)≤(IntKind.wrap .i64 (x68+1))))
  (C0.int .u8 (Option.map (fun b:UInt8=>AV.int .u8 (b.toNat:Int)) a0[(Int.toNat (IntKind.wrap .i64 (x68+1)))]?) fun x153 =>
  cnd (decide (((0:Int)≤(IntKind.wrap .i64 (x68+2)))∧((IntKind.wrap .i64 (x68+2))≤(((List.length a0):Nat):Int))))
  (C0.int .i64 (pcall M d 30 [(.str (List.drop (Int.toNat (IntKind.wrap .i64 (x68+2))) (List.take (List.length a0) a0)))]) fun x154 =>
  cnd (decide (((0:Int)≤(IntKind.wrap .i64 (x68+6)))∧((IntKind.wrap .i64 (x68+6))≤(((List.length a0):Nat):Int))))
  (C0.int .i64 (pcall M d 30 [(.str (List.drop (Int.toNat (IntKind.wrap .i64 (x68+6))) (List.take (List.length a0) a0)))]) fun x155 =>
  cnd (decide (((0:Int)≤(IntKind.wrap .i64 (x68+10)))∧((IntKind.wrap .i64 (x68+10))≤(((List.length a0):Nat):Int))))
  (C0.int .i64 (pcall M d 30 [(.str (List.drop (Int.toNat (IntKind.wrap .i64 (x68+10))) (List.take (List.length a0) a0)))]) fun x156 =>
  C0.hop H (.alloc E46) fun v157 h158 =>
  C0.hop h158 (.store 5 (.v v157) (.v (.agg [(.zsl true),(iz (IntKind.wrap .i64 x153)),(iz x154),(iz x155),(iz x156)]))) fun v159 h160 =>
  cnd (decide ((((List.length a0):Nat):Int) < (IntKind.wrap .i64 ((IntKind.wrap .i64 (x68+14))+(IntKind.wrap .i64 (8 * (IntKind.wrap .i64 x152)))))))
  (C0.hop h160 (.store 9 (.v v0) (.v (.agg [(.zsl true),(iz 0),(iz 0),(iz 0),(iz 0),(iz 0),(iz 0),(iz 0),(iz 0)]))) fun v161 h162 =>
  E16_1 d a0 v0 v60 5 h162)
  (L16_2 d a0 v60 x69 x152 v157 (fun x68 x69 H=>L16_1 d a0 v0 v60 n x68 x69 H) 10000000000000000000 (IntKind.wrap .i64 (x68+14)) 0 h160))
  (none))
  (none))
  (none))
  (none))
  (none)))
  (X16_1_0 d a0 v0 v60 x68 H)
theorem L16_1_s (d:Nat) (a0:List UInt8) (v0 v60:AV) (n:Nat) (x68 x69:Int) (H:Heap):L16_1 d a0 v0 v60 (n+1) x68 x69 H=(C0.int .u8 (Option.map (fun b:UInt8=>AV.int .u8 (b.toNat:Int)) a0[4]?) fun x149 =>
 cnd (decide (x69 < (IntKind.wrap .i64 x149)))
 (cnd (decide ((((List.length a0):Nat):Int) < (IntKind.wrap .i64 (x68+14))))
 (C0.hop H (.store 9 (.v v0) (.v (.agg [(.zsl true),(iz 0),(iz 0),(iz 0),(iz 0),(iz 0),(iz 0),(iz 0),(iz 0)]))) fun v150 h151 =>
 E16_1 d a0 v0 v60 5 h151)
 (cnd (decide ((0:Int)≤x68))
 (C0.int .u8 (Option.map (fun b:UInt8=>AV.int .u8 (b.toNat:Int)) a0[(Int.toNat x68)]?) fun x152 =>
 cnd (decide ((0:Int)≤(IntKind.wrap .i64 (x68+1))))
 (C0.int .u8 (Option.map (fun b:UInt8=>AV.int .u8 (b.toNat:Int)) a0[(Int.toNat (IntKind.wrap .i64 (x68+1)))]?) fun x153 =>
 cnd (decide (((0:Int)≤(IntKind.wrap .i64 (x68+2)))∧((IntKind.wrap .i64 (x68+2))≤(((List.length a0):Nat):Int))))
 (C0.int .i64 (pcall M d 30 [(.str (List.drop (Int.toNat (IntKind.wrap .i64 (x68+2))) (List.take (List.length a0) a0)))]) fun x154 =>
 cnd (decide (((0:Int)≤(IntKind.wrap .i64 (x68+6)))∧((IntKind.wrap .i64 (x68+6))≤(((List.length a0):Nat):Int))))
 (C0.int .i64 (pcall M d 30 [(.str (List.drop (Int.toNat (IntKind.wrap .i64 (x68+6))) (List.take (List.length a0) a0)))]) fun x155 =>
 cnd (decide (((0:Int)≤(IntKind.wrap .i64 (x68+10)))∧((IntKind.wrap .i64 (x68+10))≤(((List.length a0):Nat):Int))))
 (C0.int .i64 (pcall M d 30 [(.str (List.drop (Int.toNat (IntKind.wrap .i64 (x68+10))) (List.take (List.length a0) a0)))]) fun x156 =>
 C0.hop H (.alloc E46) fun v157 h158 =>
 C0.hop h158 (.store 5 (.v v157) (.v (.agg [(.zsl true),(iz (IntKind.wrap .i64 x153)),(iz x154),(iz x155),(iz x156)]))) fun v159 h160 =>
 cnd (decide ((((List.length a0):Nat):Int) < (IntKind.wrap .i64 ((IntKind.wrap .i64 (x68+14))+(IntKind.wrap .i64 (8 * (IntKind.wrap .i64 x152)))))))
 (C0.hop h160 (.store 9 (.v v0) (.v (.agg [(.zsl true),(iz 0),(iz 0),(iz 0),(iz 0),(iz 0),(iz 0),(iz 0),(iz 0)]))) fun v161 h162 =>
 E16_1 d a0 v0 v60 5 h162)
 (L16_2 d a0 v60 x69 x152 v157 (fun x68 x69 H=>L16_1 d a0 v0 v60 n x68 x69 H) 10000000000000000000 (IntKind.wrap .i64 (x68+14)) 0 h160))
 (none))
 (none))
 (none))
 (none))
 (none)))
 (X16_1_0 d a0 v0 v60 x68 H)):=by kernel_rfl
theorem it16_1 (d:Nat) (a0:List UInt8) (v0:AV) (x30 x31:Int) (s32:List UInt8) (x33:Int) (b34 b35:Bool) (v36 v37:AV) (b38:Bool) (v39 v40 v41 v42 v43 v44 v45 v46 v47:AV) (x52 x53 x54 x55 x56 x57 x58 x59:Int) (v60:AV)  :∀ (n:Nat) (x67 x68 x69:Int) (v70 v71 v72 v73 v74 v75 v76 v77 v78 v79 v80 v81 v82 v83 v84 v85 v86 v87 v88 v89 v90 v91 v92 v93 v94 v95 v96 v97 v98 v99 v100 v101 v102 v103 v104 v105 v106 v107 v108 v109 v110 v111 v112 v113 v114 v115 v116 v117 v118 v119 v120 v121 v122 v123 v124 v125 v126 v127 v128 v129 v130 v131 v132 v133 v134 v135 v136 v137 v138 v139 v140 v141 v142 v143 v144 v145 v146 v147 v148:AV) (H:Heap),C0.iter (r16R1 C0 d a0 v0 x30 x31 s32 x33 b34 b35 v36 v37 b38 v39 v40 v41 v42 v43 v44 v45 v46 v47 x52 x53 x54 x55 x56 x57 x58 x59 v60) n ⟨[(.str a0),tz,v0,(iz x67),(iz x30),v60,(iz x68),(iz x69),v70,v71,v72,(iz x31),(.str s32),(iz x33),(bz b34),(bz b35),v36,v37,(bz b38),v39,v40,v41,v42,v43,v44,v45,v46,v47,(.str a0),(iz (((List.length a0):Nat):Int)),bf,tz,(.str a0),(.int .u8 x52),(iz (IntKind.wrap .i64 x52)),(.str a0),(.int .u8 x53),(iz (IntKind.wrap .i64 x53)),(.str a0),(.int .u8 x54),(iz (IntKind.wrap .i64 x54)),(.str a0),(.int .u8 x55),(iz (IntKind.wrap .i64 x55)),(.str a0),(.int .u8 x56),(iz (IntKind.wrap .i64 x56)),(.str a0),(.str (List.drop (Int.toNat 10) (List.take (List.length a0) a0))),(iz x57),(.str a0),(.str (List.drop (Int.toNat 14) (List.take (List.length a0) a0))),(iz x58),(.str a0),(.str (List.drop (Int.toNat 18) (List.take (List.length a0) a0))),(iz x59),(.agg [(.zsl true),(iz (IntKind.wrap .i64 x52)),(iz (IntKind.wrap .i64 x53)),(iz (IntKind.wrap .i64 x54)),(iz x57),(iz x58),(iz (IntKind.wrap .i64 x55)),(iz x59),(iz (IntKind.wrap .i64 x56))]),v73,v74,v75,v76,v77,v78,v79,v80,v81,v82,v83,v84,v85,v86,v87,v88,v89,v90,v91,v92,v93,v94,v95,v96,v97,v98,v99,v100,v101,v102,v103,v104,v105,v106,v107,v108,v109,v110,v111,v112,v113,v114,v115,v116,v117,v118,v119,v120,v121,v122,v123,v124,v125,v126,v127,v128,v129,v130,v131,v132,v133,v134,v135,v136,v137,v138,v139,v140,v141,v142,v143,v144,v145,v146,v147,v148,tz,tz,tz,tz,tz,tz,tz,tz,tz,tz,tz,tz,tz,tz,tz,tz,tz,tz,tz,tz,tz,tz,tz,tz,tz,tz,tz,tz],H⟩ [2] [r16X1_0 C0 d a0 v0 x30 x31 s32 x33 b34 b35 v36 v37 b38 v39 v40 v41 v42 v43 v44 v45 v46 v47 x52 x53 x54 x55 x56 x57 x58 x59 v60] (r16E1 C0 d a0 v0 x30 x31 s32 x33 b34 b35 v36 v37 b38 v39 v40 v41 v42 v43 v44 v45 v46 v47 x52 x53 x54 x55 x56 x57 x58 x59 v60)=L16_1 d a0 v0 v60 n x68 x69 H:=by
 generalize hR:r16R1 C0 d a0 v0 x30 x31 s32 x33 b34 b35 v36 v37 b38 v39 v40 v41 v42 v43 v44 v45 v46 v47 x52 x53 x54 x55 x56 x57 x58 x59 v60=R
 intro n
 induction n with
 | zero=>intros; rfl
 | succ n ih =>
   intro x67 x68 x69 v70 v71 v72 v73 v74 v75 v76 v77 v78 v79 v80 v81 v82 v83 v84 v85 v86 v87 v88 v89 v90 v91 v92 v93 v94 v95 v96 v97 v98 v99 v100 v101 v102 v103 v104 v105 v106 v107 v108 v109 v110 v111 v112 v113 v114 v115 v116 v117 v118 v119 v120 v121 v122 v123 v124 v125 v126 v127 v128 v129 v130 v131 v132 v133 v134 v135 v136 v137 v138 v139 v140 v141 v142 v143 v144 v145 v146 v147 v148 H
   simp only [it_ret] at ih
   rw [it_ret,xiter_s]
   refine Eq.trans (congrFun (congrFun hR.symm _) _) ?_
   unfold r16R1
   refine Eq.trans (pl_len (by rfl)) ?_; refine yt ySs ?_; refine yt yI ?_; refine yt ySs ?_; (iterate 2 (refine yt yI ?_)); (iterate 3 (refine yt yA ?_)); refine yt ySs ?_; refine yt yAs ?_; (iterate 71 (refine yt yA ?_)); refine yt ySs ?_
   have I0:=fun (x149 x152 x153 x154 x155 x156:Int) (v157:AV)=>it16_2 d a0 v0 x30 x31 s32 x33 b34 b35 v36 v37 b38 v39 v40 v41 v42 v43 v44 v45 v46 v47 x52 x53 x54 x55 x56 x57 x58 x59 v60 (kIter R n (kOut [2] [r16X1_0 C0 d a0 v0 x30 x31 s32 x33 b34 b35 v36 v37 b38 v39 v40 v41 v42 v43 v44 v45 v46 v47 x52 x53 x54 x55 x56 x57 x58 x59 v60] (r16E1 C0 d a0 v0 x30 x31 s32 x33 b34 b35 v36 v37 b38 v39 v40 v41 v42 v43 v44 v45 v46 v47 x52 x53 x54 x55 x56 x57 x58 x59 v60))) x67 x68 x69 v78 v79 v85 v120 v143 v144 v145 v146 v147 v148 x149 x152 x153 x154 x155 x156 v157 (fun x68 x69 H=>L16_1 d a0 v0 v60 n x68 x69 H) (fun x67 x68 x69 v70 v71 v72 v73 v74 v75 v76 v77 v78 v79 v80 v81 v82 v83 v84 v85 v86 v87 v88 v89 v90 v91 v92 v93 v94 v95 v96 v97 v98 v99 v100 v101 v102 v103 v104 v105 v106 v107 v108 v109 v110 v111 v112 v113 v114 v115 v116 v117 v118 v119 v120 v121 v122 v123 v124 v125 v126 v127 v128 v129 v130 v131 v132 v133 v134 v135 v136 v137 v138 v139 v140 v141 v142 v143 v144 v145 v146 v147 v148 H=>ih x67 x68 x69 v70 v71 v72 v73 v74 v75 v76 v77 v78 v79 v80 v81 v82 v83 v84 v85 v86 v87 v88 v89 v90 v91 v92 v93 v94 v95 v96 v97 v98 v99 v100 v101 v102 v103 v104 v105 v106 v107 v108 v109 v110 v111 v112 v113 v114 v115 v116 v117 v118 v119 v120 v121 v122 v123 v124 v125 v126 v127 v128 v129 v130 v131 v132 v133 v134 v135 v136 v137 v138 v139 v140 v141 v142 v143 v144 v145 v146 v147 v148 H)
   try dsimp only at I0
   simp only [kIter_n,kIter_x,kIter_r,kOut_x,kOut_r,xgo_hit,xgo_miss,ih,I0,X16_1_0_ok d a0 v0 x30 x31 s32 x33 b34 b35 v36 v37 b38 v39 v40 v41 v42 v43 v44 v45 v46 v47 x52 x53 x54 x55 x56 x57 x58 x59 v60  ,E16_1_ok d a0 v0 x30 x31 s32 x33 b34 b35 v36 v37 b38 v39 v40 v41 v42 v43 v44 v45 v46 v47 x52 x53 x54 x55 x56 x57 x58 x59 v60  ]
   exact (L16_1_s d a0 v0 v60 n x68 x69 H).symm
noncomputable def X16_0_0 (d:Nat) (a0:List UInt8) (v0:AV) (H:Heap):Ans :=
 cnd (decide ((((List.length a0):Nat):Int) < 22))
  (C0.hop H (.store 9 (.v v0) (.v (.agg [(.zsl true),(iz 0),(iz 0),(iz 0),(iz 0),(iz 0),(iz 0),(iz 0),(iz 0)]))) fun v48 h49 =>
  C0.hop h49 (.load true 9 (.v v0)) fun v50 h51 =>
  C0.fin h49 (.tup [v50,(iz 5)]))
  (C0.int .u8 (Option.map (fun b:UInt8=>AV.int .u8 (b.toNat:Int)) a0[5]?) fun x52 =>
  C0.int .u8 (Option.map (fun b:UInt8=>AV.int .u8 (b.toNat:Int)) a0[6]?) fun x53 =>
  C0.int .u8 (Option.map (fun b:UInt8=>AV.int .u8 (b.toNat:Int)) a0[7]?) fun x54 =>
  C0.int .u8 (Option.map (fun b:UInt8=>AV.int .u8 (b.toNat:Int)) a0[8]?) fun x55 =>
  C0.int .u8 (Option.map (fun b:UInt8=>AV.int .u8 (b.toNat:Int)) a0[9]?) fun x56 =>
  cnd (decide (((0:Int)≤10)∧((10:Int)≤(((List.length a0):Nat):Int))))
  (C0.int .i64 (pcall M d 30 [(.str (List.drop (Int.toNat 10) (List.take (List.length a0) a0)))]) fun x57 =>
  cnd (decide (((0:Int)≤14)∧((14:Int)≤(((List.length a0):Nat):Int))))
  (C0.int .i64 (pcall M d 30 [(.str (List.drop (Int.toNat 14) (List.take (List.length a0) a0)))]) fun x58 =>
  cnd (decide (((0:Int)≤18)∧((18:Int)≤(((List.length a0):Nat):Int))))
  (C0.int .i64 (pcall M d 30 [(.str (List.drop (Int.toNat 18) (List.take (List.length a0) a0)))]) fun x59 =>
  C0.hop H (.alloc E24) fun v60 h61 =>
  C0.hop h61 (.store 9 (.v v60) (.v (.agg [(.zsl true),(iz (IntKind.wrap .i64 x52)),(iz (IntKind.wrap .i64 x53)),(iz (IntKind.wrap .i64 x54)),(iz x57),(iz x58),(iz (IntKind.wrap .i64 x55)),(iz x59),(iz (IntKind.wrap .i64 x56))]))) fun v62 h63 =>
  L16_1 d a0 v0 v60 10000000000000000000 22 0 h63)
  (none))
  (none))
  (none))
theorem X16_0_0_ok (d:Nat) (a0:List UInt8) (v0:AV) (x29 x30 x31:Int) (s32:List UInt8) (x33:Int) (b34 b35:Bool) (v36 v37:AV) (b38:Bool) (v39 v40 v41 v42 v43 v44 v45 v46 v47:AV) (H:Heap):r16X0_0 C0 d a0 v0 ⟨[(.str a0),tz,v0,(iz x29),(iz x30),tz,tz,tz,tz,tz,tz,(iz x31),(.str s32),(iz x33),(bz b34),(bz b35),v36,v37,(bz b38),v39,v40,v41,v42,v43,v44,v45,v46,v47,tz,tz,tz,tz,tz,tz,tz,tz,tz,tz,tz,tz,tz,tz,tz,tz,tz,tz,tz,tz,tz,tz,tz,tz,tz,tz,tz,tz,tz,tz,tz,tz,tz,tz,tz,tz,tz,tz,tz,tz,tz,tz,tz,tz,tz,tz,tz,tz,tz,tz,tz,tz,tz,tz,tz,tz,tz,tz,tz,tz,tz,tz,tz,tz,tz,tz,tz,tz,tz,tz,tz,tz,tz,tz,tz,tz,tz,tz,tz,tz,tz,tz,tz,tz,tz,tz,tz,tz,tz,tz,tz,tz,tz,tz,tz,tz,tz,tz,tz,tz,tz,tz,tz,tz,tz,tz,tz,tz,tz,tz,tz,tz,tz,tz,tz,tz,tz,tz,tz,tz,tz,tz,tz,tz,tz,tz,tz,tz,tz,tz,tz,tz,tz],H⟩=X16_0_0 d a0 v0 H:=by
 unfold r16X0_0; refine Eq.trans (pl_len (by rfl)) ?_; refine yt ySs ?_; (iterate 2 (refine yt yI ?_)); refine yt ySs ?_; refine yt yI ?_; refine Eq.trans (pl_str (by rfl)) ?_; refine yt yI ?_; (iterate 2 (refine yt yB ?_)); (iterate 2 (refine yt yA ?_)); refine yt yB ?_; (iterate 9 (refine yt yA ?_)); refine yt ySs ?_
 first | (simp only [it16_1] <;> rfl) | rfl
noncomputable def E16_0 (d:Nat) (a0:List UInt8) (v0:AV) (x489:Int) (H:Heap):Ans :=
 C0.hop H (.load true 9 (.v v0)) fun v517 h518 =>
  C0.fin H (.tup [v517,(iz x489)])
theorem E16_0_ok (d:Nat) (a0:List UInt8) (v0:AV) (x489 x490 x491:Int) (s492:List UInt8) (x493:Int) (b494 b495:Bool) (v496 v497:AV) (b498:Bool) (v499 v500:AV) (s501:List UInt8) (x502 x503 x504 x505:Int) (b506:Bool) (v508:AV) (x509 x510 x511 x512 x513 x514 x515 x516:Int) (H:Heap):r16E0 C0 d a0 v0 ⟨[(.str a0),tz,v0,(iz x489),(iz x490),tz,tz,tz,tz,tz,tz,(iz x491),(.str s492),(iz x493),(bz b494),(bz b495),v496,v497,(bz b498),v499,v500,(.str s501),(iz x502),(.int .u8 x503),(iz x504),(.int .u8 x505),(bz b506),(.agg [v508,(iz x509),(iz x510),(iz x511),(iz x512),(iz x513),(iz x514),(iz x515),(iz x516)]),tz,tz,tz,tz,tz,tz,tz,tz,tz,tz,tz,tz,tz,tz,tz,tz,tz,tz,tz,tz,tz,tz,tz,tz,tz,tz,tz,tz,tz,tz,tz,tz,tz,tz,tz,tz,tz,tz,tz,tz,tz,tz,tz,tz,tz,tz,tz,tz,tz,tz,tz,tz,tz,tz,tz,tz,tz,tz,tz,tz,tz,tz,tz,tz,tz,tz,tz,tz,tz,tz,tz,tz,tz,tz,tz,tz,tz,tz,tz,tz,tz,tz,tz,tz,tz,tz,tz,tz,tz,tz,tz,tz,tz,tz,tz,tz,tz,tz,tz,tz,tz,tz,tz,tz,tz,tz,tz,tz,tz,tz,tz,tz,tz,tz,tz,tz,tz,tz,tz,tz,tz,tz,tz,tz,tz,tz,tz,tz,tz,tz,tz,tz,tz],H⟩=E16_0 d a0 v0 x489 H:=by
 unfold r16E0; refine Eq.trans (pl_len (by rfl)) ?_; refine yt ySs ?_; (iterate 2 (refine yt yI ?_)); refine yt ySs ?_; refine yt yI ?_; refine Eq.trans (pl_str (by rfl)) ?_; refine yt yI ?_; (iterate 2 (refine yt yB ?_)); refine yt yAs ?_; refine yt yB ?_; refine yt yAs ?_; refine Eq.trans (pl_str (by rfl)) ?_; (iterate 4 (refine yt yI ?_)); refine yt yB ?_; refine yt yG ?_; refine yt yA ?_; (iterate 8 (refine yt yI ?_)); refine yt ySs ?_
 rfl
noncomputable def L16_0 (d:Nat) (a0:List UInt8) (v0:AV):Nat→Int→Heap→Ans
 | 0,_,_=>none
 | n+1,x6,H =>
 cnd (decide (x6 < (((List.length a0):Nat):Int)))
  (cnd (decide (x6 < 4))
  (cnd (decide ((0:Int)≤x6))
  (C0.int .u8 (Option.map (fun b:UInt8=>AV.int .u8 (b.toNat:Int)) a0[(Int.toNat x6)]?) fun x24 =>
  cnd (decide ((0:Int)≤x6))
  (C0.int .u8 (Option.map (fun b:UInt8=>AV.int .u8 (b.toNat:Int)) [65,70,84,85][(Int.toNat x6)]?) fun x25 =>
  cnd (x24 != x25)
  (C0.hop H (.store 9 (.v v0) (.v (.agg [(.zsl true),(iz 0),(iz 0),(iz 0),(iz 0),(iz 0),(iz 0),(iz 0),(iz 0)]))) fun v26 h27 =>
  E16_0 d a0 v0 3 h27)
  (L16_0 d a0 v0 n (IntKind.wrap .i64 (x6+1)) H))
  (none))
  (none))
  (X16_0_0 d a0 v0 H))
  (X16_0_0 d a0 v0 H)
theorem L16_0_s (d:Nat) (a0:List UInt8) (v0:AV) (n:Nat) (x6:Int) (H:Heap):L16_0 d a0 v0 (n+1) x6 H=(cnd (decide (x6 < (((List.length a0):Nat):Int)))
 (cnd (decide (x6 < 4))
 (cnd (decide ((0:Int)≤x6))
 (C0.int .u8 (Option.map (fun b:UInt8=>AV.int .u8 (b.toNat:Int)) a0[(Int.toNat x6)]?) fun x24 =>
 cnd (decide ((0:Int)≤x6))
 (C0.int .u8 (Option.map (fun b:UInt8=>AV.int .u8 (b.toNat:Int)) [65,70,84,85][(Int.toNat x6)]?) fun x25 =>
 cnd (x24 != x25)
 (C0.hop H (.store 9 (.v v0) (.v (.agg [(.zsl true),(iz 0),(iz 0),(iz 0),(iz 0),(iz 0),(iz 0),(iz 0),(iz 0)]))) fun v26 h27 =>
 E16_0 d a0 v0 3 h27)
 (L16_0 d a0 v0 n (IntKind.wrap .i64 (x6+1)) H))
 (none))
 (none))
 (X16_0_0 d a0 v0 H))
 (X16_0_0 d a0 v0 H)):=by kernel_rfl
theorem it16_0 (d:Nat) (a0:List UInt8) (v0:AV)  :∀ (n:Nat) (x5 x6:Int) (v7 v8 v9 v10 v11 v12 v13 v14 v15 v16 v17 v18 v19 v20 v21 v22 v23:AV) (H:Heap),C0.iter (r16R0 C0 d a0 v0) n ⟨[(.str a0),tz,v0,(iz x5),(iz x6),tz,tz,tz,tz,tz,tz,v7,v8,v9,v10,v11,v12,v13,v14,v15,v16,v17,v18,v19,v20,v21,v22,v23,tz,tz,tz,tz,tz,tz,tz,tz,tz,tz,tz,tz,tz,tz,tz,tz,tz,tz,tz,tz,tz,tz,tz,tz,tz,tz,tz,tz,tz,tz,tz,tz,tz,tz,tz,tz,tz,tz,tz,tz,tz,tz,tz,tz,tz,tz,tz,tz,tz,tz,tz,tz,tz,tz,tz,tz,tz,tz,tz,tz,tz,tz,tz,tz,tz,tz,tz,tz,tz,tz,tz,tz,tz,tz,tz,tz,tz,tz,tz,tz,tz,tz,tz,tz,tz,tz,tz,tz,tz,tz,tz,tz,tz,tz,tz,tz,tz,tz,tz,tz,tz,tz,tz,tz,tz,tz,tz,tz,tz,tz,tz,tz,tz,tz,tz,tz,tz,tz,tz,tz,tz,tz,tz,tz,tz,tz,tz,tz,tz,tz,tz,tz,tz],H⟩ [0] [r16X0_0 C0 d a0 v0] (r16E0 C0 d a0 v0)=L16_0 d a0 v0 n x6 H:=by
 generalize hR:r16R0 C0 d a0 v0=R
 intro n
 induction n with
 | zero=>intros; rfl
 | succ n ih =>
   intro x5 x6 v7 v8 v9 v10 v11 v12 v13 v14 v15 v16 v17 v18 v19 v20 v21 v22 v23 H
   simp only [it_ret] at ih
   rw [it_ret,xiter_s]
   refine Eq.trans (congrFun (congrFun hR.symm _) _) ?_
   unfold r16R0
   refine Eq.trans (pl_len (by rfl)) ?_; refine yt ySs ?_; (iterate 2 (refine yt yI ?_)); refine yt ySs ?_; refine yt yAs ?_; (iterate 9 (refine yt yA ?_)); refine yt ySs ?_
   simp only [kIter_n,kIter_x,kIter_r,kOut_x,kOut_r,xgo_hit,xgo_miss,ih,X16_0_0_ok d a0 v0  ,E16_0_ok d a0 v0  ]
   exact (L16_0_s d a0 v0 n x6 H).symm
theorem q16 (d:Nat) (a0:List UInt8):xcall C0 M unr d 16 [(.str a0)] =
 C0.hop [] (.alloc E24) fun v0 h1 =>
 L16_0 d a0 v0 10000000000000000000 0 h1:=(r16 C0 d a0).trans (by simp only [it16_0])
end Go.Proofs.Ytbmedgpiphibaaa.AE

namespace Go.Proofs.Ytbmedgpiphibaaa.AE
set_option linter.unusedVariables false
set_option linter.unusedSimpArgs false
set_option linter.constructorNameAsVariable false
open Go Go.Proofs.Ytbmedgpiphibaaa.Geo
attribute [local irreducible] pcall C0
set_option maxRecDepth 100000
theorem s30 (d:Nat) (s:List UInt8) (h:4≤s.length):pcall M (d+1) 30 [.str s]=some (.int .i64 (num4 s)):=told (r30 C0 d _) (by
 refine Eq.trans (pl_int (str_ge (by omega))) ?_
 refine Eq.trans (pl_int (str_ge (by omega))) ?_
 refine Eq.trans (pl_int (str_ge (by omega))) ?_
 refine Eq.trans (pl_int (str_ge (by omega))) ?_
 have h0:=u8lt (s.getD 0 0); have h1:=u8lt (s.getD 1 0); have h2:=u8lt (s.getD 2 0); have h3:=u8lt (s.getD 3 0)
 have p0:(0:Int)≤((s.getD 0 0).toNat:Int):=Int.natCast_nonneg _
 have p1:(0:Int)≤((s.getD 1 0).toNat:Int):=Int.natCast_nonneg _
 have p2:(0:Int)≤((s.getD 2 0).toNat:Int):=Int.natCast_nonneg _
 have p3:(0:Int)≤((s.getD 3 0).toNat:Int):=Int.natCast_nonneg _
 refine congrArg (fun z=>some (AV.int .i64 z)) ?_
 unfold num4
 generalize ((s.getD 0 0).toNat:Int)=y0 at *; generalize ((s.getD 1 0).toNat:Int)=y1 at *; generalize ((s.getD 2 0).toNat:Int)=y2 at *; generalize ((s.getD 3 0).toNat:Int)=y3 at *
 rw [i64_small (n:=y0) (by omega) (by omega),i64_small (n:=y1) (by omega) (by omega),i64_small (n:=y2) (by omega) (by omega),i64_small (n:=y3) (by omega) (by omega),i64_small (n:=y0 * 16777216) (by omega) (by omega),i64_small (n:=y1 * 65536) (by omega) (by omega),i64_small (n:=y2 * 256) (by omega) (by omega),
  i64_small (n:=y0 * 16777216+y1 * 65536) (by omega) (by omega),i64_small (n:=y0 * 16777216+y1 * 65536+y2 * 256) (by omega) (by omega),i64_small (by omega) (by omega)])
theorem s31 (d:Nat) (s:List UInt8) (h:4≤s.length):pcall M (d+2) 31 [.str s]=some (.int .i64 (sg4 s)):=told (r31 C0 (d+1) _) (by
 refine Eq.trans (pl_int (s30 d s h)) ?_
 have:=num4_bd s
 unfold sg4
 by_cases c:num4 s ≥ 2147483648
 ·rw [decide_eq_true c,cnd_t,if_pos c,i64_small (by omega) (by omega)]
 ·rw [decide_eq_false c,cnd_f,if_neg c])
end Go.Proofs.Ytbmedgpiphibaaa.AE

namespace Go.Proofs.Ytbmedgpiphibaaa.AE
set_option linter.unusedVariables false
set_option linter.unusedSimpArgs false
set_option linter.constructorNameAsVariable false
open Go Go.Proofs.Ytbmedgpiphibaaa.Geo
theorem wrong_nil (d:Nat) (b:Bool) (a1 a2 a3 a4 a5 a6 a7 a8:Int):xcall C0 M unr d 11 [.agg [.zsl b,.int .i64 a1,.int .i64 a2,.int .i64 a3,.int .i64 a4,.int .i64 a5,.int .i64 a6,.int .i64 a7,.int .i64 a8]]=some (.int .i64 1):=by kernel_rfl
attribute [local irreducible] pcall C0
set_option maxRecDepth 100000
def phW (w:AV) (p:Phs):AV:=.agg [w,.int .i64 p.g,.int .i64 p.v,.int .i64 p.m,.int .i64 p.u]
def rlW (v:AV) (r:Rul):AV:=.agg [v,.int .i64 r.n,.int .i64 r.d,.int .i64 r.gr,.int .i64 r.eps,.int .i64 r.st,.int .i64 r.age,.int .i64 r.lift,.int .i64 r.saf]
def DoneP (H:Heap) (x:AV) (p:Phs):Prop:=∃ w,x=phW w p∧Own H E50 w (p.ps.map pt)
def Done (H:Heap):List AV→List Phs→Prop
 | [],[]=>True
 | x::xs,p::l=>DoneP H x p∧Done H xs l
 | _,_=>False
theorem own_pt {H H':Heap} (hk:∀ id b,b.e.tid=(E50).tid→hget H id=some b→hget H' id=some b) {w:AV} {l:List AV} (h:Own H E50 w l):Own H' E50 w l:=by
 rcases h with ⟨rfl,b,rfl⟩ | ⟨id,rfl,h⟩
 ·exact .inl ⟨rfl,b,rfl⟩
 ·exact .inr ⟨id,rfl,hk _ _ rfl h⟩
theorem done_keep {H H':Heap} (hk:∀ id b,b.e.tid=(E50).tid→hget H id=some b→hget H' id=some b):∀ {xs:List AV} {l:List Phs},Done H xs l→Done H' xs l
 | [],[],_=>trivial
 | x::xs,p::l,⟨⟨w,h1,h2⟩,h3⟩=>⟨⟨w,h1,own_pt hk h2⟩,done_keep hk h3⟩
 | [],_::_,h=>h.elim
 | _::_,[],h=>h.elim
theorem done_app {H:Heap}:∀ {xs:List AV} {l:List Phs} {x:AV} {p:Phs},Done H xs l→DoneP H x p→Done H (xs ++ [x]) (l ++ [p])
 | [],[],_,_,_,h=>⟨h,trivial⟩
 | x::xs,p::l,_,_,⟨h1,h2⟩,h=>⟨h1,done_app h2 h⟩
 | [],_::_,_,_,h,_=>h.elim
 | _::_,[],_,_,h,_=>h.elim
theorem snap_o {H:Heap} {e:ETy} {v:AV} {l:List AV} {k:Nat} (ho:Own H e v l):snap (k+2) H v=.lst (l.map (snap (k+1) H)):=by
 rcases ho with ⟨rfl,b,rfl⟩ | ⟨id,rfl,h⟩
 ·rfl
 ·simp only [snap,h]
  rw [if_neg (by omega),if_pos (by simp)]
  simp only [List.drop_zero,List.take_length]
theorem done_snap {H:Heap} (k:Nat):∀ {xs:List AV} {l:List Phs},Done H xs l→xs.map (snap (k+4) H)=l.map phA
 | [],[],_=>rfl
 | x::xs,p::l,⟨⟨w,h1,h2⟩,h3⟩=>by
   rw [List.map_cons,List.map_cons,done_snap k h3,h1]
   have hs:snap (k+3) H w=.lst (p.ps.map pt):=snap_own (k:=k+1) h2 fun x hx=>by
    obtain ⟨p,_,rfl⟩:=List.mem_map.mp hx
    rfl
   change AV.agg [snap (k+3) H w,.int .i64 p.g,.int .i64 p.v,.int .i64 p.m,.int .i64 p.u]::_=_
   rw [hs]
 | [],_::_,h=>h.elim
 | _::_,[],h=>h.elim
abbrev zA:AV:=.agg [.zsl true,.int .i64 0,.int .i64 0,.int .i64 0,.int .i64 0,.int .i64 0,.int .i64 0,.int .i64 0,.int .i64 0]
structure RS (H:Heap) (v:AV) (xs:List AV) (l:List Phs) (r:Rul):Prop where
 h0:hget H 0=some ⟨E24,[zA]⟩
 h1:hget H 1=some ⟨E24,[rlW v r]⟩
 ho:Own H E46 v xs
 hd:Done H xs l
theorem bad16 {H:Heap} (e:Int) (h0:hget H 0=some ⟨E24,[zA]⟩):(C0.hop H (.store 9 (.v (.ptr 0 0 0)) (.v zA)) fun _ h=>C0.hop h (.load true 9 (.v (.ptr 0 0 0))) fun v h2=>C0.fin h (.tup [v,.int .i64 e]))=some (rlT (zRul,e)):=by
 obtain ⟨H',hH'⟩:∃ H':Heap,H'=H.set 0 (some ⟨E24,[zA]⟩):=⟨_,rfl⟩
 have hst:∀ K:AV→Heap→Ans,C0.hop H (.store 9 (.v (.ptr 0 0 0)) (.v zA)) K=K .undef H':=fun K=>by rw [hH']; exact st_ptr h0 rfl rfl
 have h1:hget H' 0=some ⟨E24,[zA]⟩:=by rw [hH']; exact hget_set (hg_lt h0)
 refine Eq.trans (hst _) ?_
 refine Eq.trans (ld_ptr h1 rfl rfl) ?_
 rw [C0_fin]; rfl
theorem put_9 {v w:AV} {a b c e f g h i a' b' c' e' f' g' h' i':Int} (hsc:isSc v=true):putSub 9 0 (.agg [v,.int .i64 a,.int .i64 b,.int .i64 c,.int .i64 e,.int .i64 f,.int .i64 g,.int .i64 h,.int .i64 i]) (.agg [w,.int .i64 a',.int .i64 b',.int .i64 c',.int .i64 e',.int .i64 f',.int .i64 g',.int .i64 h',.int .i64 i'])=some (.agg [v,.int .i64 a,.int .i64 b,.int .i64 c,.int .i64 e,.int .i64 f,.int .i64 g,.int .i64 h,.int .i64 i]):=by
 simp only [putSub]
 rw [if_pos ⟨by simp,rfl,by show (isSc v && _)=true; rw [hsc]; rfl⟩]; rfl
theorem put_91 {v w:AV} {a b c e f g h i:Int} (hsc:isSc v=true) (hc:v.cells=[v]):putSub 1 0 v (.agg [w,.int .i64 a,.int .i64 b,.int .i64 c,.int .i64 e,.int .i64 f,.int .i64 g,.int .i64 h,.int .i64 i])=some (.agg [v,.int .i64 a,.int .i64 b,.int .i64 c,.int .i64 e,.int .i64 f,.int .i64 g,.int .i64 h,.int .i64 i]):=by
 simp only [putSub,hc]
 rw [if_pos ⟨by simp,rfl,by show (isSc v && _)=true; rw [hsc]; rfl⟩]; rfl
theorem put_rl {v w:AV} {r r':Rul} (hsc:isSc v=true):putSub 9 0 (rlW v r) (rlW w r')=some (rlW v r):=put_9 hsc
theorem put_rlz {v:AV} {r:Rul} (hsc:isSc v=true):putSub 9 0 (rlW v r) zA=some (rlW v r):=put_rl (w:=.zsl true) (r':=zRul) hsc
theorem put_rl1 {v w:AV} {r:Rul} (hsc:isSc v=true) (hc:v.cells=[v]):putSub 1 0 v (rlW w r)=some (rlW v r):=put_91 hsc hc
theorem rd_in (d a n:Nat) (hn:n≤255) (s:List UInt8) (hs:s.length≤1000000) (x69:Int) (kN:Int→Int→Heap→Ans) (g mv mn u:Int) (r:Rul) (v:AV) (xs:List AV) (l:List Phs) (hl:xs.length≤1000) (H0:Heap) (hR:RS H0 v xs l r) (ha:a=H0.length) :
 ∀ (k i:Nat),i+k=n→∀ f,k < f→∀ (at':Nat) (ps:List Pt) (w:AV) (H:Heap),at'+8 * k≤s.length→(∀ id b,hget H0 id=some b→hget H id=some b)→hget H a=some ⟨E46,[phW w ⟨[],g,mv,mn,u⟩]⟩→Own H E50 w (ps.map pt)→(∀ id,names w id→a < id)→ps.length+k≤1000 →
 ∃ H' v' x,L16_2 (d+2) s (.ptr 1 0 0) x69 (n:Nat) (.ptr a 0 0) kN f (at':Nat) (i:Nat) H=kN ((at'+8 * k:Nat):Int) (IntKind.wrap .i64 (x69+1)) H'∧RS H' v' (xs ++ [x]) (l ++ [⟨ps ++ ptsR k (s.drop at'),g,mv,mn,u⟩]) r
 | 0,i,h,f+1,_,at',ps,w,H,hat,hk,hp,ho,hw,hps=>by
   have h1:hget H 1=some ⟨E24,[rlW v r]⟩:=hk _ _ hR.h1
   have ov:Own H E46 v xs:=own_keep hR.ho fun id b _ hb=>hk id b hb
   have hsw:=own_sc ho
   obtain ⟨v1,H1,g1,o1,n1,l1,k1⟩:=app_one (x:=phW w ⟨[],g,mv,mn,u⟩) ov (by show (true && (isSc w && _))=true; rw [hsw.1]; rfl) (by rw [show (E46).bytes=56 from rfl]; omega) (by omega)
   have hsv:=own_sc o1
   have m0:=own_ne ov h1 (show (E24).tid ≠ (E46).tid by decide)
   have b1:hget H1 1=some ⟨E24,[rlW v r]⟩:=k1 _ _ m0 h1
   have b0:hget H1 0=some ⟨E24,[zA]⟩:=k1 _ _ (own_ne ov (hk _ _ hR.h0) (show (E24).tid ≠ (E46).tid by decide)) (hk _ _ hR.h0)
   have kp:∀ id b,b.e.tid=(E50).tid→hget H id=some b→hget H1 id=some b:=fun id b hb h=>k1 _ _ (own_ne ov h (by rw [hb]; decide)) h
   obtain ⟨H2,hH2⟩:∃ H2:Heap,H2=H1.set 1 (some ⟨E24,[rlW v1 r]⟩):=⟨_,rfl⟩
   have hst:∀ K:AV→Heap→Ans,C0.hop H1 (.store 1 (.v (.ptr 1 0 (0+0))) (.v v1)) K=K .undef H2:=fun K=>by rw [hH2]; exact st_ptr b1 rfl (put_rl1 hsv.1 hsv.2)
   have kp2:∀ id b,b.e.tid=(E50).tid→hget H id=some b→hget H2 id=some b:=fun id b hb h=>by
    rw [hH2]; refine hs_ne (kp id b hb h) fun hc=>?_
    subst hc
    rw [h1] at h
    injection h with h
    rw [← h] at hb
    exact absurd hb (by show (E24).tid ≠ (E50).tid; decide)
   refine ⟨H2,v1,phW w ⟨[],g,mv,mn,u⟩,?_,⟨?_,?_,?_,?_⟩⟩
   ·rw [L16_2_s,i64_small (by omega) (by omega),decide_eq_false (by omega),cnd_f]
    unfold X16_2_0
    refine Eq.trans sh_ptr ?_
    refine Eq.trans (ld_ptr h1 rfl rfl) ?_
    refine Eq.trans (ld_ptr hp rfl rfl) ?_
    refine Eq.trans (pl_agg rfl rfl) ?_
    refine Eq.trans (pl_any rfl) ?_
    refine Eq.trans (pl_int rfl) ?_
    refine Eq.trans (pl_int rfl) ?_
    refine Eq.trans (pl_int rfl) ?_
    refine Eq.trans (pl_int rfl) ?_
    refine Eq.trans (g1 _) ?_
    refine Eq.trans sh_ptr ?_
    refine Eq.trans (hst _) ?_
    rw [Nat.mul_zero,Nat.add_zero]
   ·rw [hH2]; exact hs_ne b0 (by decide)
   ·rw [hH2]; exact hget_set (hg_lt b1)
   ·refine own_keep o1 fun id b hnm hb=>?_
    have:=n1 id hnm
    have:=hg_lt h1
    rw [hH2]; exact hs_ne hb (by omega)
   ·refine done_app (done_keep (fun id b hb h=>kp2 id b hb (hk id b h)) hR.hd) ⟨w,rfl,?_⟩
    show Own H2 E50 w ((ps ++ []).map pt)
    rw [List.append_nil]
    rcases ho with ⟨e,b,rfl⟩ | ⟨id,rfl,h⟩
    ·exact .inl ⟨e,b,rfl⟩
    ·exact .inr ⟨id,rfl,kp2 _ _ rfl h⟩
 | k+1,i,h,f+1,hf,at',ps,w,H,hat,hk,hp,ho,hw,hps=>by
   obtain ⟨p,hpt⟩:∃ p,p=ptR (s.drop at'):=⟨_,rfl⟩
   obtain ⟨w1,H1,g1,o1,n1,l1,k1⟩:=app_one (x:=pt p) ho rfl (by rw [List.length_map,show (E50).bytes=16 from rfl]; omega) (by rw [List.length_map]; omega)
   have hal:=hg_lt hp
   have hna:¬ names w a:=fun hn=>by have:=hw a hn; omega
   have p1:=k1 _ _ hna hp
   obtain ⟨H2,hH2⟩:∃ H2:Heap,H2=H1.set a (some ⟨E46,[phW w1 ⟨[],g,mv,mn,u⟩]⟩):=⟨_,rfl⟩
   have hsw:=own_sc o1
   have hst:∀ K:AV→Heap→Ans,C0.hop H1 (.store 1 (.v (.ptr a 0 (0+0))) (.v w1)) K=K .undef H2:=fun K=>by rw [hH2]; exact st_ptr p1 rfl (put_ph1 hsw.1 hsw.2)
   have o2:Own H2 E50 w1 ((ps ++ [p]).map pt):=by
    rw [List.map_append]
    refine own_keep o1 fun id b hnm hb=>?_
    have:=n1 id hnm
    rw [hH2]; exact hs_ne hb (by omega)
   have hk2:∀ id b,hget H0 id=some b→hget H2 id=some b:=fun id b hb=>by
    have hid:=hg_lt hb
    rw [hH2]; exact hs_ne (k1 _ _ (fun hn=>by have:=hw id hn; omega) (hk id b hb)) (by omega)
   obtain ⟨H',v',x,t1,t2⟩:=rd_in d a n hn s hs x69 kN g mv mn u r v xs l hl H0 hR ha k (i+1) (by omega) f (by omega) (at'+8) (ps ++ [p]) w1 H2 (by omega) hk2 (by rw [hH2]; exact hget_set (hg_lt p1)) o2 (fun id hnm=>by have:=n1 id hnm; omega) (by rw [List.length_append,List.length_singleton]; omega)
   refine ⟨H',v',x,?_,?_⟩
   ·rw [L16_2_s,i64_small (n:=((n:Nat):Int)) (by omega) (by omega),decide_eq_true (by omega),cnd_t]
    refine Eq.trans sh_ptr ?_
    refine Eq.trans (ld_ptr hp rfl rfl) ?_
    refine Eq.trans (pl_len (by rw [decide_eq_true_iff]; omega)) ?_
    rw [dt,Int.toNat_natCast]
    refine Eq.trans (pl_int (s31 d (s.drop at') (by rw [List.length_drop]; omega))) ?_
    rw [show IntKind.wrap .i64 (((at':Nat):Int)+4)=((at'+4:Nat):Int) by rw [i64w]; omega,show IntKind.wrap .i64 (((at':Nat):Int)+8)=((at'+8:Nat):Int) by rw [i64w]; omega]
    refine Eq.trans (pl_len (by rw [decide_eq_true_iff]; omega)) ?_
    rw [dt,Int.toNat_natCast]
    refine Eq.trans (pl_int (s31 d (s.drop (at'+4)) (by rw [List.length_drop]; omega))) ?_
    have ep:pt p=.agg [.int .i64 (sg4 (s.drop at')),.int .i64 (sg4 (s.drop (at'+4)))]:=by rw [hpt,ptR,List.drop_drop]
    rw [← ep]
    refine Eq.trans (g1 _) ?_
    refine Eq.trans sh_ptr ?_
    refine Eq.trans (hst _) ?_
    rw [i64_up (by omega),t1,show at'+8+8 * k=at'+8 * (k+1) by omega]
   ·rw [List.append_assoc] at t2
    rw [ptsR,← hpt,List.drop_drop]
    exact t2
end Go.Proofs.Ytbmedgpiphibaaa.AE

namespace Go.Proofs.Ytbmedgpiphibaaa.AE
set_option linter.unusedVariables false
set_option linter.unusedSimpArgs false
set_option linter.constructorNameAsVariable false
open Go Go.Proofs.Ytbmedgpiphibaaa.Geo
attribute [local irreducible] pcall C0
set_option maxRecDepth 100000
theorem e16_1 (d:Nat) (s:List UInt8) (v60:AV) (e:Int) {H:Heap} (h0:hget H 0=some ⟨E24,[zA]⟩):(C0.hop H (.store 9 (.v (.ptr 0 0 0)) (.v zA)) fun _ h=>E16_1 d s (.ptr 0 0 0) v60 e h)=some (rlT (zRul,e)):=bad16 e h0
theorem e16_0 (d:Nat) (s:List UInt8) (e:Int) {H:Heap} (h0:hget H 0=some ⟨E24,[zA]⟩):(C0.hop H (.store 9 (.v (.ptr 0 0 0)) (.v zA)) fun _ h=>E16_0 d s (.ptr 0 0 0) e h)=some (rlT (zRul,e)):=bad16 e h0
theorem snp_rl {H:Heap} {v:AV} {r:Rul} {K:List AV→Bool→Ans} (l:List Phs) (hs:snap 11 H v=.lst (l.map phA)) (hv:(∃ id n,v=.slc id 0 n) ∨ (∃ b,v=.zsl b)) :
 C0.snp H [rlW v r] K=K [rl { r with phs:=l }] false ∨ (∃ b,v=.zsl b∧C0.snp H [rlW v r] K=K [rlW v r] true):=by
 rcases hv with ⟨id,n,rfl⟩ | ⟨b,rfl⟩
 ·left
  rw [snp_id (by rfl)]
  have:[rlW (.slc id 0 n) r].map (snap DEPTH H)=[rl { r with phs:=l }]:=by
   change [AV.agg [snap 11 H (.slc id 0 n),_,_,_,_,_,_,_,_]]=_
   rw [hs]; rfl
  rw [this]
 ·right
  exact ⟨b,rfl,snp_free (by rfl)⟩
theorem rd_end (d:Nat) (s:List UInt8) (hs:s.length≤1000000) (at':Nat) (hat:at'≤s.length) {H:Heap} {v:AV} {xs:List AV} {l:List Phs} (hR:RS H v xs l (ofR s [])) (hl:l.length≤1000) (hps:∀ p ∈ l,p.ps.length≤255) :
 X16_1_0 (d+11) s (.ptr 0 0 0) (.ptr 1 0 0) (at':Nat) H=some (rlT (tailF s l (s.drop at'))):=by
 unfold X16_1_0 tailF
 have e4:IntKind.wrap .i64 (((at':Nat):Int)+4)=((at'+4:Nat):Int):=by rw [i64w]; omega
 have el:(s.drop at').length=s.length - at':=List.length_drop
 rw [e4,el]
 change _=some (rlT (if _ then _ else _))
 by_cases g1:s.length - at' < 4
 ·rw [decide_eq_true (by omega),cnd_t,if_pos g1]
  exact bad16 5 hR.h0
 rw [decide_eq_false (by omega),cnd_f,if_neg g1]
 by_cases g2:s.length - at' > 4
 ·rw [decide_eq_true (by omega),cnd_t,if_pos g2]
  exact bad16 3 hR.h0
 rw [decide_eq_false (by omega),cnd_f,if_neg g2]
 have ea:s.length - 4=at':=by omega
 rw [ea]
 refine Eq.trans (pl_len (by rw [decide_eq_true_iff]; omega)) ?_
 rw [List.drop_zero,Int.toNat_natCast]
 refine Eq.trans (pl_int (s19 (d+9) _ (by rw [List.length_take]; omega))) ?_
 refine Eq.trans (pl_len (by rw [decide_eq_true_iff]; omega)) ?_
 rw [dt]
 refine Eq.trans (pl_int (s30 (d+10) _ (by rw [List.length_drop]; omega))) ?_
 have hb:=w32_bd (crcF (s.take at'))
 rw [i64_small (by omega) (by omega)]
 by_cases g3:w32 (crcF (s.take at'))=num4 (s.drop at')
 rotate_left
 ·rw [bne_iff_ne.mpr g3,cnd_t,if_pos g3]
  exact bad16 4 hR.h0
 rw [g3,bne_self_eq_false,cnd_f,if_neg (fun h=>h rfl)]
 refine Eq.trans (ld_ptr hR.h1 rfl rfl) ?_
 refine Eq.trans (pl_agg rfl rfl) ?_
 refine Eq.trans (pl_any rfl) ?_
 refine Eq.trans (pl_int rfl) ?_
 refine Eq.trans (pl_int rfl) ?_
 refine Eq.trans (pl_int rfl) ?_
 refine Eq.trans (pl_int rfl) ?_
 refine Eq.trans (pl_int rfl) ?_
 refine Eq.trans (pl_int rfl) ?_
 refine Eq.trans (pl_int rfl) ?_
 refine Eq.trans (pl_int rfl) ?_
 have hsn:∀ {H':Heap} (k:Nat),Own H' E46 v xs→Done H' xs l→snap (k+5) H' v=.lst (l.map phA):=fun {H'} k ho hd=>by
  rw [snap_o (k:=k+3) ho,done_snap k hd]
 have hvv:(∃ id n,v=.slc id 0 n) ∨ (∃ b,v=.zsl b):=by
  rcases hR.ho with ⟨_,b,rfl⟩ | ⟨id,rfl,_⟩
  ·exact .inr ⟨b,rfl⟩
  ·exact .inl ⟨id,_,rfl⟩
 -- what is wrong with them
 have hW:∀ K:List AV→Bool→Ans,(∀ az b,pcall M (d+11) 11 az=some (.int .i64 (wrongX (ofR s l)))→K az b=some (rlT (if wrongX (ofR s l)=0 then (ofR s l,0) else (zRul,3))))→C0.snp H [rlW v (ofR s [])] K=some (rlT (if wrongX (ofR s l)=0 then (ofR s l,0) else (zRul,3))):=fun K hK=>by
  rcases snp_rl (r:=ofR s []) (K:=K) l (hsn 6 hR.ho hR.hd) hvv with h | ⟨b,hz,h⟩
  ·rw [h]
   refine hK _ _ ?_
   exact s11 d (ofR s l) hl fun p hp=>by have:=hps p hp; omega
  ·rw [h]
   refine hK _ _ ?_
   have hx:l=[]:=by
    rcases hR.ho with ⟨e,b',_⟩ | ⟨id,e,_⟩
    ·have:=hR.hd
     rw [e] at this
     cases l with
     | nil=>rfl
     | cons _ _=>exact this.elim
    ·rw [hz] at e; cases e
   subst hx hz
   exact (told (wrong_nil (d+10) b _ _ _ _ _ _ _ _) rfl)
 refine hW _ fun az b hp=>?_
 refine Eq.trans (pl_int hp) ?_
 rw [c_ort]
 by_cases g4:wrongX (ofR s l)=0
 rotate_left
 ·rw [bne_iff_ne.mpr g4,cnd_t,if_neg g4]
  exact bad16 3 hR.h0
 rw [g4,bne_self_eq_false,cnd_f,if_pos rfl]
 refine Eq.trans (ld_ptr hR.h1 rfl rfl) ?_
 refine Eq.trans (pl_agg rfl rfl) ?_
 refine Eq.trans (pl_any rfl) ?_
 refine Eq.trans (pl_int rfl) ?_
 refine Eq.trans (pl_int rfl) ?_
 refine Eq.trans (pl_int rfl) ?_
 refine Eq.trans (pl_int rfl) ?_
 refine Eq.trans (pl_int rfl) ?_
 refine Eq.trans (pl_int rfl) ?_
 refine Eq.trans (pl_int rfl) ?_
 refine Eq.trans (pl_int rfl) ?_
 obtain ⟨H',hH'⟩:∃ H':Heap,H'=H.set 0 (some ⟨E24,[rlW v (ofR s [])]⟩):=⟨_,rfl⟩
 have hst:∀ K:AV→Heap→Ans,C0.hop H (.store 9 (.v (.ptr 0 0 0)) (.v (rlW v (ofR s [])))) K=K .undef H':=fun K=>by rw [hH']; exact st_ptr hR.h0 rfl (put_rlz (own_sc hR.ho).1)
 have h0:hget H' 0=some ⟨E24,[rlW v (ofR s [])]⟩:=by rw [hH']; exact hget_set (hg_lt hR.h0)
 have kp:∀ id b,b.e.tid ≠ (E24).tid→hget H id=some b→hget H' id=some b:=fun id b hb h=>by
  rw [hH']; refine hs_ne h fun hc=>?_
  subst hc
  rw [hR.h0] at h
  injection h with h
  rw [← h] at hb
  exact hb rfl
 have ho':Own H' E46 v xs:=by
  rcases hR.ho with ⟨e,b,rfl⟩ | ⟨id,rfl,h⟩
  ·exact .inl ⟨e,b,rfl⟩
  ·exact .inr ⟨id,rfl,kp _ _ (by show (E46).tid ≠ (E24).tid; decide) h⟩
 have hd':Done H' xs l:=done_keep (fun id b hb h=>kp id b (by rw [hb]; decide) h) hR.hd
 refine Eq.trans (hst _) ?_
 refine Eq.trans (ld_ptr h0 rfl rfl) ?_
 rw [C0_fin]
 refine congrArg some ?_
 change AV.tup [.agg [snap 10 H' v,_,_,_,_,_,_,_,_],.int .i64 0]=_
 rw [hsn 5 ho' hd']; rfl
theorem s8_drop (s:List UInt8) (a i:Nat):s8 s (a+i)=s8 (s.drop a) i:=by
 unfold s8
 rw [List.getD_eq_getElem?_getD,List.getD_eq_getElem?_getD,List.getElem?_drop]
theorem rd_go (d:Nat) (s:List UInt8) (hs:s.length≤1000000) (h22:22≤s.length):∀ (k i:Nat),i+k=s8 s 4→∀ f,k < f→∀ (at':Nat) (v:AV) (xs:List AV) (l:List Phs) (H:Heap),at'≤s.length→RS H v xs l (ofR s [])→xs.length=i→l.length=i→(∀ p ∈ l,p.ps.length≤255) →
 L16_1 (d+11) s (.ptr 0 0 0) (.ptr 1 0 0) f (at':Nat) (i:Nat) H=some (rlT (match phsR k (s.drop at') with
  | none=>(zRul,5)
  | some (m,t)=>tailF s (l ++ m) t))
 | 0,i,h,f+1,_,at',v,xs,l,H,hat,hR,hx,hl,hps=>by
   have b4:=s8_lt s 4
   rw [L16_1_s]
   refine Eq.trans (pl_int (s8_at (by omega))) ?_
   rw [i64_small (n:=((s8 s 4:Nat):Int)) (by omega) (by omega),decide_eq_false (by omega),cnd_f,rd_end d s hs at' hat hR (by omega) hps]
   simp only [phsR,List.append_nil]
 | k+1,i,h,f+1,hf,at',v,xs,l,H,hat,hR,hx,hl,hps=>by
   have b4:=s8_lt s 4
   have el:(s.drop at').length=s.length - at':=List.length_drop
   rw [L16_1_s]
   refine Eq.trans (pl_int (s8_at (by omega))) ?_
   rw [i64_small (n:=((s8 s 4:Nat):Int)) (by omega) (by omega),decide_eq_true (by omega),cnd_t]
   have w1:IntKind.wrap .i64 (((at':Nat):Int)+1)=((at'+1:Nat):Int):=by rw [i64w]; omega
   have w2:IntKind.wrap .i64 (((at':Nat):Int)+2)=((at'+2:Nat):Int):=by rw [i64w]; omega
   have w6:IntKind.wrap .i64 (((at':Nat):Int)+6)=((at'+6:Nat):Int):=by rw [i64w]; omega
   have w10:IntKind.wrap .i64 (((at':Nat):Int)+10)=((at'+10:Nat):Int):=by rw [i64w]; omega
   have w14:IntKind.wrap .i64 (((at':Nat):Int)+14)=((at'+14:Nat):Int):=by rw [i64w]; omega
   rw [w1,w2,w6,w10,w14]
   by_cases g1:s.length - at' < 14
   ·rw [decide_eq_true (by omega),cnd_t,phsR,if_neg (fun c:phOk (s.drop at')=>by have:=c.1; omega)]
    exact e16_1 _ _ _ _ hR.h0
   rw [decide_eq_false (by omega),cnd_f]
   refine Eq.trans (pl_len (by rw [decide_eq_true_iff]; omega)) ?_
   rw [Int.toNat_natCast]
   refine Eq.trans (pl_int (s8_at (by omega))) ?_
   refine Eq.trans (pl_len (by rw [decide_eq_true_iff]; omega)) ?_
   rw [Int.toNat_natCast]
   refine Eq.trans (pl_int (s8_at (by omega))) ?_
   refine Eq.trans (pl_len (by rw [decide_eq_true_iff]; omega)) ?_
   rw [dt,Int.toNat_natCast]
   refine Eq.trans (pl_int (s30 (d+10) _ (by rw [List.length_drop]; omega))) ?_
   refine Eq.trans (pl_len (by rw [decide_eq_true_iff]; omega)) ?_
   rw [dt,Int.toNat_natCast]
   refine Eq.trans (pl_int (s30 (d+10) _ (by rw [List.length_drop]; omega))) ?_
   refine Eq.trans (pl_len (by rw [decide_eq_true_iff]; omega)) ?_
   rw [dt,Int.toNat_natCast]
   refine Eq.trans (pl_int (s30 (d+10) _ (by rw [List.length_drop]; omega))) ?_
   obtain ⟨n,hn⟩:∃ n,n=s8 s at':=⟨_,rfl⟩
   have bn:n < 256:=by rw [hn]; exact s8_lt _ _
   have b1:=s8_lt s (at'+1)
   rw [← hn,i64_small (n:=((s8 s (at'+1):Nat):Int)) (by omega) (by omega),i64_small (n:=((n:Nat):Int)) (by omega) (by omega),i64_small (n:=8 * ((n:Nat):Int)) (by omega) (by omega),i64_small (n:=((at'+14:Nat):Int)+8 * ((n:Nat):Int)) (by omega) (by omega)]
   have hz:∀ K:AV→Heap→Ans,C0.hop H (.alloc E46) K=K (.ptr H.length 0 0) (H ++ [some ⟨E46,[.agg [.zsl true,.int .i64 0,.int .i64 0,.int .i64 0,.int .i64 0]]⟩]):=fun K=>hop_eq rfl
   refine Eq.trans (hz _) ?_
   refine Eq.trans (stl rfl) ?_
   obtain ⟨H1,hH1⟩:∃ H1:Heap,H1=H ++ [some ⟨E46,[phW (.zsl true) ⟨[],(s8 s (at'+1):Nat),num4 (s.drop (at'+2)),num4 (s.drop (at'+6)),num4 (s.drop (at'+10))⟩]⟩]:=⟨_,rfl⟩
   have e1:n=s8 (s.drop at') 0:=by rw [hn,← s8_drop,Nat.add_zero]
   by_cases g2:at'+14+8 * n≤s.length
   rotate_left
   ·rw [decide_eq_true (by omega),cnd_t,phsR,if_neg (fun c:phOk (s.drop at')=>by have:=c.2; omega)]
    exact e16_1 _ _ _ _ (hget_app hR.h0)
   rw [decide_eq_false (by omega),cnd_f]
   have hok:phOk (s.drop at'):=⟨by omega,by omega⟩
   obtain ⟨H',v',x,t1,t2⟩:=rd_in (d+9) H.length n (by omega) s hs (i:Nat) (fun x68 x69 H=>L16_1 (d+11) s (.ptr 0 0 0) (.ptr 1 0 0) f x68 x69 H) (s8 s (at'+1):Nat) (num4 (s.drop (at'+2))) (num4 (s.drop (at'+6))) (num4 (s.drop (at'+10))) (ofR s []) v xs l (by omega) H hR rfl
    n 0 (by omega) 10000000000000000000 (by omega) (at'+14) [] (.zsl true) H1 (by omega) (fun id b hb=>by rw [hH1]; exact hget_app hb) (by rw [hH1]; exact hget_new) (.inl ⟨rfl,true,rfl⟩) (fun id hnm=>by obtain ⟨_,_,hc⟩:=hnm; cases hc) (by simp; omega)
   rw [hH1] at t1
   refine Eq.trans t1 ?_
   have ep:(⟨[] ++ ptsR n (s.drop (at'+14)),((s8 s (at'+1):Nat):Int),num4 (s.drop (at'+2)),num4 (s.drop (at'+6)),num4 (s.drop (at'+10))⟩:Phs)=phOf (s.drop at'):=by
    unfold phOf
    rw [List.nil_append,← e1,List.drop_drop,List.drop_drop,List.drop_drop,List.drop_drop,s8_drop]
   rw [ep] at t2
   have er:phRest (s.drop at')=s.drop (at'+14+8 * n):=by unfold phRest; rw [← e1,List.drop_drop,Nat.add_assoc]
   have ih:=rd_go d s hs h22 k (i+1) (by omega) f (by omega) (at'+14+8 * n) v' (xs ++ [x]) (l ++ [phOf (s.drop at')]) H' g2 t2 (by rw [List.length_append,hx]; rfl) (by rw [List.length_append,hl]; rfl) (fun p hp=>by
    rcases List.mem_append.mp hp with hp | hp
    ·exact hps p hp
    ·rw [List.mem_singleton] at hp
     rw [hp]; unfold phOf; rw [ptsR_len]; omega)
   rw [i64_up (by omega)]
   refine Eq.trans ih ?_
   rw [phsR,if_pos hok,er]
   cases phsR k (s.drop (at'+14+8 * n)) with
   | none=>rfl
   | some x=>obtain ⟨m,t⟩:=x; simp only [List.append_assoc,List.singleton_append]
def preI (i:Nat) (s:List UInt8):Bool:=(s.drop i).take (4 - i) == (([65,70,84,85]:List UInt8).drop i).take (s.length - i)
theorem u8_ne {a b:UInt8}:(((a.toNat:Nat):Int) != ((b.toNat:Nat):Int))=!(a == b):=by
 by_cases h:a=b
 ·subst h; simp
 ·rw [beq_eq_false_iff_ne.mpr h]
  rw [bne_iff_ne.mpr]; rfl
  intro e
  exact h (UInt8.toNat_inj.mp (by omega))
theorem let_go (d:Nat) (s:List UInt8) (hs:s.length≤1000000) (H:Heap) (h0:hget H 0=some ⟨E24,[zA]⟩):∀ (k i:Nat),i+k=4→∀ f,k < f →
 L16_0 d s (.ptr 0 0 0) f (i:Nat) H=bif preI i s then X16_0_0 d s (.ptr 0 0 0) H else some (rlT (zRul,3))
 | 0,i,h,f+1,_=>by
   have e4:i=4:=by omega
   subst e4
   have hp:preI 4 s=true:=by unfold preI; simp
   rw [L16_0_s,hp,cond_true]
   by_cases c:4 < s.length
   ·rw [decide_eq_true (by omega),cnd_t,decide_eq_false (by omega),cnd_f]
   ·rw [decide_eq_false (by omega),cnd_f]
 | k+1,i,h,f+1,hf=>by
   rw [L16_0_s]
   by_cases c:i < s.length
   rotate_left
   ·have hp:preI i s=true:=by unfold preI; rw [List.drop_of_length_le (by omega),show s.length - i=0 by omega]; simp
    rw [decide_eq_false (by omega),cnd_f,hp,cond_true]
   rw [decide_eq_true (by omega),cnd_t,decide_eq_true (by omega),cnd_t,decide_eq_true (by omega),cnd_t,Int.toNat_natCast]
   have hi4:i < ([65,70,84,85]:List UInt8).length:=by show i < 4; omega
   refine Eq.trans (pl_int (str_at c)) ?_
   rw [cnd_t]
   refine Eq.trans (pl_int (str_at hi4)) ?_
   have hp:preI i s=((s[i] == ([65,70,84,85]:List UInt8)[i]) && preI (i+1) s):=by
    unfold preI
    rw [List.drop_eq_getElem_cons c,List.drop_eq_getElem_cons hi4,show 4 - i=(4 - (i+1))+1 by omega,show s.length - i=(s.length - (i+1))+1 by omega,List.take_succ_cons,List.take_succ_cons]; rfl
   rw [u8_ne,hp]
   cases s[i] == ([65,70,84,85]:List UInt8)[i]
   ·rw [Bool.not_false,cnd_t,Bool.false_and,cond_false]
    exact e16_0 _ _ _ h0
   ·rw [Bool.not_true,cnd_f,Bool.true_and,i64_up (by omega)]
    exact let_go d s hs H h0 k (i+1) (by omega) f (by omega)
theorem s16 (d:Nat) (s:List UInt8) (hs:s.length≤1000000):pcall M (d+12) 16 [.str s]=some (rlT (readF s)):=told (q16 (d+11) s) (by
 have hal:∀ K:AV→Heap→Ans,C0.hop [] (.alloc E24) K=K (.ptr 0 0 0) [some ⟨E24,[zA]⟩]:=fun K=>hop_eq rfl
 refine Eq.trans (hal _) ?_
 have h0:hget [some (⟨E24,[zA]⟩:Blk)] 0=some ⟨E24,[zA]⟩:=rfl
 refine Eq.trans (let_go (d+11) s hs _ h0 4 0 rfl 10000000000000000000 (by omega)) ?_
 have ep:preI 0 s=pre4 s:=by unfold preI pre4; rw [List.drop_zero,List.drop_zero,Nat.sub_zero,Nat.sub_zero]
 rw [ep]
 unfold readF
 cases pre4 s
 ·rw [cond_false,if_pos rfl]
 rw [cond_true,if_neg (by decide)]
 unfold X16_0_0
 by_cases h1:s.length < 22
 ·rw [decide_eq_true (by omega),cnd_t,if_pos h1]
  exact bad16 5 h0
 rw [decide_eq_false (by omega),cnd_f,if_neg h1]
 refine Eq.trans (pl_int (s8_at (by omega))) ?_
 refine Eq.trans (pl_int (s8_at (by omega))) ?_
 refine Eq.trans (pl_int (s8_at (by omega))) ?_
 refine Eq.trans (pl_int (s8_at (by omega))) ?_
 refine Eq.trans (pl_int (s8_at (by omega))) ?_
 refine Eq.trans (pl_len (by rw [decide_eq_true_iff]; omega)) ?_
 rw [dt]
 refine Eq.trans (pl_int (s30 (d+10) _ (by rw [List.length_drop]; show 4≤s.length - 10; omega))) ?_
 refine Eq.trans (pl_len (by rw [decide_eq_true_iff]; omega)) ?_
 rw [dt]
 refine Eq.trans (pl_int (s30 (d+10) _ (by rw [List.length_drop]; show 4≤s.length - 14; omega))) ?_
 refine Eq.trans (pl_len (by rw [decide_eq_true_iff]; omega)) ?_
 rw [dt]
 refine Eq.trans (pl_int (s30 (d+10) _ (by rw [List.length_drop]; show 4≤s.length - 18; omega))) ?_
 have b5:=s8_lt s 5; have b6:=s8_lt s 6; have b7:=s8_lt s 7; have b8:=s8_lt s 8; have b9:=s8_lt s 9
 rw [i64_small (n:=((s8 s 5:Nat):Int)) (by omega) (by omega),i64_small (n:=((s8 s 6:Nat):Int)) (by omega) (by omega),i64_small (n:=((s8 s 7:Nat):Int)) (by omega) (by omega),i64_small (n:=((s8 s 8:Nat):Int)) (by omega) (by omega),i64_small (n:=((s8 s 9:Nat):Int)) (by omega) (by omega)]
 have hal1:∀ K:AV→Heap→Ans,C0.hop [some (⟨E24,[zA]⟩:Blk)] (.alloc E24) K=K (.ptr 1 0 0) [some ⟨E24,[zA]⟩,some ⟨E24,[zA]⟩]:=fun K=>hop_eq rfl
 refine Eq.trans (hal1 _) ?_
 have hst1:∀ K:AV→Heap→Ans,C0.hop [some (⟨E24,[zA]⟩:Blk),some (⟨E24,[zA]⟩:Blk)] (.store 9 (.v (.ptr 1 0 0)) (.v (rlW (.zsl true) (ofR s [])))) K=K .undef [some ⟨E24,[zA]⟩,some ⟨E24,[rlW (.zsl true) (ofR s [])]⟩]:=fun K=>hop_eq rfl
 refine Eq.trans (hst1 _) ?_
 have:=rd_go d s hs (by omega) (s8 s 4) 0 (by omega) 10000000000000000000 (by have:=s8_lt s 4; omega) 22 (.zsl true) [] [] [some ⟨E24,[zA]⟩,some ⟨E24,[rlW (.zsl true) (ofR s [])]⟩] (by omega) ⟨rfl,rfl,.inl ⟨rfl,true,rfl⟩,trivial⟩ rfl rfl (fun p hp=>nomatch hp)
 refine Eq.trans this ?_
 rfl)
end Go.Proofs.Ytbmedgpiphibaaa.AE

namespace Go.Proofs.Ytbmedgpiphibaaa.AE
set_option linter.unusedVariables false
set_option linter.unusedSimpArgs false
set_option linter.constructorNameAsVariable false
open Go Go.Proofs.Ytbmedgpiphibaaa.Geo
set_option maxRecDepth 100000
theorem num4_tk {s:List UInt8} (h:4≤s.length):num4 (s.take 4)=num4 s:=by
 obtain ⟨a,b,c,e,t,rfl⟩:=num4_take s h
 rfl
theorem be4_tk {s:List UInt8} (h:4≤s.length):be4 (num4 s)=s.take 4:=by
 rw [← num4_tk h]
 exact be4_num4 (by rw [List.length_take]; omega)
theorem be4_sg {s:List UInt8} (h:4≤s.length):be4 (sg4 s)=s.take 4:=by
 rw [← be4_tk h]
 refine be4_md ?_
 unfold sg4
 split <;> omega
theorem tk_split (s:List UInt8) (a b:Nat):s.take (a+b)=s.take a ++ (s.drop a).take b:=List.take_add
theorem ptsB_R:∀ (n:Nat) (s:List UInt8),8 * n≤s.length→ptsB (ptsR n s)=s.take (8 * n)
 | 0,s,_=>by simp [ptsR,ptsB]
 | n+1,s,h=>by
   rw [ptsR,ptsB_cons,ptsB_R n (s.drop 8) (by rw [List.length_drop]; omega),show 8 * (n+1)=8+8 * n by omega,tk_split s 8 (8 * n)]
   refine congrArg (· ++ _) ?_
   unfold ptB ptR
   rw [be4_sg (by omega),be4_sg (by rw [List.length_drop]; omega),show (8:Nat)=4+4 from rfl,tk_split s 4 4]
theorem tk1 {s:List UInt8} (h:2≤s.length):s.take 2=[s.getD 0 0,s.getD 1 0]:=by
 match s,h with
 | a::b::t,_=>rfl
theorem by8_s8 (s:List UInt8) (i:Nat):by8 ((s8 s i:Nat):Int)=s.getD i 0:=by8_b _
theorem ph_forth {s:List UInt8} (h:phOk s):phB (phOf s) ++ phRest s=s:=by
 obtain ⟨h1,h2⟩:=h
 have e:phB (phOf s)=s.take (14+8 * s8 s 0):=by
  unfold phB phOf
  simp only [ptsR_len]
  rw [by8_s8,by8_s8,be4_tk (s:=s.drop 2) (by rw [List.length_drop]; omega),be4_tk (s:=s.drop 6) (by rw [List.length_drop]; omega),be4_tk (s:=s.drop 10) (by rw [List.length_drop]; omega),ptsB_R _ _ (by rw [List.length_drop]; omega),← tk1 (by omega),tk_split s 14 (8 * s8 s 0),show (14:Nat)=2+(4+(4+4)) from rfl,tk_split s 2,tk_split (s.drop 2) 4,tk_split ((s.drop 2).drop 4) 4]
  simp only [List.drop_drop,List.append_assoc]
 rw [e]
 exact List.take_append_drop _ s
theorem phs_forth:∀ (n:Nat) (s:List UInt8) (l:List Phs) (t:List UInt8),phsR n s=some (l,t)→s=phsB l ++ t
 | 0,s,l,t,h=>by
   rw [phsR] at h
   injection h with h
   injection h with ha hb
   subst ha hb
   rfl
 | n+1,s,l,t,h=>by
   rw [phsR] at h
   split at h
   ·rename_i c
    split at h
    ·rename_i l' t' hr
     injection h with h
     injection h with ha hb
     subst ha hb
     rw [phsB_cons,List.append_assoc,← phs_forth n _ _ _ hr]
     exact (ph_forth c).symm
    ·cases h
   ·cases h
theorem cut6 {s:List UInt8} (h:6≤s.length):s.take 6=[s.getD 0 0,s.getD 1 0,s.getD 2 0,s.getD 3 0,s.getD 4 0,s.getD 5 0]:=by
 match s,h with
 | a::b::c::d::e::f::t,_=>rfl
theorem getD_drop (s:List UInt8) (a i:Nat):(s.drop a).getD i 0=s.getD (a+i) 0:=by
 rw [List.getD_eq_getElem?_getD,List.getD_eq_getElem?_getD,List.getElem?_drop]
theorem print_read {s:List UInt8} (h:(readF s).2=0):wrongX (readF s).1=0∧printF (readF s).1=s:=by
 unfold readF at h ⊢
 split at h
 ·exact absurd h (show (3:Int) ≠ 0 by decide)
 rename_i hp
 rw [if_neg hp]
 split at h
 ·exact absurd h (show (5:Int) ≠ 0 by decide)
 rename_i h22
 rw [if_neg h22]
 cases hr:phsR (s8 s 4) (s.drop 22) with
 | none=>rw [hr] at h; exact absurd h (show (5:Int) ≠ 0 by decide)
 | some x =>
   obtain ⟨l,t⟩:=x
   rw [hr] at h
   have h:(tailF s l t).2=0:=h
   show wrongX (tailF s l t).1=0∧printF (tailF s l t).1=s
   unfold tailF at h ⊢
   split at h
   ·exact absurd h (show (5:Int) ≠ 0 by decide)
   rename_i g1
   rw [if_neg g1]
   split at h
   ·exact absurd h (show (3:Int) ≠ 0 by decide)
   rename_i g2
   rw [if_neg g2]
   split at h
   ·exact absurd h (show (4:Int) ≠ 0 by decide)
   rename_i g3
   rw [if_neg g3]
   split at h
   rotate_left
   ·exact absurd h (show (3:Int) ≠ 0 by decide)
   rename_i g4
   rw [if_pos g4]
   refine ⟨g4,?_⟩
   obtain ⟨k1,-,-⟩:=phsR_len _ _ _ _ hr
   have e22:=phs_forth _ _ _ _ hr
   have ht:t.length=4:=by omega
   have hp4:s.take 4=[65,70,84,85]:=by
    have hp:pre4 s=true:=by cases hq:pre4 s <;> simp_all
    unfold pre4 at hp
    rw [beq_iff_eq] at hp
    rw [hp,List.take_of_length_le (by show 4≤s.length; omega)]
   have eh:headB (ofR s l)=s.take 22:=by
    unfold headB ofR
    simp only [k1]
    rw [by8_s8,by8_s8,by8_s8,by8_s8,by8_s8,by8_s8,be4_tk (s:=s.drop 10) (by rw [List.length_drop]; omega),be4_tk (s:=s.drop 14) (by rw [List.length_drop]; omega),be4_tk (s:=s.drop 18) (by rw [List.length_drop]; omega),← hp4]
    have c6:=cut6 (s:=s.drop 4) (by rw [List.length_drop]; omega)
    simp only [getD_drop] at c6
    rw [← c6,show (22:Nat)=4+(6+(4+(4+4))) from rfl,tk_split s 4,tk_split (s.drop 4) 6,tk_split ((s.drop 4).drop 6) 4,tk_split (((s.drop 4).drop 6).drop 4) 4]
    simp only [List.drop_drop,List.append_assoc]
   have eb:bodyB (ofR s l) ++ t=s:=by
    unfold bodyB
    rw [eh]
    show s.take 22 ++ phsB l ++ t=s
    rw [List.append_assoc,← e22]
    exact List.take_append_drop 22 s
   have hB:∀ B:List UInt8,B ++ t=s→s.take (s.length - 4)=B:=fun B hB=>by
    rw [← hB,List.length_append,ht,Nat.add_sub_cancel]
    exact List.take_left' rfl
   have etk:=hB _ eb
   have g3:w32 (crcF (s.take (s.length - 4)))=num4 t:=Decidable.not_not.mp g3
   rw [etk] at g3
   unfold printF
   rw [if_pos g4]
   unfold sealF
   rw [g3,be4_num4 ht,eb]
end Go.Proofs.Ytbmedgpiphibaaa.AE

namespace Go.Proofs.Ytbmedgpiphibaaa.AE
set_option linter.unusedVariables false
set_option linter.unusedSimpArgs false
set_option linter.constructorNameAsVariable false
open Go
set_option maxRecDepth 100000
set_option maxHeartbeats 0
theorem r4 (C:Cb) (d:Nat) (a0:List UInt8):xcall C M unr d 4 [(.str a0)] =
 C.bool (pcall M d 8 []) fun b0 =>
 cnd (!b0)
 (C.bool (pcall M d 8 []) fun b1 =>
 some (.bool b1))
 (cnd (decide ((((List.length a0):Nat):Int) > 3000))
 (C.bool (pcall M d 8 []) fun b2 =>
 some (.bool b2))
 (C.tup 2 (pcall M d 13 [(.str a0)]) fun l3 =>
 C.agg 9 l3[0]? fun l4 =>
 C.lst l4[0]? (fun l5 =>
 C.int .i64 l4[1]? fun x7 =>
 C.int .i64 l4[2]? fun x8 =>
 C.int .i64 l4[3]? fun x9 =>
 C.int .i64 l4[4]? fun x10 =>
 C.int .i64 l4[5]? fun x11 =>
 C.int .i64 l4[6]? fun x12 =>
 C.int .i64 l4[7]? fun x13 =>
 C.int .i64 l4[8]? fun x14 =>
 C.int .i64 l3[1]? fun x15 =>
 C.tup 2 (pcall M d 16 [(.str a0)]) fun l16 =>
 C.agg 9 l16[0]? fun l17 =>
 C.lst l17[0]? (fun l18 =>
 C.int .i64 l17[1]? fun x20 =>
 C.int .i64 l17[2]? fun x21 =>
 C.int .i64 l17[3]? fun x22 =>
 C.int .i64 l17[4]? fun x23 =>
 C.int .i64 l17[5]? fun x24 =>
 C.int .i64 l17[6]? fun x25 =>
 C.int .i64 l17[7]? fun x26 =>
 C.int .i64 l17[8]? fun x27 =>
 C.int .i64 l16[1]? fun x28 =>
 cnd (x15 != x28)
 (some bf)
 (C.bool (pcall M d 15 [(.agg [(.lst l5),(iz x7),(iz x8),(iz x9),(iz x10),(iz x11),(iz x12),(iz x13),(iz x14)]),(.agg [(.lst l18),(iz x20),(iz x21),(iz x22),(iz x23),(iz x24),(iz x25),(iz x26),(iz x27)])]) fun b29 =>
 cnd (!b29)
 (some bf)
 (C.tup 2 (pcall M d 10 [(.agg [(.lst l5),(iz x7),(iz x8),(iz x9),(iz x10),(iz x11),(iz x12),(iz x13),(iz x14)])]) fun l30 =>
 C.str l30[0]? fun s31 =>
 C.int .i64 l30[1]? fun x32 =>
 cnd (x28 != 0)
 (some bt)
 (cnd (x32 == 0)
 (some (.bool (s31 == a0)))
 (some bf)))))
 (fun z19 =>
 none))
 (fun z6 =>
 none))):=by kernel_rfl
end Go.Proofs.Ytbmedgpiphibaaa.AE

namespace Go.Proofs.Ytbmedgpiphibaaa.AE
set_option linter.unusedVariables false
set_option linter.unusedSimpArgs false
set_option linter.constructorNameAsVariable false
open Go Go.Proofs.Ytbmedgpiphibaaa.Geo
attribute [local irreducible] pcall C0
set_option maxRecDepth 100000
theorem read_bd (s:List UInt8):(readF s).1.phs.length≤255∧∀ p ∈ (readF s).1.phs,p.ps.length≤255:=by
 have z:zRul.phs.length≤255∧∀ p ∈ zRul.phs,p.ps.length≤255:=⟨by decide,fun p hp=>nomatch hp⟩
 unfold readF
 split
 ·exact z
 split
 ·exact z
 cases hr:phsR (s8 s 4) (s.drop 22) with
 | none=>exact z
 | some x =>
   obtain ⟨l,t⟩:=x
   obtain ⟨h1,h2,-⟩:=phsR_len _ _ _ _ hr
   have:=s8_lt s 4
   show (tailF s l t).1.phs.length≤255∧∀ p ∈ (tailF s l t).1.phs,p.ps.length≤255
   unfold tailF
   split
   ·exact z
   split
   ·exact z
   split
   ·exact z
   split
   ·exact ⟨by show l.length≤255; omega,h2⟩
   ·exact z
theorem reads_law (s:List UInt8):pcall M 41 4 [.str s]=some (.bool true):=told (r4 C0 40 s) (by
 refine Eq.trans (pl_bool awake14) ?_
 repeat with_reducible first | refine tt sh_ptr ?_ | refine tt sh_fptr ?_ | refine tt w2 ?_ | refine tt w3 ?_ | refine tt w8 ?_ | refine tt w9 ?_ | refine tt wf ?_ | refine tt wg ?_ | refine tt wh ?_ | refine tt wi ?_ | refine tt wj ?_ | refine tt wk ?_ | refine tt wl ?_ | refine tt wn ?_ | refine tt c_ort ?_ | refine tt c_nt ?_ | refine tt c_nf ?_ | refine tt (cnd_t _ _) ?_ | refine tt (cnd_f _ _) ?_ | refine tt w6 ?_ | refine tt w4 ?_ | refine tt w5 ?_ | refine tt w7 ?_ | refine tt wm ?_ | refine tt wo ?_ | refine tt wx ?_ | refine tt nil_ptr ?_ | refine tt len_lst ?_ | refine tt len_zsl ?_
 by_cases h:s.length > 3000
 ·rw [decide_eq_true (by omega),cnd_t]
  exact pl_bool awake14
 rw [decide_eq_false (by omega),cnd_f]
 obtain ⟨b1,b2⟩:=read_bd s
 have b3:∀ p ∈ (readF s).1.phs,p.ps.length≤140737488355328:=fun p hp=>by have:=b2 p hp; omega
 refine Eq.trans (pl_tup (s13 21 s (by omega)) rfl) ?_
 repeat with_reducible first | refine tt sh_ptr ?_ | refine tt sh_fptr ?_ | refine tt w2 ?_ | refine tt w3 ?_ | refine tt w8 ?_ | refine tt w9 ?_ | refine tt wf ?_ | refine tt wg ?_ | refine tt wh ?_ | refine tt wi ?_ | refine tt wj ?_ | refine tt wk ?_ | refine tt wl ?_ | refine tt wn ?_ | refine tt c_ort ?_ | refine tt c_nt ?_ | refine tt c_nf ?_ | refine tt (cnd_t _ _) ?_ | refine tt (cnd_f _ _) ?_ | refine tt w6 ?_ | refine tt w4 ?_ | refine tt w5 ?_ | refine tt w7 ?_ | refine tt wm ?_ | refine tt wo ?_ | refine tt wx ?_ | refine tt nil_ptr ?_ | refine tt len_lst ?_ | refine tt len_zsl ?_
 refine Eq.trans (pl_tup (s16 28 s (by omega)) rfl) ?_
 repeat with_reducible first | refine tt sh_ptr ?_ | refine tt sh_fptr ?_ | refine tt w2 ?_ | refine tt w3 ?_ | refine tt w8 ?_ | refine tt w9 ?_ | refine tt wf ?_ | refine tt wg ?_ | refine tt wh ?_ | refine tt wi ?_ | refine tt wj ?_ | refine tt wk ?_ | refine tt wl ?_ | refine tt wn ?_ | refine tt c_ort ?_ | refine tt c_nt ?_ | refine tt c_nf ?_ | refine tt (cnd_t _ _) ?_ | refine tt (cnd_f _ _) ?_ | refine tt w6 ?_ | refine tt w4 ?_ | refine tt w5 ?_ | refine tt w7 ?_ | refine tt wm ?_ | refine tt wo ?_ | refine tt wx ?_ | refine tt nil_ptr ?_ | refine tt len_lst ?_ | refine tt len_zsl ?_
 refine Eq.trans (pl_f (by simp)) ?_
 refine Eq.trans (pl_bool (s15 37 (readF s).1 (readF s).1 (by omega) (by omega) b3 b3)) ?_
 rw [sameX_r]
 repeat with_reducible first | refine tt sh_ptr ?_ | refine tt sh_fptr ?_ | refine tt w2 ?_ | refine tt w3 ?_ | refine tt w8 ?_ | refine tt w9 ?_ | refine tt wf ?_ | refine tt wg ?_ | refine tt wh ?_ | refine tt wi ?_ | refine tt wj ?_ | refine tt wk ?_ | refine tt wl ?_ | refine tt wn ?_ | refine tt c_ort ?_ | refine tt c_nt ?_ | refine tt c_nf ?_ | refine tt (cnd_t _ _) ?_ | refine tt (cnd_f _ _) ?_ | refine tt w6 ?_ | refine tt w4 ?_ | refine tt w5 ?_ | refine tt w7 ?_ | refine tt wm ?_ | refine tt wo ?_ | refine tt wx ?_ | refine tt nil_ptr ?_ | refine tt len_lst ?_ | refine tt len_zsl ?_
 refine Eq.trans (pl_tup (s10 21 (readF s).1 (by omega) b3) rfl) ?_
 repeat with_reducible first | refine tt sh_ptr ?_ | refine tt sh_fptr ?_ | refine tt w2 ?_ | refine tt w3 ?_ | refine tt w8 ?_ | refine tt w9 ?_ | refine tt wf ?_ | refine tt wg ?_ | refine tt wh ?_ | refine tt wi ?_ | refine tt wj ?_ | refine tt wk ?_ | refine tt wl ?_ | refine tt wn ?_ | refine tt c_ort ?_ | refine tt c_nt ?_ | refine tt c_nf ?_ | refine tt (cnd_t _ _) ?_ | refine tt (cnd_f _ _) ?_ | refine tt w6 ?_ | refine tt w4 ?_ | refine tt w5 ?_ | refine tt w7 ?_ | refine tt wm ?_ | refine tt wo ?_ | refine tt wx ?_ | refine tt nil_ptr ?_ | refine tt len_lst ?_ | refine tt len_zsl ?_
 by_cases h0:(readF s).2=0
 ·obtain ⟨hw,hp⟩:=print_read h0
  refine Eq.trans (pl_f (by rw [h0]; rfl)) ?_
  refine Eq.trans (pl_len (by rw [if_pos hw]; rfl)) ?_
  rw [hp,beq_self_eq_true]
 ·refine Eq.trans (pl_len (bne_iff_ne.mpr h0)) ?_
  rfl)
theorem law_RulefileReads (a0:List UInt8) (w0:a0.length≤maxLen) :
 pcall M 41 4 [.str a0]=some (.bool true):=reads_law a0
end Go.Proofs.Ytbmedgpiphibaaa.AE
