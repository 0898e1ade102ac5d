/-
  X: facts about the types of this seat's program. Written by wip/tools/types.py.
-/
import Derived.Test.YtpabfpccpbakfaaGreatDoorXW
import Derived.Test.YtpabfpccpbakfaaGreatDoorProg
namespace Go.Proofs.YtpabfpccpbakfaaGreatDoor.X
open Go.RowKit
theorem hm:Tryz.prog.follows .mixedOrders=true:=by kernel_rfl
@[simp] theorem szT_3:szT Tryz.prog 3=some 1:=by kernel_rfl
@[simp] theorem aggT_3:aggT Tryz.prog 3=some false:=by kernel_rfl
@[simp] theorem zeroAV_3:Au Tryz.prog 3=some (AV.int IntKind.i64 (0)):=by kernel_rfl
@[simp] theorem intT_3:intT Tryz.prog 3=some IntKind.i64:=by kernel_rfl
@[simp] theorem szT_4:szT Tryz.prog 4=some 1:=by kernel_rfl
@[simp] theorem byT_4:byT Tryz.prog 4=some 1:=by kernel_rfl
@[simp] theorem aggT_4:aggT Tryz.prog 4=some false:=by kernel_rfl
@[simp] theorem zeroAV_4:Au Tryz.prog 4=some (AV.bool false):=by kernel_rfl
@[simp] theorem szT_5:szT Tryz.prog 5=some 1:=by kernel_rfl
@[simp] theorem byT_5:byT Tryz.prog 5=some 1:=by kernel_rfl
@[simp] theorem aggT_5:aggT Tryz.prog 5=some false:=by kernel_rfl
@[simp] theorem zeroAV_5:Au Tryz.prog 5=some (AV.int IntKind.u8 (0)):=by kernel_rfl
@[simp] theorem intT_5:intT Tryz.prog 5=some IntKind.u8:=by kernel_rfl
@[simp] theorem szT_9:szT Tryz.prog 9=some 1:=by kernel_rfl
@[simp] theorem byT_9:byT Tryz.prog 9=some 16:=by kernel_rfl
@[simp] theorem aggT_9:aggT Tryz.prog 9=some false:=by kernel_rfl
@[simp] theorem zeroAV_9:Au Tryz.prog 9=some (AV.str ⟨#[]⟩):=by kernel_rfl
@[simp] theorem strT_9:strT Tryz.prog 9=true:=by kernel_rfl
@[simp] theorem szT_23:szT Tryz.prog 23=some 5:=by kernel_rfl
@[simp] theorem aggT_23:aggT Tryz.prog 23=some true:=by kernel_rfl
@[simp] theorem fldT_23_0:fldT Tryz.prog 23 0=some (0,3):=by kernel_rfl
@[simp] theorem fldT_23_1:fldT Tryz.prog 23 1=some (1,3):=by kernel_rfl
@[simp] theorem fldT_23_2:fldT Tryz.prog 23 2=some (2,3):=by kernel_rfl
@[simp] theorem fldT_23_3:fldT Tryz.prog 23 3=some (3,3):=by kernel_rfl
@[simp] theorem fldT_23_4:fldT Tryz.prog 23 4=some (4,3):=by kernel_rfl
@[simp] theorem szT_24:szT Tryz.prog 24=some 1:=by kernel_rfl
@[simp] theorem aggT_24:aggT Tryz.prog 24=some false:=by kernel_rfl
@[simp] theorem zeroAV_24:Au Tryz.prog 24=some AV.nilSl:=by kernel_rfl
@[simp] theorem elT_24:elT Tryz.prog 24=some 9:=by kernel_rfl
@[simp] theorem szT_25:szT Tryz.prog 25=some 1:=by kernel_rfl
@[simp] theorem aggT_25:aggT Tryz.prog 25=some false:=by kernel_rfl
@[simp] theorem szT_26:szT Tryz.prog 26=some 1:=by kernel_rfl
@[simp] theorem aggT_26:aggT Tryz.prog 26=some false:=by kernel_rfl
@[simp] theorem zeroAV_26:Au Tryz.prog 26=some AV.nilSl:=by kernel_rfl
@[simp] theorem elT_26:elT Tryz.prog 26=some 3:=by kernel_rfl
@[simp] theorem szT_27:szT Tryz.prog 27=some 1:=by kernel_rfl
@[simp] theorem aggT_27:aggT Tryz.prog 27=some false:=by kernel_rfl
@[simp] theorem zeroAV_27:Au Tryz.prog 27=some AV.nilSl:=by kernel_rfl
@[simp] theorem elT_27:elT Tryz.prog 27=some 4:=by kernel_rfl
@[simp] theorem szT_29:szT Tryz.prog 29=some 3:=by kernel_rfl
@[simp] theorem fldT_29_0:fldT Tryz.prog 29 0=some (0,3):=by kernel_rfl
@[simp] theorem fldT_29_1:fldT Tryz.prog 29 1=some (1,26):=by kernel_rfl
@[simp] theorem fldT_29_2:fldT Tryz.prog 29 2=some (2,27):=by kernel_rfl
@[simp] theorem fldT_31_0:fldT Tryz.prog 31 0=some (0,23):=by kernel_rfl
@[simp] theorem fldT_31_1:fldT Tryz.prog 31 1=some (5,24):=by kernel_rfl
@[simp] theorem fldT_31_2:fldT Tryz.prog 31 2=some (6,25):=by kernel_rfl
@[simp] theorem fldT_31_3:fldT Tryz.prog 31 3=some (7,29):=by kernel_rfl
@[simp] theorem szT_34:szT Tryz.prog 34=some 1:=by kernel_rfl
@[simp] theorem aggT_34:aggT Tryz.prog 34=some false:=by kernel_rfl
@[simp] theorem szT_35:szT Tryz.prog 35=some 1:=by kernel_rfl
@[simp] theorem aggT_35:aggT Tryz.prog 35=some false:=by kernel_rfl
@[simp] theorem szT_41:szT Tryz.prog 41=some 1:=by kernel_rfl
@[simp] theorem aggT_41:aggT Tryz.prog 41=some false:=by kernel_rfl
@[simp] theorem zeroAV_41:Au Tryz.prog 41=some (AV.int IntKind.i64 (0)):=by kernel_rfl
@[simp] theorem fldT_44_0:fldT Tryz.prog 44 0=some (0,3):=by kernel_rfl
@[simp] theorem fldT_44_1:fldT Tryz.prog 44 1=some (1,3):=by kernel_rfl
@[simp] theorem fldT_44_2:fldT Tryz.prog 44 2=some (2,3):=by kernel_rfl
@[simp] theorem fldT_44_3:fldT Tryz.prog 44 3=some (3,4):=by kernel_rfl
@[simp] theorem szT_54:szT Tryz.prog 54=some 2:=by kernel_rfl
@[simp] theorem fldT_54_0:fldT Tryz.prog 54 0=some (0,26):=by kernel_rfl
@[simp] theorem fldT_54_1:fldT Tryz.prog 54 1=some (1,27):=by kernel_rfl
@[simp] theorem fldT_56_0:fldT Tryz.prog 56 0=some (0,23):=by kernel_rfl
@[simp] theorem fldT_56_1:fldT Tryz.prog 56 1=some (5,24):=by kernel_rfl
@[simp] theorem fldT_56_2:fldT Tryz.prog 56 2=some (6,3):=by kernel_rfl
@[simp] theorem fldT_56_3:fldT Tryz.prog 56 3=some (7,54):=by kernel_rfl
@[simp] theorem fldT_72_0:fldT Tryz.prog 72 0=some (0,3):=by kernel_rfl
@[simp] theorem fldT_72_1:fldT Tryz.prog 72 1=some (1,3):=by kernel_rfl
@[simp] theorem fldT_72_2:fldT Tryz.prog 72 2=some (2,9):=by kernel_rfl
@[simp] theorem fldT_72_3:fldT Tryz.prog 72 3=some (3,4):=by kernel_rfl
@[simp] theorem aggT_74:aggT Tryz.prog 74=some true:=by kernel_rfl
@[simp] theorem zeroAV_74:Au Tryz.prog 74=some (AV.agg [AV.int IntKind.i64 (0),AV.int IntKind.i64 (0),AV.int IntKind.i64 (0),AV.int IntKind.i64 (0),AV.str ⟨#[]⟩]):=by kernel_rfl
@[simp] theorem fldT_74_0:fldT Tryz.prog 74 0=some (0,3):=by kernel_rfl
@[simp] theorem fldT_74_1:fldT Tryz.prog 74 1=some (1,3):=by kernel_rfl
@[simp] theorem fldT_74_2:fldT Tryz.prog 74 2=some (2,3):=by kernel_rfl
@[simp] theorem fldT_74_3:fldT Tryz.prog 74 3=some (3,3):=by kernel_rfl
@[simp] theorem fldT_74_4:fldT Tryz.prog 74 4=some (4,9):=by kernel_rfl
@[simp] theorem szT_78:szT Tryz.prog 78=some 1:=by kernel_rfl
@[simp] theorem aggT_78:aggT Tryz.prog 78=some false:=by kernel_rfl
@[simp] theorem elT_78:elT Tryz.prog 78=some 85:=by kernel_rfl
@[simp] theorem fldT_80_0:fldT Tryz.prog 80 0=some (0,78):=by kernel_rfl
@[simp] theorem fldT_80_1:fldT Tryz.prog 80 1=some (1,3):=by kernel_rfl
@[simp] theorem fldT_80_2:fldT Tryz.prog 80 2=some (2,4):=by kernel_rfl
@[simp] theorem szT_85:szT Tryz.prog 85=some 1:=by kernel_rfl
@[simp] theorem aggT_85:aggT Tryz.prog 85=some false:=by kernel_rfl
@[simp] theorem fldT_88_0:fldT Tryz.prog 88 0=some (0,34):=by kernel_rfl
@[simp] theorem fldT_88_1:fldT Tryz.prog 88 1=some (1,23):=by kernel_rfl
@[simp] theorem fldT_88_2:fldT Tryz.prog 88 2=some (6,3):=by kernel_rfl
@[simp] theorem fldT_88_3:fldT Tryz.prog 88 3=some (7,3):=by kernel_rfl
@[simp] theorem szT_90:szT Tryz.prog 90=some 1:=by kernel_rfl
@[simp] theorem aggT_90:aggT Tryz.prog 90=some false:=by kernel_rfl
@[simp] theorem fldT_95_0:fldT Tryz.prog 95 0=some (0,24):=by kernel_rfl
@[simp] theorem fldT_95_1:fldT Tryz.prog 95 1=some (1,26):=by kernel_rfl
@[simp] theorem zeroAV_98:Au Tryz.prog 98=some (AV.agg [AV.int IntKind.i64 (0),AV.int IntKind.i64 (0),AV.str ⟨#[]⟩]):=by kernel_rfl
@[simp] theorem fldT_98_0:fldT Tryz.prog 98 0=some (0,3):=by kernel_rfl
@[simp] theorem fldT_98_1:fldT Tryz.prog 98 1=some (1,3):=by kernel_rfl
@[simp] theorem fldT_98_2:fldT Tryz.prog 98 2=some (2,9):=by kernel_rfl
@[simp] theorem fldT_104_0:fldT Tryz.prog 104 0=some (0,35):=by kernel_rfl
@[simp] theorem fldT_104_1:fldT Tryz.prog 104 1=some (1,3):=by kernel_rfl
@[simp] theorem szT_120:szT Tryz.prog 120=some 1:=by kernel_rfl
@[simp] theorem aggT_120:aggT Tryz.prog 120=some false:=by kernel_rfl
@[simp] theorem intT_120:intT Tryz.prog 120=some IntKind.u32:=by kernel_rfl
@[simp] theorem aggT_123:aggT Tryz.prog 123=some true:=by kernel_rfl
@[simp] theorem zeroAV_123:Au Tryz.prog 123=some (AV.agg [AV.int IntKind.i64 (0),AV.int IntKind.i64 (0),AV.int IntKind.i64 (0),AV.int IntKind.i64 (0),AV.str ⟨#[]⟩]):=by kernel_rfl
@[simp] theorem fldT_123_0:fldT Tryz.prog 123 0=some (0,3):=by kernel_rfl
@[simp] theorem fldT_123_1:fldT Tryz.prog 123 1=some (1,3):=by kernel_rfl
@[simp] theorem fldT_123_2:fldT Tryz.prog 123 2=some (2,3):=by kernel_rfl
@[simp] theorem fldT_123_3:fldT Tryz.prog 123 3=some (3,3):=by kernel_rfl
@[simp] theorem fldT_123_4:fldT Tryz.prog 123 4=some (4,9):=by kernel_rfl
@[simp] theorem szT_131:szT Tryz.prog 131=some 1:=by kernel_rfl
@[simp] theorem aggT_131:aggT Tryz.prog 131=some false:=by kernel_rfl
@[simp] theorem elT_131:elT Tryz.prog 131=some 135:=by kernel_rfl
@[simp] theorem fldT_133_0:fldT Tryz.prog 133 0=some (0,24):=by kernel_rfl
@[simp] theorem fldT_133_1:fldT Tryz.prog 133 1=some (1,3):=by kernel_rfl
@[simp] theorem fldT_133_2:fldT Tryz.prog 133 2=some (2,131):=by kernel_rfl
@[simp] theorem fldT_133_3:fldT Tryz.prog 133 3=some (3,4):=by kernel_rfl
@[simp] theorem szT_135:szT Tryz.prog 135=some 1:=by kernel_rfl
@[simp] theorem aggT_135:aggT Tryz.prog 135=some false:=by kernel_rfl
@[simp] theorem zeroAV_135:Au Tryz.prog 135=some AV.nilIf:=by kernel_rfl
@[simp] theorem szT_164:szT Tryz.prog 164=some 1:=by kernel_rfl
@[simp] theorem aggT_164:aggT Tryz.prog 164=some false:=by kernel_rfl
@[simp] theorem elT_165:elT Tryz.prog 165=some 164:=by kernel_rfl
@[simp] theorem szT_169:szT Tryz.prog 169=some 1:=by kernel_rfl
@[simp] theorem aggT_169:aggT Tryz.prog 169=some false:=by kernel_rfl
@[simp] theorem szT_175:szT Tryz.prog 175=some 1:=by kernel_rfl
@[simp] theorem byT_175:byT Tryz.prog 175=some 24:=by kernel_rfl
@[simp] theorem aggT_175:aggT Tryz.prog 175=some false:=by kernel_rfl
@[simp] theorem zeroAV_175:Au Tryz.prog 175=some AV.nilSl:=by kernel_rfl
@[simp] theorem elT_175:elT Tryz.prog 175=some 5:=by kernel_rfl
@[simp] theorem zeroAV_183:Au Tryz.prog 183=some (AV.agg [AV.nilPtr,AV.nilSl]):=by kernel_rfl
@[simp] theorem elT_189:elT Tryz.prog 189=some 192:=by kernel_rfl
@[simp] theorem fldT_192_0:fldT Tryz.prog 192 0=some (0,164):=by kernel_rfl
@[simp] theorem fldT_192_1:fldT Tryz.prog 192 1=some (1,3):=by kernel_rfl
@[simp] theorem szT_197:szT Tryz.prog 197=some 2:=by kernel_rfl
@[simp] theorem zeroAV_197:Au Tryz.prog 197=some (AV.agg [AV.int IntKind.i64 (0),AV.str ⟨#[]⟩]):=by kernel_rfl
@[simp] theorem fldT_197_0:fldT Tryz.prog 197 0=some (0,3):=by kernel_rfl
@[simp] theorem fldT_197_1:fldT Tryz.prog 197 1=some (1,9):=by kernel_rfl
@[simp] theorem intT_215:intT Tryz.prog 215=some IntKind.u64:=by kernel_rfl
@[simp] theorem intT_245:intT Tryz.prog 245=some IntKind.u64:=by kernel_rfl
@[simp] theorem aggT_251:aggT Tryz.prog 251=some true:=by kernel_rfl
@[simp] theorem zeroAV_251:Au Tryz.prog 251=some (AV.agg [AV.int IntKind.u32 (0),AV.int IntKind.u32 (0),AV.int IntKind.u32 (0),AV.int IntKind.u32 (0),AV.int IntKind.u32 (0),AV.int IntKind.u32 (0),AV.int IntKind.u32 (0),AV.int IntKind.u32 (0),AV.int IntKind.u32 (0),AV.int IntKind.u32 (0),AV.int IntKind.u32 (0),AV.int IntKind.u32 (0),AV.int IntKind.u32 (0),AV.int IntKind.u32 (0),AV.int IntKind.u32 (0),AV.int IntKind.u32 (0)]):=by kernel_rfl
@[simp] theorem elT_270:elT Tryz.prog 270=some 175:=by kernel_rfl
@[simp] theorem szT_283:szT Tryz.prog 283=some 510:=by kernel_rfl
@[simp] theorem szT_284:szT Tryz.prog 284=some 256:=by kernel_rfl
@[simp] theorem aggT_286:aggT Tryz.prog 286=some true:=by kernel_rfl
@[simp] theorem fldT_286_0:fldT Tryz.prog 286 0=some (0,283):=by kernel_rfl
@[simp] theorem fldT_286_1:fldT Tryz.prog 286 1=some (510,284):=by kernel_rfl
@[simp] theorem concT_197:T5 Tryz.prog 197=true:=by kernel_rfl
attribute [simp] Tryz.underlying0 Tryz.underlying1 Tryz.underlying2 Tryz.underlying3 Tryz.underlying4 Tryz.underlying5 Tryz.underlying6 Tryz.underlying7 Tryz.underlying8 Tryz.underlying9 Tryz.underlying10 Tryz.underlying11 Tryz.underlying12 Tryz.underlying13 Tryz.underlying14 Tryz.underlying15 Tryz.underlying16 Tryz.underlying17 Tryz.underlying18 Tryz.underlying19 Tryz.underlying20 Tryz.underlying21 Tryz.underlying22 Tryz.underlying23 Tryz.underlying24 Tryz.underlying25 Tryz.underlying26 Tryz.underlying27 Tryz.underlying28 Tryz.underlying29 Tryz.underlying30 Tryz.underlying31 Tryz.underlying32 Tryz.underlying33 Tryz.underlying34 Tryz.underlying35 Tryz.underlying36 Tryz.underlying37 Tryz.underlying38 Tryz.underlying39 Tryz.underlying40 Tryz.underlying41 Tryz.underlying42 Tryz.underlying43 Tryz.underlying44 Tryz.underlying45 Tryz.underlying46 Tryz.underlying47 Tryz.underlying48 Tryz.underlying49 Tryz.underlying50 Tryz.underlying51 Tryz.underlying52 Tryz.underlying53 Tryz.underlying54 Tryz.underlying55 Tryz.underlying56 Tryz.underlying57 Tryz.underlying58 Tryz.underlying59 Tryz.underlying60 Tryz.underlying61 Tryz.underlying62 Tryz.underlying63 Tryz.underlying64 Tryz.underlying65 Tryz.underlying66 Tryz.underlying67 Tryz.underlying68 Tryz.underlying69 Tryz.underlying70 Tryz.underlying71 Tryz.underlying72 Tryz.underlying73 Tryz.underlying74 Tryz.underlying75 Tryz.underlying76 Tryz.underlying77 Tryz.underlying78 Tryz.underlying79 Tryz.underlying80 Tryz.underlying81 Tryz.underlying82 Tryz.underlying83 Tryz.underlying84 Tryz.underlying85 Tryz.underlying86 Tryz.underlying87 Tryz.underlying88 Tryz.underlying89 Tryz.underlying90 Tryz.underlying91 Tryz.underlying92 Tryz.underlying93 Tryz.underlying94 Tryz.underlying95 Tryz.underlying96 Tryz.underlying97 Tryz.underlying98 Tryz.underlying99 Tryz.underlying100 Tryz.underlying101 Tryz.underlying102 Tryz.underlying103 Tryz.underlying104 Tryz.underlying105 Tryz.underlying106 Tryz.underlying107 Tryz.underlying108 Tryz.underlying109 Tryz.underlying110 Tryz.underlying111 Tryz.underlying112 Tryz.underlying113 Tryz.underlying114 Tryz.underlying115 Tryz.underlying116 Tryz.underlying117 Tryz.underlying118 Tryz.underlying119 Tryz.underlying120 Tryz.underlying121 Tryz.underlying122 Tryz.underlying123 Tryz.underlying124 Tryz.underlying125 Tryz.underlying126 Tryz.underlying127 Tryz.underlying128 Tryz.underlying129 Tryz.underlying130 Tryz.underlying131 Tryz.underlying132 Tryz.underlying133 Tryz.underlying134 Tryz.underlying135 Tryz.underlying136 Tryz.underlying137 Tryz.underlying138 Tryz.underlying139 Tryz.underlying140 Tryz.underlying141 Tryz.underlying142 Tryz.underlying143 Tryz.underlying144 Tryz.underlying145 Tryz.underlying146 Tryz.underlying147 Tryz.underlying148 Tryz.underlying149 Tryz.underlying150 Tryz.underlying151 Tryz.underlying152 Tryz.underlying153 Tryz.underlying154 Tryz.underlying155 Tryz.underlying156 Tryz.underlying157 Tryz.underlying158 Tryz.underlying159 Tryz.underlying160 Tryz.underlying161 Tryz.underlying162 Tryz.underlying163 Tryz.underlying164 Tryz.underlying165 Tryz.underlying166 Tryz.underlying167 Tryz.underlying168 Tryz.underlying169 Tryz.underlying170 Tryz.underlying171 Tryz.underlying172 Tryz.underlying173 Tryz.underlying174 Tryz.underlying175 Tryz.underlying176 Tryz.underlying177 Tryz.underlying178 Tryz.underlying179 Tryz.underlying180 Tryz.underlying181 Tryz.underlying182 Tryz.underlying183 Tryz.underlying184 Tryz.underlying185 Tryz.underlying186 Tryz.underlying187 Tryz.underlying188 Tryz.underlying189 Tryz.underlying190 Tryz.underlying191 Tryz.underlying192 Tryz.underlying193 Tryz.underlying194 Tryz.underlying195 Tryz.underlying196 Tryz.underlying197 Tryz.underlying198 Tryz.underlying199 Tryz.underlying200 Tryz.underlying201 Tryz.underlying202 Tryz.underlying203 Tryz.underlying204 Tryz.underlying205 Tryz.underlying206 Tryz.underlying207 Tryz.underlying208 Tryz.underlying209 Tryz.underlying210 Tryz.underlying211 Tryz.underlying212 Tryz.underlying213 Tryz.underlying214 Tryz.underlying215 Tryz.underlying216 Tryz.underlying217 Tryz.underlying218 Tryz.underlying219 Tryz.underlying220 Tryz.underlying221 Tryz.underlying222 Tryz.underlying223 Tryz.underlying224 Tryz.underlying225 Tryz.underlying226 Tryz.underlying227 Tryz.underlying228 Tryz.underlying229 Tryz.underlying230 Tryz.underlying231 Tryz.underlying232 Tryz.underlying233 Tryz.underlying234 Tryz.underlying235 Tryz.underlying236 Tryz.underlying237 Tryz.underlying238 Tryz.underlying239 Tryz.underlying240 Tryz.underlying241 Tryz.underlying242 Tryz.underlying243 Tryz.underlying244 Tryz.underlying245 Tryz.underlying246 Tryz.underlying247 Tryz.underlying248 Tryz.underlying249 Tryz.underlying250 Tryz.underlying251 Tryz.underlying252 Tryz.underlying253 Tryz.underlying254 Tryz.underlying255 Tryz.underlying256 Tryz.underlying257 Tryz.underlying258 Tryz.underlying259 Tryz.underlying260 Tryz.underlying261 Tryz.underlying262 Tryz.underlying263 Tryz.underlying264 Tryz.underlying265 Tryz.underlying266 Tryz.underlying267 Tryz.underlying268 Tryz.underlying269 Tryz.underlying270 Tryz.underlying271 Tryz.underlying272 Tryz.underlying273 Tryz.underlying274 Tryz.underlying275 Tryz.underlying276 Tryz.underlying277 Tryz.underlying278 Tryz.underlying279 Tryz.underlying280 Tryz.underlying281 Tryz.underlying282 Tryz.underlying283 Tryz.underlying284 Tryz.underlying285 Tryz.underlying286 Tryz.underlying287 Tryz.underlying288 Tryz.underlying289 Tryz.underlying290 Tryz.underlying291 Tryz.underlying292 Tryz.underlying293 Tryz.underlying294 Tryz.underlying295 Tryz.underlying296 Tryz.underlying297 Tryz.underlying298 Tryz.underlying299 Tryz.underlying300 Tryz.underlying301 Tryz.underlying302 Tryz.underlying303 Tryz.underlying304 Tryz.underlying305 Tryz.underlying306 Tryz.underlying307 Tryz.underlying308 Tryz.underlying309 Tryz.underlying310
end Go.Proofs.YtpabfpccpbakfaaGreatDoor.X
