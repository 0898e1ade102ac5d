/-
  X: facts about the types of this seat's program. Written by wip/tools/types.py.
-/
import Derived.Test.YtmbndhciflilbaaGreatDoorXW
import Derived.Test.YtmbndhciflilbaaGreatDoorProg
namespace Go.Proofs.YtmbndhciflilbaaGreatDoor.X
open Go.RowKit
theorem hm:Tryz.prog.follows .mixedOrders=true:=by kernel_rfl
@[simp] theorem szT_3:szT Tryz.prog 3=some 1:=by kernel_rfl
@[simp] theorem aggT_3:aggT Tryz.prog 3=some false:=by kernel_rfl
@[simp] theorem zeroAV_3:B7 Tryz.prog 3=some (AV.int IntKind.i64 (0)):=by kernel_rfl
@[simp] theorem intT_3:intT Tryz.prog 3=some IntKind.i64:=by kernel_rfl
@[simp] theorem szT_4:szT Tryz.prog 4=some 1:=by kernel_rfl
@[simp] theorem byT_4:byT Tryz.prog 4=some 1:=by kernel_rfl
@[simp] theorem aggT_4:aggT Tryz.prog 4=some false:=by kernel_rfl
@[simp] theorem zeroAV_4:B7 Tryz.prog 4=some (AV.bool false):=by kernel_rfl
@[simp] theorem szT_5:szT Tryz.prog 5=some 1:=by kernel_rfl
@[simp] theorem byT_5:byT Tryz.prog 5=some 1:=by kernel_rfl
@[simp] theorem aggT_5:aggT Tryz.prog 5=some false:=by kernel_rfl
@[simp] theorem zeroAV_5:B7 Tryz.prog 5=some (AV.int IntKind.u8 (0)):=by kernel_rfl
@[simp] theorem intT_5:intT Tryz.prog 5=some IntKind.u8:=by kernel_rfl
@[simp] theorem szT_9:szT Tryz.prog 9=some 1:=by kernel_rfl
@[simp] theorem byT_9:byT Tryz.prog 9=some 16:=by kernel_rfl
@[simp] theorem aggT_9:aggT Tryz.prog 9=some false:=by kernel_rfl
@[simp] theorem zeroAV_9:B7 Tryz.prog 9=some (AV.str ⟨#[]⟩):=by kernel_rfl
@[simp] theorem strT_9:strT Tryz.prog 9=true:=by kernel_rfl
@[simp] theorem szT_23:szT Tryz.prog 23=some 5:=by kernel_rfl
@[simp] theorem aggT_23:aggT Tryz.prog 23=some true:=by kernel_rfl
@[simp] theorem fldT_23_0:fldT Tryz.prog 23 0=some (0,3):=by kernel_rfl
@[simp] theorem fldT_23_1:fldT Tryz.prog 23 1=some (1,3):=by kernel_rfl
@[simp] theorem fldT_23_2:fldT Tryz.prog 23 2=some (2,3):=by kernel_rfl
@[simp] theorem fldT_23_3:fldT Tryz.prog 23 3=some (3,3):=by kernel_rfl
@[simp] theorem fldT_23_4:fldT Tryz.prog 23 4=some (4,3):=by kernel_rfl
@[simp] theorem szT_24:szT Tryz.prog 24=some 1:=by kernel_rfl
@[simp] theorem aggT_24:aggT Tryz.prog 24=some false:=by kernel_rfl
@[simp] theorem szT_29:szT Tryz.prog 29=some 1:=by kernel_rfl
@[simp] theorem aggT_29:aggT Tryz.prog 29=some false:=by kernel_rfl
@[simp] theorem szT_30:szT Tryz.prog 30=some 1:=by kernel_rfl
@[simp] theorem aggT_30:aggT Tryz.prog 30=some false:=by kernel_rfl
@[simp] theorem szT_34:szT Tryz.prog 34=some 1:=by kernel_rfl
@[simp] theorem aggT_34:aggT Tryz.prog 34=some false:=by kernel_rfl
@[simp] theorem zeroAV_34:B7 Tryz.prog 34=some (AV.int IntKind.i64 (0)):=by kernel_rfl
@[simp] theorem fldT_40_0:fldT Tryz.prog 40 0=some (0,3):=by kernel_rfl
@[simp] theorem fldT_40_1:fldT Tryz.prog 40 1=some (1,3):=by kernel_rfl
@[simp] theorem fldT_40_2:fldT Tryz.prog 40 2=some (2,9):=by kernel_rfl
@[simp] theorem fldT_45_0:fldT Tryz.prog 45 0=some (0,9):=by kernel_rfl
@[simp] theorem fldT_45_1:fldT Tryz.prog 45 1=some (1,3):=by kernel_rfl
@[simp] theorem szT_51:szT Tryz.prog 51=some 1:=by kernel_rfl
@[simp] theorem aggT_51:aggT Tryz.prog 51=some false:=by kernel_rfl
@[simp] theorem zeroAV_51:B7 Tryz.prog 51=some AV.nilSl:=by kernel_rfl
@[simp] theorem elT_51:elT Tryz.prog 51=some 9:=by kernel_rfl
@[simp] theorem szT_53:szT Tryz.prog 53=some 1:=by kernel_rfl
@[simp] theorem byT_53:byT Tryz.prog 53=some 24:=by kernel_rfl
@[simp] theorem aggT_53:aggT Tryz.prog 53=some false:=by kernel_rfl
@[simp] theorem zeroAV_53:B7 Tryz.prog 53=some AV.nilSl:=by kernel_rfl
@[simp] theorem elT_53:elT Tryz.prog 53=some 5:=by kernel_rfl
@[simp] theorem szT_56:szT Tryz.prog 56=some 1:=by kernel_rfl
@[simp] theorem aggT_56:aggT Tryz.prog 56=some false:=by kernel_rfl
@[simp] theorem elT_56:elT Tryz.prog 56=some 4:=by kernel_rfl
@[simp] theorem fldT_58_0:fldT Tryz.prog 58 0=some (0,23):=by kernel_rfl
@[simp] theorem fldT_58_1:fldT Tryz.prog 58 1=some (5,24):=by kernel_rfl
@[simp] theorem fldT_58_2:fldT Tryz.prog 58 2=some (6,3):=by kernel_rfl
@[simp] theorem fldT_58_3:fldT Tryz.prog 58 3=some (7,56):=by kernel_rfl
@[simp] theorem fldT_71_0:fldT Tryz.prog 71 0=some (0,30):=by kernel_rfl
@[simp] theorem fldT_71_1:fldT Tryz.prog 71 1=some (1,3):=by kernel_rfl
@[simp] theorem fldT_71_2:fldT Tryz.prog 71 2=some (2,3):=by kernel_rfl
@[simp] theorem fldT_71_3:fldT Tryz.prog 71 3=some (3,3):=by kernel_rfl
@[simp] theorem fldT_71_4:fldT Tryz.prog 71 4=some (4,51):=by kernel_rfl
@[simp] theorem szT_74:szT Tryz.prog 74=some 1:=by kernel_rfl
@[simp] theorem aggT_74:aggT Tryz.prog 74=some false:=by kernel_rfl
@[simp] theorem zeroAV_74:B7 Tryz.prog 74=some AV.nilSl:=by kernel_rfl
@[simp] theorem elT_74:elT Tryz.prog 74=some 3:=by kernel_rfl
@[simp] theorem fldT_76_0:fldT Tryz.prog 76 0=some (0,51):=by kernel_rfl
@[simp] theorem fldT_76_1:fldT Tryz.prog 76 1=some (1,74):=by kernel_rfl
@[simp] theorem szT_80:szT Tryz.prog 80=some 1:=by kernel_rfl
@[simp] theorem aggT_80:aggT Tryz.prog 80=some false:=by kernel_rfl
@[simp] theorem elT_80:elT Tryz.prog 80=some 83:=by kernel_rfl
@[simp] theorem fldT_82_0:fldT Tryz.prog 82 0=some (0,80):=by kernel_rfl
@[simp] theorem fldT_82_1:fldT Tryz.prog 82 1=some (1,3):=by kernel_rfl
@[simp] theorem fldT_82_2:fldT Tryz.prog 82 2=some (2,4):=by kernel_rfl
@[simp] theorem szT_83:szT Tryz.prog 83=some 1:=by kernel_rfl
@[simp] theorem aggT_83:aggT Tryz.prog 83=some false:=by kernel_rfl
@[simp] theorem fldT_85_0:fldT Tryz.prog 85 0=some (0,29):=by kernel_rfl
@[simp] theorem fldT_85_1:fldT Tryz.prog 85 1=some (1,23):=by kernel_rfl
@[simp] theorem fldT_85_2:fldT Tryz.prog 85 2=some (6,3):=by kernel_rfl
@[simp] theorem fldT_85_3:fldT Tryz.prog 85 3=some (7,3):=by kernel_rfl
@[simp] theorem szT_87:szT Tryz.prog 87=some 1:=by kernel_rfl
@[simp] theorem aggT_87:aggT Tryz.prog 87=some false:=by kernel_rfl
@[simp] theorem zeroAV_93:B7 Tryz.prog 93=some (AV.agg [AV.int IntKind.i64 (0),AV.int IntKind.i64 (0),AV.str ⟨#[]⟩]):=by kernel_rfl
@[simp] theorem fldT_93_0:fldT Tryz.prog 93 0=some (0,3):=by kernel_rfl
@[simp] theorem fldT_93_1:fldT Tryz.prog 93 1=some (1,3):=by kernel_rfl
@[simp] theorem fldT_93_2:fldT Tryz.prog 93 2=some (2,9):=by kernel_rfl
@[simp] theorem szT_106:szT Tryz.prog 106=some 1:=by kernel_rfl
@[simp] theorem aggT_106:aggT Tryz.prog 106=some false:=by kernel_rfl
@[simp] theorem elT_106:elT Tryz.prog 106=some 110:=by kernel_rfl
@[simp] theorem fldT_108_0:fldT Tryz.prog 108 0=some (0,51):=by kernel_rfl
@[simp] theorem fldT_108_1:fldT Tryz.prog 108 1=some (1,3):=by kernel_rfl
@[simp] theorem fldT_108_2:fldT Tryz.prog 108 2=some (2,106):=by kernel_rfl
@[simp] theorem fldT_108_3:fldT Tryz.prog 108 3=some (3,4):=by kernel_rfl
@[simp] theorem szT_110:szT Tryz.prog 110=some 1:=by kernel_rfl
@[simp] theorem aggT_110:aggT Tryz.prog 110=some false:=by kernel_rfl
@[simp] theorem zeroAV_110:B7 Tryz.prog 110=some AV.nilIf:=by kernel_rfl
@[simp] theorem aggT_113:aggT Tryz.prog 113=some true:=by kernel_rfl
@[simp] theorem zeroAV_113:B7 Tryz.prog 113=some (AV.agg [AV.int IntKind.i64 (0),AV.int IntKind.i64 (0),AV.int IntKind.i64 (0),AV.int IntKind.i64 (0),AV.str ⟨#[]⟩]):=by kernel_rfl
@[simp] theorem fldT_113_0:fldT Tryz.prog 113 0=some (0,3):=by kernel_rfl
@[simp] theorem fldT_113_1:fldT Tryz.prog 113 1=some (1,3):=by kernel_rfl
@[simp] theorem fldT_113_2:fldT Tryz.prog 113 2=some (2,3):=by kernel_rfl
@[simp] theorem fldT_113_3:fldT Tryz.prog 113 3=some (3,3):=by kernel_rfl
@[simp] theorem fldT_113_4:fldT Tryz.prog 113 4=some (4,9):=by kernel_rfl
@[simp] theorem szT_142:szT Tryz.prog 142=some 1:=by kernel_rfl
@[simp] theorem aggT_142:aggT Tryz.prog 142=some false:=by kernel_rfl
@[simp] theorem elT_143:elT Tryz.prog 143=some 142:=by kernel_rfl
@[simp] theorem szT_147:szT Tryz.prog 147=some 1:=by kernel_rfl
@[simp] theorem aggT_147:aggT Tryz.prog 147=some false:=by kernel_rfl
@[simp] theorem zeroAV_160:B7 Tryz.prog 160=some (AV.agg [AV.nilPtr,AV.nilSl]):=by kernel_rfl
@[simp] theorem elT_166:elT Tryz.prog 166=some 169:=by kernel_rfl
@[simp] theorem fldT_169_0:fldT Tryz.prog 169 0=some (0,142):=by kernel_rfl
@[simp] theorem fldT_169_1:fldT Tryz.prog 169 1=some (1,3):=by kernel_rfl
@[simp] theorem szT_171:szT Tryz.prog 171=some 1:=by kernel_rfl
@[simp] theorem aggT_171:aggT Tryz.prog 171=some false:=by kernel_rfl
@[simp] theorem intT_171:intT Tryz.prog 171=some IntKind.u32:=by kernel_rfl
@[simp] theorem szT_194:szT Tryz.prog 194=some 2:=by kernel_rfl
@[simp] theorem zeroAV_194:B7 Tryz.prog 194=some (AV.agg [AV.int IntKind.i64 (0),AV.str ⟨#[]⟩]):=by kernel_rfl
@[simp] theorem fldT_194_0:fldT Tryz.prog 194 0=some (0,3):=by kernel_rfl
@[simp] theorem fldT_194_1:fldT Tryz.prog 194 1=some (1,9):=by kernel_rfl
@[simp] theorem intT_202:intT Tryz.prog 202=some IntKind.u64:=by kernel_rfl
@[simp] theorem intT_231:intT Tryz.prog 231=some IntKind.u64:=by kernel_rfl
@[simp] theorem aggT_237:aggT Tryz.prog 237=some true:=by kernel_rfl
@[simp] theorem zeroAV_237:B7 Tryz.prog 237=some (AV.agg [AV.int IntKind.u32 (0),AV.int IntKind.u32 (0),AV.int IntKind.u32 (0),AV.int IntKind.u32 (0),AV.int IntKind.u32 (0),AV.int IntKind.u32 (0),AV.int IntKind.u32 (0),AV.int IntKind.u32 (0),AV.int IntKind.u32 (0),AV.int IntKind.u32 (0),AV.int IntKind.u32 (0),AV.int IntKind.u32 (0),AV.int IntKind.u32 (0),AV.int IntKind.u32 (0),AV.int IntKind.u32 (0),AV.int IntKind.u32 (0)]):=by kernel_rfl
@[simp] theorem elT_240:elT Tryz.prog 240=some 53:=by kernel_rfl
@[simp] theorem szT_272:szT Tryz.prog 272=some 510:=by kernel_rfl
@[simp] theorem szT_273:szT Tryz.prog 273=some 256:=by kernel_rfl
@[simp] theorem aggT_275:aggT Tryz.prog 275=some true:=by kernel_rfl
@[simp] theorem fldT_275_0:fldT Tryz.prog 275 0=some (0,272):=by kernel_rfl
@[simp] theorem fldT_275_1:fldT Tryz.prog 275 1=some (510,273):=by kernel_rfl
@[simp] theorem concT_194:Sa Tryz.prog 194=true:=by kernel_rfl
attribute [simp] Tryz.underlying0 Tryz.underlying1 Tryz.underlying2 Tryz.underlying3 Tryz.underlying4 Tryz.underlying5 Tryz.underlying6 Tryz.underlying7 Tryz.underlying8 Tryz.underlying9 Tryz.underlying10 Tryz.underlying11 Tryz.underlying12 Tryz.underlying13 Tryz.underlying14 Tryz.underlying15 Tryz.underlying16 Tryz.underlying17 Tryz.underlying18 Tryz.underlying19 Tryz.underlying20 Tryz.underlying21 Tryz.underlying22 Tryz.underlying23 Tryz.underlying24 Tryz.underlying25 Tryz.underlying26 Tryz.underlying27 Tryz.underlying28 Tryz.underlying29 Tryz.underlying30 Tryz.underlying31 Tryz.underlying32 Tryz.underlying33 Tryz.underlying34 Tryz.underlying35 Tryz.underlying36 Tryz.underlying37 Tryz.underlying38 Tryz.underlying39 Tryz.underlying40 Tryz.underlying41 Tryz.underlying42 Tryz.underlying43 Tryz.underlying44 Tryz.underlying45 Tryz.underlying46 Tryz.underlying47 Tryz.underlying48 Tryz.underlying49 Tryz.underlying50 Tryz.underlying51 Tryz.underlying52 Tryz.underlying53 Tryz.underlying54 Tryz.underlying55 Tryz.underlying56 Tryz.underlying57 Tryz.underlying58 Tryz.underlying59 Tryz.underlying60 Tryz.underlying61 Tryz.underlying62 Tryz.underlying63 Tryz.underlying64 Tryz.underlying65 Tryz.underlying66 Tryz.underlying67 Tryz.underlying68 Tryz.underlying69 Tryz.underlying70 Tryz.underlying71 Tryz.underlying72 Tryz.underlying73 Tryz.underlying74 Tryz.underlying75 Tryz.underlying76 Tryz.underlying77 Tryz.underlying78 Tryz.underlying79 Tryz.underlying80 Tryz.underlying81 Tryz.underlying82 Tryz.underlying83 Tryz.underlying84 Tryz.underlying85 Tryz.underlying86 Tryz.underlying87 Tryz.underlying88 Tryz.underlying89 Tryz.underlying90 Tryz.underlying91 Tryz.underlying92 Tryz.underlying93 Tryz.underlying94 Tryz.underlying95 Tryz.underlying96 Tryz.underlying97 Tryz.underlying98 Tryz.underlying99 Tryz.underlying100 Tryz.underlying101 Tryz.underlying102 Tryz.underlying103 Tryz.underlying104 Tryz.underlying105 Tryz.underlying106 Tryz.underlying107 Tryz.underlying108 Tryz.underlying109 Tryz.underlying110 Tryz.underlying111 Tryz.underlying112 Tryz.underlying113 Tryz.underlying114 Tryz.underlying115 Tryz.underlying116 Tryz.underlying117 Tryz.underlying118 Tryz.underlying119 Tryz.underlying120 Tryz.underlying121 Tryz.underlying122 Tryz.underlying123 Tryz.underlying124 Tryz.underlying125 Tryz.underlying126 Tryz.underlying127 Tryz.underlying128 Tryz.underlying129 Tryz.underlying130 Tryz.underlying131 Tryz.underlying132 Tryz.underlying133 Tryz.underlying134 Tryz.underlying135 Tryz.underlying136 Tryz.underlying137 Tryz.underlying138 Tryz.underlying139 Tryz.underlying140 Tryz.underlying141 Tryz.underlying142 Tryz.underlying143 Tryz.underlying144 Tryz.underlying145 Tryz.underlying146 Tryz.underlying147 Tryz.underlying148 Tryz.underlying149 Tryz.underlying150 Tryz.underlying151 Tryz.underlying152 Tryz.underlying153 Tryz.underlying154 Tryz.underlying155 Tryz.underlying156 Tryz.underlying157 Tryz.underlying158 Tryz.underlying159 Tryz.underlying160 Tryz.underlying161 Tryz.underlying162 Tryz.underlying163 Tryz.underlying164 Tryz.underlying165 Tryz.underlying166 Tryz.underlying167 Tryz.underlying168 Tryz.underlying169 Tryz.underlying170 Tryz.underlying171 Tryz.underlying172 Tryz.underlying173 Tryz.underlying174 Tryz.underlying175 Tryz.underlying176 Tryz.underlying177 Tryz.underlying178 Tryz.underlying179 Tryz.underlying180 Tryz.underlying181 Tryz.underlying182 Tryz.underlying183 Tryz.underlying184 Tryz.underlying185 Tryz.underlying186 Tryz.underlying187 Tryz.underlying188 Tryz.underlying189 Tryz.underlying190 Tryz.underlying191 Tryz.underlying192 Tryz.underlying193 Tryz.underlying194 Tryz.underlying195 Tryz.underlying196 Tryz.underlying197 Tryz.underlying198 Tryz.underlying199 Tryz.underlying200 Tryz.underlying201 Tryz.underlying202 Tryz.underlying203 Tryz.underlying204 Tryz.underlying205 Tryz.underlying206 Tryz.underlying207 Tryz.underlying208 Tryz.underlying209 Tryz.underlying210 Tryz.underlying211 Tryz.underlying212 Tryz.underlying213 Tryz.underlying214 Tryz.underlying215 Tryz.underlying216 Tryz.underlying217 Tryz.underlying218 Tryz.underlying219 Tryz.underlying220 Tryz.underlying221 Tryz.underlying222 Tryz.underlying223 Tryz.underlying224 Tryz.underlying225 Tryz.underlying226 Tryz.underlying227 Tryz.underlying228 Tryz.underlying229 Tryz.underlying230 Tryz.underlying231 Tryz.underlying232 Tryz.underlying233 Tryz.underlying234 Tryz.underlying235 Tryz.underlying236 Tryz.underlying237 Tryz.underlying238 Tryz.underlying239 Tryz.underlying240 Tryz.underlying241 Tryz.underlying242 Tryz.underlying243 Tryz.underlying244 Tryz.underlying245 Tryz.underlying246 Tryz.underlying247 Tryz.underlying248 Tryz.underlying249 Tryz.underlying250 Tryz.underlying251 Tryz.underlying252 Tryz.underlying253 Tryz.underlying254 Tryz.underlying255 Tryz.underlying256 Tryz.underlying257 Tryz.underlying258 Tryz.underlying259 Tryz.underlying260 Tryz.underlying261 Tryz.underlying262 Tryz.underlying263 Tryz.underlying264 Tryz.underlying265 Tryz.underlying266 Tryz.underlying267 Tryz.underlying268 Tryz.underlying269 Tryz.underlying270 Tryz.underlying271 Tryz.underlying272 Tryz.underlying273 Tryz.underlying274 Tryz.underlying275 Tryz.underlying276 Tryz.underlying277 Tryz.underlying278 Tryz.underlying279 Tryz.underlying280 Tryz.underlying281 Tryz.underlying282 Tryz.underlying283 Tryz.underlying284 Tryz.underlying285 Tryz.underlying286 Tryz.underlying287 Tryz.underlying288 Tryz.underlying289 Tryz.underlying290 Tryz.underlying291
end Go.Proofs.YtmbndhciflilbaaGreatDoor.X
