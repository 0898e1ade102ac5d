/-
  X: facts about the types of this seat's program. Written by wip/tools/types.py.
-/
import Derived.Test.YtjcnihmbpakipaaGreatDoorXW
import Derived.Test.YtjcnihmbpakipaaGreatDoorProg
namespace Go.Proofs.YtjcnihmbpakipaaGreatDoor.X
open Go.RowKit
theorem hm:Tryz.prog.follows .mixedOrders=true:=by kernel_rfl
@[simp] theorem szT_3:szT Tryz.prog 3=some 1:=by kernel_rfl
@[simp] theorem aggT_3:aggT Tryz.prog 3=some false:=by kernel_rfl
@[simp] theorem zeroAV_3:zeroAV Tryz.prog 3=some (AV.int IntKind.i64 (0)):=by kernel_rfl
@[simp] theorem intT_3:intT Tryz.prog 3=some IntKind.i64:=by kernel_rfl
@[simp] theorem szT_4:szT Tryz.prog 4=some 1:=by kernel_rfl
@[simp] theorem byT_4:byT Tryz.prog 4=some 1:=by kernel_rfl
@[simp] theorem aggT_4:aggT Tryz.prog 4=some false:=by kernel_rfl
@[simp] theorem zeroAV_4:zeroAV Tryz.prog 4=some (AV.bool false):=by kernel_rfl
@[simp] theorem szT_5:szT Tryz.prog 5=some 1:=by kernel_rfl
@[simp] theorem byT_5:byT Tryz.prog 5=some 1:=by kernel_rfl
@[simp] theorem aggT_5:aggT Tryz.prog 5=some false:=by kernel_rfl
@[simp] theorem zeroAV_5:zeroAV Tryz.prog 5=some (AV.int IntKind.u8 (0)):=by kernel_rfl
@[simp] theorem intT_5:intT Tryz.prog 5=some IntKind.u8:=by kernel_rfl
@[simp] theorem szT_9:szT Tryz.prog 9=some 1:=by kernel_rfl
@[simp] theorem byT_9:byT Tryz.prog 9=some 16:=by kernel_rfl
@[simp] theorem aggT_9:aggT Tryz.prog 9=some false:=by kernel_rfl
@[simp] theorem zeroAV_9:zeroAV Tryz.prog 9=some (AV.str ⟨#[]⟩):=by kernel_rfl
@[simp] theorem strT_9:strT Tryz.prog 9=true:=by kernel_rfl
@[simp] theorem szT_23:szT Tryz.prog 23=some 5:=by kernel_rfl
@[simp] theorem aggT_23:aggT Tryz.prog 23=some true:=by kernel_rfl
@[simp] theorem fldT_23_0:fldT Tryz.prog 23 0=some (0,3):=by kernel_rfl
@[simp] theorem fldT_23_1:fldT Tryz.prog 23 1=some (1,3):=by kernel_rfl
@[simp] theorem fldT_23_2:fldT Tryz.prog 23 2=some (2,3):=by kernel_rfl
@[simp] theorem fldT_23_3:fldT Tryz.prog 23 3=some (3,3):=by kernel_rfl
@[simp] theorem fldT_23_4:fldT Tryz.prog 23 4=some (4,3):=by kernel_rfl
@[simp] theorem szT_29:szT Tryz.prog 29=some 1:=by kernel_rfl
@[simp] theorem aggT_29:aggT Tryz.prog 29=some false:=by kernel_rfl
@[simp] theorem szT_31:szT Tryz.prog 31=some 1:=by kernel_rfl
@[simp] theorem aggT_31:aggT Tryz.prog 31=some false:=by kernel_rfl
@[simp] theorem szT_32:szT Tryz.prog 32=some 1:=by kernel_rfl
@[simp] theorem aggT_32:aggT Tryz.prog 32=some false:=by kernel_rfl
@[simp] theorem zeroAV_32:zeroAV Tryz.prog 32=some (AV.int IntKind.i64 (0)):=by kernel_rfl
@[simp] theorem szT_42:szT Tryz.prog 42=some 1:=by kernel_rfl
@[simp] theorem aggT_42:aggT Tryz.prog 42=some false:=by kernel_rfl
@[simp] theorem szT_43:szT Tryz.prog 43=some 1:=by kernel_rfl
@[simp] theorem aggT_43:aggT Tryz.prog 43=some false:=by kernel_rfl
@[simp] theorem zeroAV_43:zeroAV Tryz.prog 43=some AV.nilSl:=by kernel_rfl
@[simp] theorem elT_43:elT Tryz.prog 43=some 3:=by kernel_rfl
@[simp] theorem fldT_47_0:fldT Tryz.prog 47 0=some (0,3):=by kernel_rfl
@[simp] theorem fldT_47_1:fldT Tryz.prog 47 1=some (1,3):=by kernel_rfl
@[simp] theorem fldT_47_2:fldT Tryz.prog 47 2=some (2,3):=by kernel_rfl
@[simp] theorem fldT_47_3:fldT Tryz.prog 47 3=some (3,9):=by kernel_rfl
@[simp] theorem szT_50:szT Tryz.prog 50=some 1:=by kernel_rfl
@[simp] theorem aggT_50:aggT Tryz.prog 50=some false:=by kernel_rfl
@[simp] theorem zeroAV_50:zeroAV Tryz.prog 50=some AV.nilSl:=by kernel_rfl
@[simp] theorem elT_50:elT Tryz.prog 50=some 9:=by kernel_rfl
@[simp] theorem szT_51:szT Tryz.prog 51=some 1:=by kernel_rfl
@[simp] theorem aggT_51:aggT Tryz.prog 51=some false:=by kernel_rfl
@[simp] theorem zeroAV_51:zeroAV Tryz.prog 51=some AV.nilSl:=by kernel_rfl
@[simp] theorem elT_51:elT Tryz.prog 51=some 4:=by kernel_rfl
@[simp] theorem fldT_53_0:fldT Tryz.prog 53 0=some (0,23):=by kernel_rfl
@[simp] theorem fldT_53_1:fldT Tryz.prog 53 1=some (5,50):=by kernel_rfl
@[simp] theorem fldT_53_2:fldT Tryz.prog 53 2=some (6,51):=by kernel_rfl
@[simp] theorem szT_64:szT Tryz.prog 64=some 4:=by kernel_rfl
@[simp] theorem fldT_64_0:fldT Tryz.prog 64 0=some (0,3):=by kernel_rfl
@[simp] theorem fldT_64_1:fldT Tryz.prog 64 1=some (1,51):=by kernel_rfl
@[simp] theorem fldT_64_2:fldT Tryz.prog 64 2=some (2,3):=by kernel_rfl
@[simp] theorem fldT_64_3:fldT Tryz.prog 64 3=some (3,51):=by kernel_rfl
@[simp] theorem fldT_66_0:fldT Tryz.prog 66 0=some (0,23):=by kernel_rfl
@[simp] theorem fldT_66_1:fldT Tryz.prog 66 1=some (5,42):=by kernel_rfl
@[simp] theorem fldT_66_2:fldT Tryz.prog 66 2=some (6,43):=by kernel_rfl
@[simp] theorem fldT_66_3:fldT Tryz.prog 66 3=some (7,64):=by kernel_rfl
@[simp] theorem fldT_75_0:fldT Tryz.prog 75 0=some (0,29):=by kernel_rfl
@[simp] theorem fldT_75_1:fldT Tryz.prog 75 1=some (1,23):=by kernel_rfl
@[simp] theorem fldT_75_2:fldT Tryz.prog 75 2=some (6,3):=by kernel_rfl
@[simp] theorem fldT_75_3:fldT Tryz.prog 75 3=some (7,3):=by kernel_rfl
@[simp] theorem zeroAV_84:zeroAV Tryz.prog 84=some (AV.agg [AV.int IntKind.i64 (0),AV.int IntKind.i64 (0),AV.str ⟨#[]⟩]):=by kernel_rfl
@[simp] theorem fldT_84_0:fldT Tryz.prog 84 0=some (0,3):=by kernel_rfl
@[simp] theorem fldT_84_1:fldT Tryz.prog 84 1=some (1,3):=by kernel_rfl
@[simp] theorem fldT_84_2:fldT Tryz.prog 84 2=some (2,9):=by kernel_rfl
@[simp] theorem fldT_86_0:fldT Tryz.prog 86 0=some (0,50):=by kernel_rfl
@[simp] theorem fldT_86_1:fldT Tryz.prog 86 1=some (1,43):=by kernel_rfl
@[simp] theorem szT_94:szT Tryz.prog 94=some 1:=by kernel_rfl
@[simp] theorem aggT_94:aggT Tryz.prog 94=some false:=by kernel_rfl
@[simp] theorem szT_97:szT Tryz.prog 97=some 1:=by kernel_rfl
@[simp] theorem aggT_97:aggT Tryz.prog 97=some false:=by kernel_rfl
@[simp] theorem aggT_104:aggT Tryz.prog 104=some true:=by kernel_rfl
@[simp] theorem zeroAV_104:zeroAV Tryz.prog 104=some (AV.agg [AV.int IntKind.i64 (0),AV.int IntKind.i64 (0),AV.int IntKind.i64 (0),AV.int IntKind.i64 (0),AV.str ⟨#[]⟩]):=by kernel_rfl
@[simp] theorem fldT_104_0:fldT Tryz.prog 104 0=some (0,3):=by kernel_rfl
@[simp] theorem fldT_104_1:fldT Tryz.prog 104 1=some (1,3):=by kernel_rfl
@[simp] theorem fldT_104_2:fldT Tryz.prog 104 2=some (2,3):=by kernel_rfl
@[simp] theorem fldT_104_3:fldT Tryz.prog 104 3=some (3,3):=by kernel_rfl
@[simp] theorem fldT_104_4:fldT Tryz.prog 104 4=some (4,9):=by kernel_rfl
@[simp] theorem aggT_107:aggT Tryz.prog 107=some true:=by kernel_rfl
@[simp] theorem zeroAV_107:zeroAV Tryz.prog 107=some (AV.agg [AV.int IntKind.i64 (0),AV.int IntKind.i64 (0),AV.int IntKind.i64 (0),AV.int IntKind.i64 (0),AV.str ⟨#[]⟩]):=by kernel_rfl
@[simp] theorem fldT_107_0:fldT Tryz.prog 107 0=some (0,3):=by kernel_rfl
@[simp] theorem fldT_107_1:fldT Tryz.prog 107 1=some (1,3):=by kernel_rfl
@[simp] theorem fldT_107_2:fldT Tryz.prog 107 2=some (2,3):=by kernel_rfl
@[simp] theorem fldT_107_3:fldT Tryz.prog 107 3=some (3,3):=by kernel_rfl
@[simp] theorem fldT_107_4:fldT Tryz.prog 107 4=some (4,9):=by kernel_rfl
@[simp] theorem szT_111:szT Tryz.prog 111=some 1:=by kernel_rfl
@[simp] theorem aggT_111:aggT Tryz.prog 111=some false:=by kernel_rfl
@[simp] theorem elT_111:elT Tryz.prog 111=some 94:=by kernel_rfl
@[simp] theorem fldT_113_0:fldT Tryz.prog 113 0=some (0,111):=by kernel_rfl
@[simp] theorem fldT_113_1:fldT Tryz.prog 113 1=some (1,3):=by kernel_rfl
@[simp] theorem fldT_113_2:fldT Tryz.prog 113 2=some (2,4):=by kernel_rfl
@[simp] theorem szT_128:szT Tryz.prog 128=some 1:=by kernel_rfl
@[simp] theorem aggT_128:aggT Tryz.prog 128=some false:=by kernel_rfl
@[simp] theorem elT_128:elT Tryz.prog 128=some 185:=by kernel_rfl
@[simp] theorem fldT_130_0:fldT Tryz.prog 130 0=some (0,50):=by kernel_rfl
@[simp] theorem fldT_130_1:fldT Tryz.prog 130 1=some (1,3):=by kernel_rfl
@[simp] theorem fldT_130_2:fldT Tryz.prog 130 2=some (2,128):=by kernel_rfl
@[simp] theorem fldT_130_3:fldT Tryz.prog 130 3=some (3,4):=by kernel_rfl
@[simp] theorem szT_145:szT Tryz.prog 145=some 1:=by kernel_rfl
@[simp] theorem aggT_145:aggT Tryz.prog 145=some false:=by kernel_rfl
@[simp] theorem intT_145:intT Tryz.prog 145=some IntKind.u32:=by kernel_rfl
@[simp] theorem szT_148:szT Tryz.prog 148=some 1:=by kernel_rfl
@[simp] theorem byT_148:byT Tryz.prog 148=some 24:=by kernel_rfl
@[simp] theorem aggT_148:aggT Tryz.prog 148=some false:=by kernel_rfl
@[simp] theorem zeroAV_148:zeroAV Tryz.prog 148=some AV.nilSl:=by kernel_rfl
@[simp] theorem elT_148:elT Tryz.prog 148=some 5:=by kernel_rfl
@[simp] theorem zeroAV_150:zeroAV Tryz.prog 150=some (AV.agg [AV.nilPtr,AV.nilSl]):=by kernel_rfl
@[simp] theorem elT_156:elT Tryz.prog 156=some 160:=by kernel_rfl
@[simp] theorem szT_158:szT Tryz.prog 158=some 1:=by kernel_rfl
@[simp] theorem aggT_158:aggT Tryz.prog 158=some false:=by kernel_rfl
@[simp] theorem fldT_160_0:fldT Tryz.prog 160 0=some (0,158):=by kernel_rfl
@[simp] theorem fldT_160_1:fldT Tryz.prog 160 1=some (1,3):=by kernel_rfl
@[simp] theorem elT_172:elT Tryz.prog 172=some 158:=by kernel_rfl
@[simp] theorem szT_175:szT Tryz.prog 175=some 1:=by kernel_rfl
@[simp] theorem aggT_175:aggT Tryz.prog 175=some false:=by kernel_rfl
@[simp] theorem szT_185:szT Tryz.prog 185=some 1:=by kernel_rfl
@[simp] theorem aggT_185:aggT Tryz.prog 185=some false:=by kernel_rfl
@[simp] theorem zeroAV_185:zeroAV Tryz.prog 185=some AV.nilIf:=by kernel_rfl
@[simp] theorem szT_194:szT Tryz.prog 194=some 2:=by kernel_rfl
@[simp] theorem zeroAV_194:zeroAV Tryz.prog 194=some (AV.agg [AV.int IntKind.i64 (0),AV.str ⟨#[]⟩]):=by kernel_rfl
@[simp] theorem fldT_194_0:fldT Tryz.prog 194 0=some (0,3):=by kernel_rfl
@[simp] theorem fldT_194_1:fldT Tryz.prog 194 1=some (1,9):=by kernel_rfl
@[simp] theorem intT_199:intT Tryz.prog 199=some IntKind.u64:=by kernel_rfl
@[simp] theorem aggT_224:aggT Tryz.prog 224=some true:=by kernel_rfl
@[simp] theorem zeroAV_224:zeroAV Tryz.prog 224=some (AV.agg [AV.int IntKind.u32 (0),AV.int IntKind.u32 (0),AV.int IntKind.u32 (0),AV.int IntKind.u32 (0),AV.int IntKind.u32 (0),AV.int IntKind.u32 (0),AV.int IntKind.u32 (0),AV.int IntKind.u32 (0),AV.int IntKind.u32 (0),AV.int IntKind.u32 (0),AV.int IntKind.u32 (0),AV.int IntKind.u32 (0),AV.int IntKind.u32 (0),AV.int IntKind.u32 (0),AV.int IntKind.u32 (0),AV.int IntKind.u32 (0)]):=by kernel_rfl
@[simp] theorem intT_235:intT Tryz.prog 235=some IntKind.u64:=by kernel_rfl
@[simp] theorem elT_252:elT Tryz.prog 252=some 148:=by kernel_rfl
@[simp] theorem szT_270:szT Tryz.prog 270=some 510:=by kernel_rfl
@[simp] theorem szT_271:szT Tryz.prog 271=some 256:=by kernel_rfl
@[simp] theorem aggT_273:aggT Tryz.prog 273=some true:=by kernel_rfl
@[simp] theorem fldT_273_0:fldT Tryz.prog 273 0=some (0,270):=by kernel_rfl
@[simp] theorem fldT_273_1:fldT Tryz.prog 273 1=some (510,271):=by kernel_rfl
@[simp] theorem concT_194:concT Tryz.prog 194=true:=by kernel_rfl
attribute [simp] Tryz.underlying0 Tryz.underlying1 Tryz.underlying2 Tryz.underlying3 Tryz.underlying4 Tryz.underlying5 Tryz.underlying6 Tryz.underlying7 Tryz.underlying8 Tryz.underlying9 Tryz.underlying10 Tryz.underlying11 Tryz.underlying12 Tryz.underlying13 Tryz.underlying14 Tryz.underlying15 Tryz.underlying16 Tryz.underlying17 Tryz.underlying18 Tryz.underlying19 Tryz.underlying20 Tryz.underlying21 Tryz.underlying22 Tryz.underlying23 Tryz.underlying24 Tryz.underlying25 Tryz.underlying26 Tryz.underlying27 Tryz.underlying28 Tryz.underlying29 Tryz.underlying30 Tryz.underlying31 Tryz.underlying32 Tryz.underlying33 Tryz.underlying34 Tryz.underlying35 Tryz.underlying36 Tryz.underlying37 Tryz.underlying38 Tryz.underlying39 Tryz.underlying40 Tryz.underlying41 Tryz.underlying42 Tryz.underlying43 Tryz.underlying44 Tryz.underlying45 Tryz.underlying46 Tryz.underlying47 Tryz.underlying48 Tryz.underlying49 Tryz.underlying50 Tryz.underlying51 Tryz.underlying52 Tryz.underlying53 Tryz.underlying54 Tryz.underlying55 Tryz.underlying56 Tryz.underlying57 Tryz.underlying58 Tryz.underlying59 Tryz.underlying60 Tryz.underlying61 Tryz.underlying62 Tryz.underlying63 Tryz.underlying64 Tryz.underlying65 Tryz.underlying66 Tryz.underlying67 Tryz.underlying68 Tryz.underlying69 Tryz.underlying70 Tryz.underlying71 Tryz.underlying72 Tryz.underlying73 Tryz.underlying74 Tryz.underlying75 Tryz.underlying76 Tryz.underlying77 Tryz.underlying78 Tryz.underlying79 Tryz.underlying80 Tryz.underlying81 Tryz.underlying82 Tryz.underlying83 Tryz.underlying84 Tryz.underlying85 Tryz.underlying86 Tryz.underlying87 Tryz.underlying88 Tryz.underlying89 Tryz.underlying90 Tryz.underlying91 Tryz.underlying92 Tryz.underlying93 Tryz.underlying94 Tryz.underlying95 Tryz.underlying96 Tryz.underlying97 Tryz.underlying98 Tryz.underlying99 Tryz.underlying100 Tryz.underlying101 Tryz.underlying102 Tryz.underlying103 Tryz.underlying104 Tryz.underlying105 Tryz.underlying106 Tryz.underlying107 Tryz.underlying108 Tryz.underlying109 Tryz.underlying110 Tryz.underlying111 Tryz.underlying112 Tryz.underlying113 Tryz.underlying114 Tryz.underlying115 Tryz.underlying116 Tryz.underlying117 Tryz.underlying118 Tryz.underlying119 Tryz.underlying120 Tryz.underlying121 Tryz.underlying122 Tryz.underlying123 Tryz.underlying124 Tryz.underlying125 Tryz.underlying126 Tryz.underlying127 Tryz.underlying128 Tryz.underlying129 Tryz.underlying130 Tryz.underlying131 Tryz.underlying132 Tryz.underlying133 Tryz.underlying134 Tryz.underlying135 Tryz.underlying136 Tryz.underlying137 Tryz.underlying138 Tryz.underlying139 Tryz.underlying140 Tryz.underlying141 Tryz.underlying142 Tryz.underlying143 Tryz.underlying144 Tryz.underlying145 Tryz.underlying146 Tryz.underlying147 Tryz.underlying148 Tryz.underlying149 Tryz.underlying150 Tryz.underlying151 Tryz.underlying152 Tryz.underlying153 Tryz.underlying154 Tryz.underlying155 Tryz.underlying156 Tryz.underlying157 Tryz.underlying158 Tryz.underlying159 Tryz.underlying160 Tryz.underlying161 Tryz.underlying162 Tryz.underlying163 Tryz.underlying164 Tryz.underlying165 Tryz.underlying166 Tryz.underlying167 Tryz.underlying168 Tryz.underlying169 Tryz.underlying170 Tryz.underlying171 Tryz.underlying172 Tryz.underlying173 Tryz.underlying174 Tryz.underlying175 Tryz.underlying176 Tryz.underlying177 Tryz.underlying178 Tryz.underlying179 Tryz.underlying180 Tryz.underlying181 Tryz.underlying182 Tryz.underlying183 Tryz.underlying184 Tryz.underlying185 Tryz.underlying186 Tryz.underlying187 Tryz.underlying188 Tryz.underlying189 Tryz.underlying190 Tryz.underlying191 Tryz.underlying192 Tryz.underlying193 Tryz.underlying194 Tryz.underlying195 Tryz.underlying196 Tryz.underlying197 Tryz.underlying198 Tryz.underlying199 Tryz.underlying200 Tryz.underlying201 Tryz.underlying202 Tryz.underlying203 Tryz.underlying204 Tryz.underlying205 Tryz.underlying206 Tryz.underlying207 Tryz.underlying208 Tryz.underlying209 Tryz.underlying210 Tryz.underlying211 Tryz.underlying212 Tryz.underlying213 Tryz.underlying214 Tryz.underlying215 Tryz.underlying216 Tryz.underlying217 Tryz.underlying218 Tryz.underlying219 Tryz.underlying220 Tryz.underlying221 Tryz.underlying222 Tryz.underlying223 Tryz.underlying224 Tryz.underlying225 Tryz.underlying226 Tryz.underlying227 Tryz.underlying228 Tryz.underlying229 Tryz.underlying230 Tryz.underlying231 Tryz.underlying232 Tryz.underlying233 Tryz.underlying234 Tryz.underlying235 Tryz.underlying236 Tryz.underlying237 Tryz.underlying238 Tryz.underlying239 Tryz.underlying240 Tryz.underlying241 Tryz.underlying242 Tryz.underlying243 Tryz.underlying244 Tryz.underlying245 Tryz.underlying246 Tryz.underlying247 Tryz.underlying248 Tryz.underlying249 Tryz.underlying250 Tryz.underlying251 Tryz.underlying252 Tryz.underlying253 Tryz.underlying254 Tryz.underlying255 Tryz.underlying256 Tryz.underlying257 Tryz.underlying258 Tryz.underlying259 Tryz.underlying260 Tryz.underlying261 Tryz.underlying262 Tryz.underlying263 Tryz.underlying264 Tryz.underlying265 Tryz.underlying266 Tryz.underlying267 Tryz.underlying268 Tryz.underlying269 Tryz.underlying270 Tryz.underlying271 Tryz.underlying272 Tryz.underlying273 Tryz.underlying274 Tryz.underlying275 Tryz.underlying276 Tryz.underlying277 Tryz.underlying278 Tryz.underlying279 Tryz.underlying280 Tryz.underlying281 Tryz.underlying282 Tryz.underlying283 Tryz.underlying284 Tryz.underlying285 Tryz.underlying286 Tryz.underlying287 Tryz.underlying288 Tryz.underlying289 Tryz.underlying290 Tryz.underlying291 Tryz.underlying292 Tryz.underlying293 Tryz.underlying294 Tryz.underlying295 Tryz.underlying296 Tryz.underlying297 Tryz.underlying298 Tryz.underlying299 Tryz.underlying300 Tryz.underlying301 Tryz.underlying302
end Go.Proofs.YtjcnihmbpakipaaGreatDoor.X
