/- Lemmas for the walks (TxL, TxC, TxN, TxP, TxT). No condition. -/
import Derived.Shelf.Strings.Split
import Derived.Shelf.Strings.Cut
import Derived.Shelf.Strings.Fields
import Derived.Shelf.Strconv.Itoa3
import Derived.Shelf.Strconv.AtoiAll
import Derived.Test.YtjdckepbihcgfaaGreatDoorG06
set_option linter.unusedSimpArgs false
set_option linter.unusedVariables false
set_option linter.unusedSectionVars false
set_option linter.unnecessarySimpa false
set_option maxRecDepth 100000
set_option maxHeartbeats 8000000
namespace Go.Proofs.YtjdckepbihcgfaaGreatDoor
section
open Go.RowKit Go.Shelf
def rhoSplit:Ren:=⟨fun n=>if n=146 then 54 else if n=221 then 102 else if n=268 then 141 else if n=138 then 142 else if n=143 then 143 else if n=195 then 174 else if n=197 then 175 else if n=218 then 176 else if n=219 then 168 else if n=260 then 200 else if n=217 then 193 else if n=225 then 194 else if n=224 then 195 else if n=267 then 196 else if n=266 then 230 else if n=314 then 231 else n,fun n=>if n=9 then 9 else if n=31 then 73 else if n=3 then 3 else if n=4 then 4 else if n=0 then 0 else if n=105 then 250 else if n=21 then 21 else if n=5 then 5 else if n=46 then 88 else if n=119 then 235 else if n=139 then 315 else if n=138 then 314 else if n=146 then 300 else if n=51 then 271 else n,fun n=>if n=1 then 1 else if n=3 then 4 else if n=4 then 5 else n⟩
theorem laySplit:Lays.n146 Tryz.prog rhoSplit where
 mixed:=by kernel_rfl
 f138:=by kernel_rfl
 f143:=by kernel_rfl
 f146:=by kernel_rfl
 f195:=by kernel_rfl
 f197:=by kernel_rfl
 f217:=by kernel_rfl
 f218:=by kernel_rfl
 f219:=by kernel_rfl
 f221:=by kernel_rfl
 f224:=by kernel_rfl
 f225:=by kernel_rfl
 f260:=by kernel_rfl
 f266:=by kernel_rfl
 f267:=by kernel_rfl
 f268:=by kernel_rfl
 f314:=by kernel_rfl
 t0:=Tryz.underlying0
 a0:=Tryz.isAgg0
 z0:=Tryz.sizeOf0
 v0:=Tryz.zeroValue0
 t3:=Tryz.underlying3
 a3:=Tryz.isAgg3
 z3:=Tryz.sizeOf3
 v3:=Tryz.zeroValue3
 t4:=Tryz.underlying4
 a4:=Tryz.isAgg4
 z4:=Tryz.sizeOf4
 v4:=Tryz.zeroValue4
 t5:=Tryz.underlying5
 a5:=Tryz.isAgg5
 z5:=Tryz.sizeOf5
 v5:=Tryz.zeroValue5
 t9:=Tryz.underlying9
 a9:=Tryz.isAgg9
 z9:=Tryz.sizeOf9
 v9:=Tryz.zeroValue9
 t21:=Tryz.underlying21
 a21:=Tryz.isAgg21
 z21:=Tryz.sizeOf21
 v21:=Tryz.zeroValue21
 t31:=Tryz.underlying73
 a31:=Tryz.isAgg73
 z31:=Tryz.sizeOf73
 v31:=Tryz.zeroValue73
 t46:=Tryz.underlying88
 a46:=Tryz.isAgg88
 z46:=Tryz.sizeOf88
 v46:=Tryz.zeroValue88
 t51:=Tryz.underlying271
 a51:=Tryz.isAgg271
 z51:=Tryz.sizeOf271
 v51:=Tryz.zeroValue271
 t105:=Tryz.underlying250
 a105:=Tryz.isAgg250
 z105:=Tryz.sizeOf250
 v105:=Tryz.zeroValue250
 t119:=Tryz.underlying235
 a119:=Tryz.isAgg235
 z119:=Tryz.sizeOf235
 t138:=Tryz.underlying314
 a138:=Tryz.isAgg314
 z138:=Tryz.sizeOf314
 v138:=Tryz.zeroValue314
 t139:=Tryz.underlying315
 a139:=Tryz.isAgg315
 z139:=Tryz.sizeOf315
 v139:=Tryz.zeroValue315
 t146:=Tryz.underlying300
 a146:=Tryz.isAgg300
 z146:=Tryz.sizeOf300
 v146:=Tryz.zeroValue300
 g1:=by kernel_rfl
 g3:=by kernel_rfl
 g4:=by kernel_rfl
def rhoCut:Ren:=⟨fun n=>if n=145 then 65 else if n=220 then 124 else if n=219 then 168 else if n=217 then 193 else if n=225 then 194 else if n=224 then 195 else if n=267 then 196 else if n=266 then 230 else if n=314 then 231 else n,fun n=>if n=9 then 9 else if n=4 then 4 else if n=59 then 124 else if n=3 then 3 else if n=5 then 5 else if n=46 then 88 else if n=146 then 300 else if n=51 then 271 else n,fun n=>if n=1 then 1 else n⟩
theorem layCut:Lays.n145 Tryz.prog rhoCut where
 mixed:=by kernel_rfl
 f145:=by kernel_rfl
 f217:=by kernel_rfl
 f219:=by kernel_rfl
 f220:=by kernel_rfl
 f224:=by kernel_rfl
 f225:=by kernel_rfl
 f266:=by kernel_rfl
 f267:=by kernel_rfl
 f314:=by kernel_rfl
 t3:=Tryz.underlying3
 a3:=Tryz.isAgg3
 z3:=Tryz.sizeOf3
 v3:=Tryz.zeroValue3
 t4:=Tryz.underlying4
 a4:=Tryz.isAgg4
 z4:=Tryz.sizeOf4
 v4:=Tryz.zeroValue4
 t5:=Tryz.underlying5
 a5:=Tryz.isAgg5
 z5:=Tryz.sizeOf5
 v5:=Tryz.zeroValue5
 t9:=Tryz.underlying9
 a9:=Tryz.isAgg9
 z9:=Tryz.sizeOf9
 v9:=Tryz.zeroValue9
 t46:=Tryz.underlying88
 a46:=Tryz.isAgg88
 z46:=Tryz.sizeOf88
 v46:=Tryz.zeroValue88
 t51:=Tryz.underlying271
 a51:=Tryz.isAgg271
 z51:=Tryz.sizeOf271
 v51:=Tryz.zeroValue271
 t59:=Tryz.underlying124
 a59:=Tryz.isAgg124
 z59:=Tryz.sizeOf124
 v59:=Tryz.zeroValue124
 t146:=Tryz.underlying300
 a146:=Tryz.isAgg300
 z146:=Tryz.sizeOf300
 v146:=Tryz.zeroValue300
 g1:=by kernel_rfl
def rhoFields:Ren:=⟨fun n=>if n=157 then 125 else if n=229 then 169 else if n=199 then 170 else if n=261 then 197 else if n=311 then 232 else if n=312 then 233 else n,fun n=>if n=9 then 9 else if n=31 then 73 else if n=3 then 3 else if n=5 then 5 else if n=4 then 4 else if n=119 then 235 else if n=0 then 0 else if n=40 then 237 else if n=152 then 268 else if n=21 then 21 else if n=154 then 270 else if n=51 then 271 else if n=141 then 273 else if n=196 then 305 else if n=193 then 302 else if n=198 then 307 else if n=49 then 40 else if n=194 then 303 else if n=201 then 310 else if n=226 then 334 else if n=46 then 88 else if n=227 then 335 else n,fun n=>if n=0 then 0 else if n=6 then 2 else n⟩
theorem layFields:Lays.n157 Tryz.prog rhoFields where
 mixed:=by kernel_rfl
 f157:=by kernel_rfl
 f199:=by kernel_rfl
 f229:=by kernel_rfl
 f261:=by kernel_rfl
 f311:=by kernel_rfl
 f312:=by kernel_rfl
 t0:=Tryz.underlying0
 a0:=Tryz.isAgg0
 z0:=Tryz.sizeOf0
 v0:=Tryz.zeroValue0
 t3:=Tryz.underlying3
 a3:=Tryz.isAgg3
 z3:=Tryz.sizeOf3
 v3:=Tryz.zeroValue3
 t4:=Tryz.underlying4
 a4:=Tryz.isAgg4
 z4:=Tryz.sizeOf4
 v4:=Tryz.zeroValue4
 t5:=Tryz.underlying5
 a5:=Tryz.isAgg5
 z5:=Tryz.sizeOf5
 v5:=Tryz.zeroValue5
 t9:=Tryz.underlying9
 a9:=Tryz.isAgg9
 z9:=Tryz.sizeOf9
 v9:=Tryz.zeroValue9
 t21:=Tryz.underlying21
 a21:=Tryz.isAgg21
 z21:=Tryz.sizeOf21
 v21:=Tryz.zeroValue21
 t31:=Tryz.underlying73
 a31:=Tryz.isAgg73
 z31:=Tryz.sizeOf73
 v31:=Tryz.zeroValue73
 t40:=Tryz.underlying237
 a40:=Tryz.isAgg237
 z40:=Tryz.sizeOf237
 v40:=Tryz.zeroValue237
 t46:=Tryz.underlying88
 a46:=Tryz.isAgg88
 z46:=Tryz.sizeOf88
 v46:=Tryz.zeroValue88
 t49:=Tryz.underlying40
 a49:=Tryz.isAgg40
 z49:=Tryz.sizeOf40
 v49:=Tryz.zeroValue40
 t51:=Tryz.underlying271
 a51:=Tryz.isAgg271
 z51:=Tryz.sizeOf271
 v51:=Tryz.zeroValue271
 t119:=Tryz.underlying235
 a119:=Tryz.isAgg235
 z119:=Tryz.sizeOf235
 t141:=Tryz.underlying273
 a141:=Tryz.isAgg273
 z141:=Tryz.sizeOf273
 v141:=Tryz.zeroValue273
 t152:=Tryz.underlying268
 a152:=Tryz.isAgg268
 z152:=Tryz.sizeOf268
 v152:=Tryz.zeroValue268
 t154:=Tryz.underlying270
 a154:=Tryz.isAgg270
 z154:=Tryz.sizeOf270
 v154:=Tryz.zeroValue270
 t193:=Tryz.underlying302
 a193:=Tryz.isAgg302
 z193:=Tryz.sizeOf302
 v193:=Tryz.zeroValue302
 t194:=Tryz.underlying303
 a194:=Tryz.isAgg303
 z194:=Tryz.sizeOf303
 v194:=Tryz.zeroValue303
 t196:=Tryz.underlying305
 a196:=Tryz.isAgg305
 z196:=Tryz.sizeOf305
 v196:=Tryz.zeroValue305
 t198:=Tryz.underlying307
 a198:=Tryz.isAgg307
 z198:=Tryz.sizeOf307
 v198:=Tryz.zeroValue307
 t201:=Tryz.underlying310
 a201:=Tryz.isAgg310
 z201:=Tryz.sizeOf310
 v201:=Tryz.zeroValue310
 t226:=Tryz.underlying334
 a226:=Tryz.isAgg334
 z226:=Tryz.sizeOf334
 v226:=Tryz.zeroValue334
 t227:=Tryz.underlying335
 a227:=Tryz.isAgg335
 z227:=Tryz.sizeOf335
 v227:=Tryz.zeroValue335
 g0:=by kernel_rfl
 g6:=by kernel_rfl
def rhoItoa:Ren:=⟨fun n=>if n=171 then 58 else if n=243 then 109 else if n=246 then 146 else if n=283 then 179 else if n=284 then 180 else if n=285 then 181 else if n=286 then 182 else if n=129 then 207 else if n=317 then 206 else if n=318 then 208 else if n=319 then 209 else if n=320 then 210 else if n=337 then 237 else if n=338 then 238 else n,fun n=>if n=3 then 3 else if n=9 then 9 else if n=2 then 2 else if n=4 then 4 else if n=171 then 254 else if n=0 then 0 else if n=53 then 255 else if n=37 then 59 else if n=5 then 5 else if n=173 then 258 else if n=212 then 283 else if n=51 then 271 else if n=20 then 20 else if n=213 then 284 else if n=46 then 88 else if n=232 then 340 else if n=233 then 341 else n,fun n=>if n=17 then 3 else if n=18 then 8 else if n=19 then 9 else n⟩
theorem layItoa:LaysM.n171 Tryz.prog rhoItoa where
 mixed:=by kernel_rfl
 f129:=by kernel_rfl
 f171:=by kernel_rfl
 f243:=by kernel_rfl
 f246:=by kernel_rfl
 f283:=by kernel_rfl
 f284:=by kernel_rfl
 f285:=by kernel_rfl
 f286:=by kernel_rfl
 f317:=by kernel_rfl
 f318:=by kernel_rfl
 f319:=by kernel_rfl
 f320:=by kernel_rfl
 f337:=by kernel_rfl
 f338:=by kernel_rfl
 t0:=Tryz.underlying0
 a0:=Tryz.isAgg0
 z0:=Tryz.sizeOf0
 v0:=Tryz.zeroValue0
 t2:=Tryz.underlying2
 a2:=Tryz.isAgg2
 z2:=Tryz.sizeOf2
 v2:=Tryz.zeroValue2
 t3:=Tryz.underlying3
 a3:=Tryz.isAgg3
 z3:=Tryz.sizeOf3
 v3:=Tryz.zeroValue3
 t4:=Tryz.underlying4
 a4:=Tryz.isAgg4
 z4:=Tryz.sizeOf4
 v4:=Tryz.zeroValue4
 t5:=Tryz.underlying5
 a5:=Tryz.isAgg5
 z5:=Tryz.sizeOf5
 v5:=Tryz.zeroValue5
 t9:=Tryz.underlying9
 a9:=Tryz.isAgg9
 z9:=Tryz.sizeOf9
 v9:=Tryz.zeroValue9
 t20:=Tryz.underlying20
 a20:=Tryz.isAgg20
 z20:=Tryz.sizeOf20
 v20:=Tryz.zeroValue20
 t37:=Tryz.underlying59
 a37:=Tryz.isAgg59
 z37:=Tryz.sizeOf59
 v37:=Tryz.zeroValue59
 t46:=Tryz.underlying88
 a46:=Tryz.isAgg88
 z46:=Tryz.sizeOf88
 v46:=Tryz.zeroValue88
 t51:=Tryz.underlying271
 a51:=Tryz.isAgg271
 z51:=Tryz.sizeOf271
 v51:=Tryz.zeroValue271
 t53:=Tryz.underlying255
 a53:=Tryz.isAgg255
 z53:=Tryz.sizeOf255
 v53:=Tryz.zeroValue255
 t171:=Tryz.underlying254
 a171:=Tryz.isAgg254
 z171:=Tryz.sizeOf254
 v171:=Tryz.zeroValue254
 t173:=Tryz.underlying258
 a173:=Tryz.isAgg258
 z173:=Tryz.sizeOf258
 v173:=Tryz.zeroValue258
 t212:=Tryz.underlying283
 a212:=Tryz.isAgg283
 z212:=Tryz.sizeOf283
 v212:=Tryz.zeroValue283
 t213:=Tryz.underlying284
 a213:=Tryz.isAgg284
 z213:=Tryz.sizeOf284
 t232:=Tryz.underlying340
 a232:=Tryz.isAgg340
 z232:=Tryz.sizeOf340
 v232:=Tryz.zeroValue340
 t233:=Tryz.underlying341
 a233:=Tryz.isAgg341
 z233:=Tryz.sizeOf341
 v233:=Tryz.zeroValue341
 g17:=by kernel_rfl
 g18:=by kernel_rfl
 g19:=by kernel_rfl
 i0:=by kernel_rfl
 i2:=by kernel_rfl
 i3:=by kernel_rfl
 i4:=by kernel_rfl
 i5:=by kernel_rfl
 i9:=by kernel_rfl
 i20:=by kernel_rfl
 i37:=by kernel_rfl
 i46:=by kernel_rfl
 i51:=by kernel_rfl
 i53:=by kernel_rfl
 i171:=by kernel_rfl
 i173:=by kernel_rfl
 i212:=by kernel_rfl
 i232:=by kernel_rfl
 i233:=by kernel_rfl
 m17:=by kernel_rfl
 m18:=by kernel_rfl
 m19:=by kernel_rfl
def rhoAtoi:Ren:=⟨fun n=>if n=172 then 144 else if n=244 then 177 else if n=245 then 178 else if n=247 then 201 else if n=279 then 202 else if n=280 then 203 else if n=281 then 204 else if n=282 then 205 else if n=287 then 234 else if n=316 then 235 else if n=171 then 58 else if n=205 then 236 else if n=321 then 256 else if n=322 then 257 else if n=243 then 109 else if n=246 then 146 else if n=283 then 179 else if n=284 then 180 else if n=285 then 181 else if n=286 then 182 else if n=129 then 207 else if n=317 then 206 else if n=318 then 208 else if n=319 then 209 else if n=320 then 210 else if n=337 then 237 else if n=338 then 238 else n,fun n=>if n=9 then 9 else if n=3 then 3 else if n=75 then 115 else if n=76 then 116 else if n=4 then 4 else if n=5 then 5 else if n=167 then 276 else if n=37 then 59 else if n=0 then 0 else if n=85 then 277 else if n=2 then 2 else if n=168 then 279 else if n=53 then 255 else if n=175 then 316 else if n=46 then 88 else if n=210 then 319 else if n=127 then 118 else if n=145 then 339 else if n=143 then 337 else if n=21 then 21 else if n=171 then 254 else if n=173 then 258 else if n=212 then 283 else if n=51 then 271 else if n=20 then 20 else if n=213 then 284 else if n=232 then 340 else if n=233 then 341 else if n=80 then 67 else n,fun n=>if n=15 then 6 else if n=16 then 7 else if n=17 then 3 else if n=18 then 8 else if n=19 then 9 else n⟩
theorem layAtoi:LaysC.n172 Tryz.prog rhoAtoi where
 mixed:=by kernel_rfl
 f129:=by kernel_rfl
 f171:=by kernel_rfl
 f172:=by kernel_rfl
 f205:=by kernel_rfl
 f243:=by kernel_rfl
 f244:=by kernel_rfl
 f245:=by kernel_rfl
 f246:=by kernel_rfl
 f247:=by kernel_rfl
 f279:=by kernel_rfl
 f280:=by kernel_rfl
 f281:=by kernel_rfl
 f282:=by kernel_rfl
 f283:=by kernel_rfl
 f284:=by kernel_rfl
 f285:=by kernel_rfl
 f286:=by kernel_rfl
 f287:=by kernel_rfl
 f316:=by kernel_rfl
 f317:=by kernel_rfl
 f318:=by kernel_rfl
 f319:=by kernel_rfl
 f320:=by kernel_rfl
 f321:=by kernel_rfl
 f322:=by kernel_rfl
 f337:=by kernel_rfl
 f338:=by kernel_rfl
 t0:=Tryz.underlying0
 a0:=Tryz.isAgg0
 z0:=Tryz.sizeOf0
 v0:=Tryz.zeroValue0
 t2:=Tryz.underlying2
 a2:=Tryz.isAgg2
 z2:=Tryz.sizeOf2
 v2:=Tryz.zeroValue2
 t3:=Tryz.underlying3
 a3:=Tryz.isAgg3
 z3:=Tryz.sizeOf3
 v3:=Tryz.zeroValue3
 t4:=Tryz.underlying4
 a4:=Tryz.isAgg4
 z4:=Tryz.sizeOf4
 v4:=Tryz.zeroValue4
 t5:=Tryz.underlying5
 a5:=Tryz.isAgg5
 z5:=Tryz.sizeOf5
 v5:=Tryz.zeroValue5
 t9:=Tryz.underlying9
 a9:=Tryz.isAgg9
 z9:=Tryz.sizeOf9
 v9:=Tryz.zeroValue9
 t20:=Tryz.underlying20
 a20:=Tryz.isAgg20
 z20:=Tryz.sizeOf20
 v20:=Tryz.zeroValue20
 t21:=Tryz.underlying21
 a21:=Tryz.isAgg21
 z21:=Tryz.sizeOf21
 v21:=Tryz.zeroValue21
 t37:=Tryz.underlying59
 a37:=Tryz.isAgg59
 z37:=Tryz.sizeOf59
 v37:=Tryz.zeroValue59
 t46:=Tryz.underlying88
 a46:=Tryz.isAgg88
 z46:=Tryz.sizeOf88
 v46:=Tryz.zeroValue88
 t51:=Tryz.underlying271
 a51:=Tryz.isAgg271
 z51:=Tryz.sizeOf271
 v51:=Tryz.zeroValue271
 t53:=Tryz.underlying255
 a53:=Tryz.isAgg255
 z53:=Tryz.sizeOf255
 v53:=Tryz.zeroValue255
 t75:=Tryz.underlying115
 a75:=Tryz.isAgg115
 z75:=Tryz.sizeOf115
 v75:=Tryz.zeroValue115
 t76:=Tryz.underlying116
 a76:=Tryz.isAgg116
 z76:=Tryz.sizeOf116
 v76:=Tryz.zeroValue116
 t85:=Tryz.underlying277
 a85:=Tryz.isAgg277
 z85:=Tryz.sizeOf277
 v85:=Tryz.zeroValue277
 t127:=Tryz.underlying118
 a127:=Tryz.isAgg118
 z127:=Tryz.sizeOf118
 v127:=Tryz.zeroValue118
 t143:=Tryz.underlying337
 a143:=Tryz.isAgg337
 z143:=Tryz.sizeOf337
 v143:=Tryz.zeroValue337
 t145:=Tryz.underlying339
 a145:=Tryz.isAgg339
 z145:=Tryz.sizeOf339
 v145:=Tryz.zeroValue339
 t167:=Tryz.underlying276
 a167:=Tryz.isAgg276
 z167:=Tryz.sizeOf276
 v167:=Tryz.zeroValue276
 t168:=Tryz.underlying279
 a168:=Tryz.isAgg279
 z168:=Tryz.sizeOf279
 v168:=Tryz.zeroValue279
 t171:=Tryz.underlying254
 a171:=Tryz.isAgg254
 z171:=Tryz.sizeOf254
 v171:=Tryz.zeroValue254
 t173:=Tryz.underlying258
 a173:=Tryz.isAgg258
 z173:=Tryz.sizeOf258
 v173:=Tryz.zeroValue258
 t175:=Tryz.underlying316
 a175:=Tryz.isAgg316
 z175:=Tryz.sizeOf316
 v175:=Tryz.zeroValue316
 t210:=Tryz.underlying319
 a210:=Tryz.isAgg319
 z210:=Tryz.sizeOf319
 v210:=Tryz.zeroValue319
 t212:=Tryz.underlying283
 a212:=Tryz.isAgg283
 z212:=Tryz.sizeOf283
 v212:=Tryz.zeroValue283
 t213:=Tryz.underlying284
 a213:=Tryz.isAgg284
 z213:=Tryz.sizeOf284
 t232:=Tryz.underlying340
 a232:=Tryz.isAgg340
 z232:=Tryz.sizeOf340
 v232:=Tryz.zeroValue340
 t233:=Tryz.underlying341
 a233:=Tryz.isAgg341
 z233:=Tryz.sizeOf341
 v233:=Tryz.zeroValue341
 g15:=by kernel_rfl
 g16:=by kernel_rfl
 g17:=by kernel_rfl
 g18:=by kernel_rfl
 g19:=by kernel_rfl
 t80:=Tryz.underlying67
 a80:=Tryz.isAgg67
 z80:=Tryz.sizeOf67
 v80:=Tryz.zeroValue67
 i0:=by kernel_rfl
 i2:=by kernel_rfl
 i3:=by kernel_rfl
 i4:=by kernel_rfl
 i5:=by kernel_rfl
 i9:=by kernel_rfl
 i20:=by kernel_rfl
 i21:=by kernel_rfl
 i37:=by kernel_rfl
 i46:=by kernel_rfl
 i51:=by kernel_rfl
 i53:=by kernel_rfl
 i75:=by kernel_rfl
 i76:=by kernel_rfl
 i80:=by kernel_rfl
 i85:=by kernel_rfl
 i127:=by kernel_rfl
 i143:=by kernel_rfl
 i145:=by kernel_rfl
 i167:=by kernel_rfl
 i168:=by kernel_rfl
 i171:=by kernel_rfl
 i173:=by kernel_rfl
 i175:=by kernel_rfl
 i210:=by kernel_rfl
 i212:=by kernel_rfl
 i232:=by kernel_rfl
 i233:=by kernel_rfl
 m15:=by kernel_rfl
 m16:=by kernel_rfl
 m17:=by kernel_rfl
 m18:=by kernel_rfl
 m19:=by kernel_rfl
 c0:=by kernel_rfl
 c2:=by kernel_rfl
 c3:=by kernel_rfl
 c4:=by kernel_rfl
 c5:=by kernel_rfl
 c9:=by kernel_rfl
 c20:=by kernel_rfl
 c21:=by kernel_rfl
 c37:=by kernel_rfl
 c46:=by kernel_rfl
 c51:=by kernel_rfl
 c53:=by kernel_rfl
 c75:=by kernel_rfl
 c76:=by kernel_rfl
 c80:=by kernel_rfl
 c85:=by kernel_rfl
 c127:=by kernel_rfl
 c143:=by kernel_rfl
 c145:=by kernel_rfl
 c167:=by kernel_rfl
 c168:=by kernel_rfl
 c171:=by kernel_rfl
 c173:=by kernel_rfl
 c175:=by kernel_rfl
 c210:=by kernel_rfl
 c212:=by kernel_rfl
 c213:=by kernel_rfl
 c232:=by kernel_rfl
 c233:=by kernel_rfl
end
section
open Go.RowKit Go.Shelf Go.Lib Go.Sort
def bsv(l:Bs):Value:=.string ⟨l.toArray⟩
def zbn(l:Bs):List Value:=[bsv l]
structure TxW (w:World):Prop where
 max:∃m,w.cell? ⟨1,0,none⟩=some (.int .i64 m)
 pow : TabIs Tryz.prog w "internal/strconv.uint64pow10" .u64 pow10Tab
 syn:∃ev,w.cell? ⟨6,0,none⟩=some ev∧(ev=.nilIface∨∃te pe,ev=.iface te pe)
 rng:∃ev,w.cell? ⟨7,0,none⟩=some ev∧(ev=.nilIface∨∃te pe,ev=.iface te pe)
structure TxD (w:World):Prop extends TxW w where
 asc : TabIs Tryz.prog w "strings.asciiSpace" .u8 asciiSpaceTab
theorem ziX{w:World}{g k:Nat}{v:Value}(h:w.cell? ⟨g,k,none⟩=some v):g<w.heap.size:=by
 unfold World.cell? at h
 dsimp only at h
 rcases Nat.lt_or_ge g w.heap.size with h1|h1
 ·exact h1
 ·rw[Array.getElem?_eq_none h1] at h;cases h
theorem zg6{w w':World}{g k:Nat}{v:Value}(hb:Below w.heap.size w w')(h:w.cell? ⟨g,k,none⟩=some v):w'.cell? ⟨g,k,none⟩=some v:=by
 have hl:=ziX h
 unfold World.cell? at h ⊢
 dsimp only at h ⊢
 rw[hb.block g hl];exact h
theorem tab_carry{w w':World}{name:String}{k:IntKind}{zs:List Int}(hb:Below w.heap.size w w')(h:TabIs Tryz.prog w name k zs):TabIs Tryz.prog w' name k zs:=by
 unfold TabIs World.var? at h ⊢
 cases hg:Program.globalNamed Tryz.prog name with
 |none=>rw[hg] at h;cases h
 |some g =>
  rw[hg,Option.bind_some] at h
  rw[Option.bind_some]
  rcases Nat.lt_or_ge g w.heap.size with h1|h1
  ·rw[hb.block g h1];exact h
  ·rw[Array.getElem?_eq_none h1] at h;cases h
theorem TxW.carry{w w':World}(h:TxW w)(hb:Below w.heap.size w w'):TxW w':=by
 obtain⟨⟨m,h1⟩,h2,⟨e1,h4,h5⟩,⟨e2,h6,h7⟩⟩:=h
 exact⟨⟨m,zg6 hb h1⟩,tab_carry hb h2,⟨e1,zg6 hb h4,h5⟩,⟨e2,zg6 hb h6,h7⟩⟩
theorem TxD.carry{w w':World}(h:TxD w)(hb:Below w.heap.size w w'):TxD w':=⟨h.toTxW.carry hb,tab_carry hb h.asc⟩
theorem below_drewN0{w:World}(n:Nat):Below w.heap.size w (w.drewN n):=⟨rfl,rfl,rfl,Nat.le_refl _,fun _ _=>rfl⟩
theorem below_grow{w:World}(n:Nat)(os:Array Obj):Below w.heap.size w (grow (w.drewN n) os):=by
 refine⟨rfl,rfl,rfl,?_,fun k hk=>?_⟩
 ·show w.heap.size≤(w.heap++os).size
  simp
 ·show(w.heap++os)[k]?=_
  rw[Array.getElem?_append_left hk]
theorem itoa_any(n:Int)(w:World)(h0:-9223372036854775808≤n)(h1:n≤9223372036854775807)(hT:TxW w):Calls Tryz.prog 58 #[.int .i64 n] w fun e w'=>e=.returned (bsv (itoa n))∧Below w.heap.size w w':=by
 refine(Any.strconv_Itoa layItoa n h0 h1 w hT.pow).mono ?_
 rintro e w' ⟨rfl,k,os,rfl⟩
 exact⟨rfl,below_grow k os⟩
theorem flat_str(l:List Bs):l.flatMap zbn=l.map bsv:=by
 induction l with
 |nil=>rfl
 |cons a l ih=>rw[List.flatMap_cons,List.map_cons,ih];rfl
theorem ba_eta(b:ByteArray):(⟨b.data.toList.toArray⟩:ByteArray)=b:=by cases b;simp
theorem own_alloc(w:World)(l:List Bs)(hl:l.length≤maxLen)(h0:0<l.length):Own zbn 1 9 (w.alloc (.cells (l.map bsv).toArray 9)) w.heap.size (.slice (some ⟨w.heap.size,0,none⟩) l.length l.length) l:=by
 refine⟨by rw[flat_str,List.length_map,Nat.mul_one],.inr ⟨w.heap.size,l.length,(l.map bsv).toArray,rfl,Nat.le_refl _,?_,Nat.le_refl _,hl,?_,?_⟩⟩
 ·show(w.heap.push _)[w.heap.size]?=_
  exact Array.getElem?_push_size
 ·simp
 ·rw[flat_str,Nat.mul_one,List.take_of_length_le Zj]
theorem zeQ(c:UInt8)(l:Bs)(w:World)(hl:l.length≤1000000)(hT:TxW w):Calls Tryz.prog 54 #[bsv l,bsv [c]] w fun e w'=>∃A k,e=.returned (.slice A (zas c l).length k)∧Own zbn 1 9 w' w.heap.size (.slice A (zas c l).length k) (zas c l)∧Below w.heap.size w w':=by
 obtain⟨m,hm⟩:=hT.max
 refine(Any.strings_Split laySplit (by kernel_rfl) ⟨l.toArray⟩ ⟨#[c]⟩ m w (by show l.toArray.size<_;simp;omega) hm (Nat.le_refl 1)).mono ?_
 rintro e w' ⟨rfl,rfl⟩
 have h1:=splitB_one c ⟨l.toArray⟩
 have h2:(splitB ⟨#[c]⟩ 0 (countB ⟨l.toArray⟩ ⟨#[c]⟩) ⟨l.toArray⟩).map Value.string=(zas c l).map bsv:=by
  rw[show zas c l=zas c (⟨l.toArray⟩:ByteArray).data.toList by simp,←h1,List.map_map]
  refine List.map_congr_left fun b _=>?_
  show Value.string b=Value.string ⟨b.data.toList.toArray⟩
  rw[ba_eta]
 have h3:countB ⟨l.toArray⟩ ⟨#[c]⟩+1=(zas c l).length:=by
  have:=congrArg List.length h1
  rw[List.length_map,splitB_all ⟨#[c]⟩ (Nat.le_refl 1) 0 _ _ rfl] at this
  simpa using this
 have hll:=zbW c l
 have hln:0<(zas c l).length:=by
  have:=zb3 c l
  rcases hx:zas c l with _|⟨a,b⟩
  ·exact absurd hx this
  ·simp
 rw[h2,h3]
 refine⟨_,_,rfl,?_,zaI (Below.refl _ _) _⟩
 exact own_alloc w _ (by unfold maxLen;omega) hln
theorem atoi_ok{l:Bs}{v:Int}(h:atoiAll l=.ok v)(w:World)(hl:l.length≤1000000):Calls Tryz.prog 144 #[bsv l] w fun e w'=>e=.returned (.tuple #[.int .i64 v,.nilIface])∧Below w.heap.size w w':=by
 refine(Any.strconv_Atoi_ok layAtoi ⟨l.toArray⟩ (by show l.toArray.size≤_;simp;omega) v (by simpa using h) w).mono ?_
 rintro e w' ⟨rfl,rfl|⟨t,rfl⟩⟩
 ·exact⟨rfl,Below.refl _ _⟩
 ·exact⟨rfl,bytesWorld_below _ _ _⟩
theorem atoi_no{l:Bs}(h:∀v,atoiAll l≠.ok v)(w:World)(hl:l.length≤1000000)(hT:TxW w):Calls Tryz.prog 144 #[bsv l] w fun e w'=>∃x:Int×Nat,e=.returned (.tuple #[.int .i64 x.1,.iface 279 (.pointer (some ⟨x.2,0,none⟩))])∧Mem ⟨0,[],w⟩ w' []:=by
 have hnil:∀w',Below w.heap.size w w'→Mem ⟨0,[],w⟩ w' []:=fun w' hb=>⟨Keeps.of_below hb,by simp,.nil⟩
 cases ha:atoiAll l
 case ok v=>exact absurd ha (h v)
 case range =>
  obtain⟨ev,h1,h2⟩:=hT.rng
  refine(Any.strconv_Atoi_range layAtoi ⟨l.toArray⟩ (by show l.toArray.size≤_;simp;omega) (by simpa using ha) ev w h1 h2).mono ?_
  rintro e w' ⟨N,rfl,_,_,hb⟩
  exact⟨(_,N),rfl,hnil w' hb⟩
 obtain⟨ev,h1,h2⟩:=hT.syn
 refine(Any.strconv_Atoi_syntax layAtoi ⟨l.toArray⟩ (by show l.toArray.size≤_;simp;omega) (by simpa using ha) ev w h1 h2).mono ?_
 rintro e w' ⟨N,rfl,_,_,hb⟩
 exact⟨(0,N),rfl,hnil w' hb⟩
end
section
open Go.RowKit Go.Lib
theorem Q0TxN{p R:Prop}(r:R)(h:Rest R→p:=by intro r;(first|with_reducible (first|apply zcE|apply za9|apply zba|apply zbd|apply zbe)|((with_reducible (first|apply zaN|apply zaO));exact rfl;exact rfl;(with_reducible exact rfl)));(first|((with_reducible apply zdx);exact rfl;exact rfl)|((with_reducible apply zed);exact rfl;exact rfl)|((with_reducible apply zcX);exact rfl;exact rfl)|exact QS.auto);exact rfl;exact r.out):p:=h ⟨r⟩
instance txIfaceT:IfaceT Tryz.prog 115:=⟨⟨_,Tryz.underlying115⟩⟩
theorem bsv_eq(a b:Bs):((⟨a.toArray⟩:ByteArray).data.toList == (⟨b.toArray⟩:ByteArray).data.toList)=decide (a=b):=by
 rw[Bool.eq_iff_iff];simp
section
variable {P:Program}{C:Ctx}{E:zaE}{S:List Ent}{ty ty2 ty3:Nat}{x y:Operand} 
theorem zcX{a b:Bs}(hx:evo E x=some (bsv a))(hy:evo E y=some (bsv b)):QS P C E S (.binOp .eql ty2 x y ty3) ty (.bool (decide (a=b))):=QS_eqlStr hx hy (bsv_eq a b)
end
section
variable (l:Bs)(w:World)(hl:l.length≤1000000)(hT:TxW w) 
include hl hT
theorem number_ok(v:Int)(ha:atoiAll l=.ok v)(hv0:-9223372036854775808≤v)(hv1:v≤9223372036854775807):Calls Tryz.prog 105 #[bsv l] w fun e w'=>e=.returned (.tuple #[.int .i64 v,.bool (zbD l).isSome])∧Below w.heap.size w w':=by
 refine zaj (S:=[]) [] Tryz.func105 rfl Tryz.ntmps105 Zj (Mem.nil _) ?_
 repeat' (first|refine Q0TxN ?_|refine Zga ?_|(refine Zgb ?_;intro g)|(refine Zg ?_ ?_<;>(intro h;try exact Zx))|((with_reducible (first|apply zaa|apply TD_e3z|apply zan|apply zaf|apply zae));((with_reducible apply zad (f:=144));exact rfl;(intro w hw;exact atoi_ok ha w hl);exact rfl);exact Zh;(rintro _ _ ⟨rfl,rfl⟩);(try refine⟨SUB,?_⟩))|((with_reducible (first|apply zaa|apply TD_e3z|apply zan|apply zaf|apply zae));((with_reducible apply zad (f:=58));exact rfl;(intro w hw;exact itoa_any v w hv0 hv1 (hT.carry (hw.below0 rfl)));exact rfl);exact Zh;(rintro _ _ ⟨rfl,rfl⟩);(try refine⟨SUB,?_⟩))|fail)
 all_goals
  (refine zah Tryz.results105 rfl (fun w' hw=>?_))
  refine⟨?_,hw.below0 rfl⟩
  have hr:(zbD l).isSome=(decide (itoa v=l)&&(decide (-1000000≤v)&&decide (v≤1000000))):=by
   unfold zbD
   rw[ha]
   dsimp only
   by_cases h1:itoa v=l∧-1000000≤v∧v≤1000000
   ·rw[if_pos h1,decide_eq_true h1.1,decide_eq_true h1.2.1,decide_eq_true h1.2.2];rfl
   ·rw[if_neg h1]
    symm
    show _=false
    rw[Bool.eq_false_iff]
    intro h2
    simp only[Bool.and_eq_true,decide_eq_true_eq] at h2
    exact h1 h2
  rw[hr]
  congr 4
  first|(simp[*,za0];done)|(simp[*,za0];omega)
theorem number_no(ha:∀v,atoiAll l≠.ok v):Calls Tryz.prog 105 #[bsv l] w fun e w'=>∃n,e=.returned (.tuple #[.int .i64 n,.bool false])∧Mem ⟨0,[],w⟩ w' []:=by
 refine zaj (S:=[]) [] Tryz.func105 rfl Tryz.ntmps105 Zj (Mem.nil _) ?_
 repeat' (first|refine Q0TxN ?_|refine Zga ?_|(refine Zgb ?_;intro g)|(refine Zg ?_ ?_<;>(intro h;try exact Zx))|((with_reducible (first|apply zaa|apply TD_e3z|apply zan|apply zaf|apply zae));((with_reducible apply zar (f:=144) (X:=Int×Nat) (S1:=[]) (fun x=>.tuple #[.int .i64 x.1,.iface 279 (.pointer (some ⟨x.2,0,none⟩))]) (fun _=>[]));exact rfl;exact Zp;(intro x;(try dsimp only);exact Za);(intro w hw;exact atoi_no ha w hl (hT.carry (hw.below0 rfl)));exact rfl);exact Zh;(rintro _ _ ⟨⟨x,N⟩,rfl,rfl⟩);(try refine⟨SUB,?_⟩))|fail)
 all_goals
  (refine zah Tryz.results105 rfl (fun w' hw=>?_))
  exact⟨x,rfl,(hw.anyN 0).sel Zl⟩
theorem zg7:Calls Tryz.prog 105 #[bsv l] w fun e w'=>∃x:{n:Int // ∀v,zbD l=some v→n=v},e=.returned (.tuple #[.int .i64 x.1,.bool (zbD l).isSome])∧Mem ⟨0,[],w⟩ w' []:=by
 cases ha:atoiAll l with
 |ok v =>
  have hb:=atoiAll_bounds ha
  refine(number_ok l w hl hT v ha hb.1 hb.2).mono ?_
  rintro e w' ⟨rfl,hbl⟩
  refine⟨⟨v,fun u hu=>?_⟩,rfl,⟨Keeps.of_below hbl,by simp,.nil⟩⟩
  unfold zbD at hu
  rw[ha] at hu
  dsimp only at hu
  split at hu
  ·exact Option.some.inj hu
  ·cases hu
 |_ =>
  have hn:zbD l=none:=by unfold zbD;rw[ha]
  rw[hn]
  refine(number_no l w hl hT (fun v e=>by rw[ha] at e;cases e)).mono ?_
  rintro e w' ⟨n,rfl,hm⟩
  exact⟨⟨n,fun v hv=>by cases hv⟩,rfl,hm⟩
end
end
section
open Go.RowKit Go.Lib
theorem Q0TxP{p R:Prop}(r:R)(h:Rest R→p:=by intro r;(first|with_reducible (first|apply zcE|apply za9|apply zba|apply zbd|apply zbe)|((with_reducible (first|apply zaN|apply zaO));exact rfl;exact rfl;(with_reducible exact rfl)));(first|((with_reducible apply zcX);exact rfl;exact rfl)|((with_reducible apply zig);exact rfl;exact rfl)|exact QS.auto);exact rfl;exact r.out):p:=h ⟨r⟩
section
variable {P:Program}{C:Ctx}{E:zaE}{S:List Ent}{ty ty2 ty3:Nat}{x y:Operand} 
theorem zig{a b:Bs}(hx:evo E x=some (bsv a))(hy:evo E y=some (bsv b)):QS P C E S (.binOp .neq ty2 x y ty3) ty (.bool (!decide (a=b))) :=
 QS.of (fun ac w ha _=>by
  unfold execOp
  simp only[ha.evo hx,ha.evo hy]
  have hg:(eqGuard .neq ty2 x y (bsv a) (bsv b)).run P w=.ok () w:=rfl
  have hb:(binOp .neq ty2 (bsv a) (bsv b)).run P w=.ok (.bool (!decide (a=b))) w:=by
   unfold bsv
   rw[binOp_string_neq,ByteArray.toList_eq,ByteArray.toList_eq]
   show _=Result.ok (Value.bool (!decide (a=b))) w
   rw[←bsv_eq a b];rfl
  simp only[Sem.run_bind,hg,Result.andThen_ok,hb];rfl)
end
theorem typeWords_any(w:World):Calls Tryz.prog 104 #[] w fun e w'=>∃A c,e=.returned (.slice A typeW.length c)∧Own zbn 1 9 w' w.heap.size (.slice A typeW.length c) typeW∧Below w.heap.size w w':=by
 refine zaj (S:=[]) [] Tryz.func104 rfl Tryz.ntmps104 Zj (Mem.nil _) ?_
 repeat' (first|refine Q0TxP ?_|refine Zga ?_|(refine Zgb ?_;intro g)|(refine Zg ?_ ?_<;>(intro h;try exact Zx))|fail)
 (refine zah Tryz.results104 rfl (fun w' hw=>?_))
 have hw2:Mem _ w' [zac zbn 1 9 (some ⟨g,0,none⟩) 6 typeW]:=Mem.asOwn (enc:=zbn) (M:=1) typeW (Upd.here _ _ _) rfl (fun _=>rfl) Zi hw
 exact⟨some ⟨g,0,none⟩,6,rfl,hw2.ownOut rfl Zm,hw.below0 rfl⟩
theorem zgk(w:World):Calls Tryz.prog 106 #[] w fun e w'=>∃A c,e=.returned (.slice A kindW.length c)∧Own zbn 1 9 w' w.heap.size (.slice A kindW.length c) kindW∧Below w.heap.size w w':=by
 refine zaj (S:=[]) [] Tryz.func106 rfl Tryz.ntmps106 Zj (Mem.nil _) ?_
 repeat' (first|refine Q0TxP ?_|refine Zga ?_|(refine Zgb ?_;intro g)|(refine Zg ?_ ?_<;>(intro h;try exact Zx))|fail)
 (refine zah Tryz.results106 rfl (fun w' hw=>?_))
 have hw2:Mem _ w' [zac zbn 1 9 (some ⟨g,0,none⟩) 11 kindW]:=Mem.asOwn (enc:=zbn) (M:=1) kindW (Upd.here _ _ _) rfl (fun _=>rfl) Zi hw
 exact⟨some ⟨g,0,none⟩,11,rfl,hw2.ownOut rfl Zm,hw.below0 rfl⟩
theorem bare_any(k:Int)(w:World):Calls Tryz.prog 107 #[.int .i64 k] w fun e w'=>e=.returned (.bool (zeM k))∧Below w.heap.size w w':=by
 unfold zeM
 refine zaj (S:=[]) [] Tryz.func107 rfl Tryz.ntmps107 Zj (Mem.nil _) ?_
 repeat' (first|refine Q0TxP ?_|refine Zga ?_|(refine Zgb ?_;intro g)|(refine Zg ?_ ?_<;>(intro h;try exact Zx))|fail)
 all_goals
  (refine zah Tryz.results107 rfl (fun w' hw=>?_))
  refine⟨?_,hw.below0 rfl⟩
  congr 2
  first|(simp[*,za0];done)|(simp[*,za0];omega)
theorem idxB_no{ws:List Bs}{x:Bs}(h:∀i,i<ws.length→ws.getD i []≠x):zcM ws x=-1:=by
 unfold zcM
 have:(List.range ws.length).find? (fun i=>decide (ws.getD i []=x))=none:=by
  rw[List.find?_eq_none]
  intro i hi
  simpa using h i (List.mem_range.1 hi)
 rw[this]
theorem idxB_yes{ws:List Bs}{x:Bs}{k:Nat}(hk:k<ws.length)(h:∀i,i<k→ws.getD i []≠x)(h1:ws.getD k []=x):zcM ws x=(k:Int):=by
 unfold zcM
 have:(List.range ws.length).find? (fun i=>decide (ws.getD i []=x))=some k:=by
  rw[List.find?_range_eq_some]
  exact⟨by simpa using h1,List.mem_range.2 hk,fun j hj=>by simpa using h j hj⟩
 rw[this]
section
variable (A:Option Addr)(c:Nat)(ws:List Bs)(x:Bs)(w:World)(hl:ws.length≤1000000)(hA:RdE zbn 1 w A ws) 
include hl hA
theorem zg8:Calls Tryz.prog 103 #[.slice A ws.length c,bsv x] w fun e w'=>e=.returned (.int .i64 (zcM ws x))∧Below w.heap.size w w':=by
 refine zaj (S:=[]) [] Tryz.func103 rfl Tryz.ntmps103 Zj (Mem.nil _) ?_
 repeat' (first|refine Q0TxP ?_|refine Zga ?_|(refine Zgb ?_;intro g)|(refine Zg ?_ ?_<;>(intro h;try exact Zx))|fail)
 refine zap (X:=Nat) (fun k=>[(8,.int .i64 (k:Nat)),(7,.int .i64 ws.length),(1,bsv x),(0,.slice A ws.length c)]) (fun _=>[]) (fun k=>k≤ws.length∧∀i,i<k→ws.getD i []≠x) (fun k=>ws.length-k) 0 ⟨by omega,fun i hi=>by omega⟩ Ze (by exact zaK) ?_
 rintro k ⟨hk,hno⟩
 by_cases hkl:k<ws.length
 ·obtain⟨b,o,rfl,_⟩:=RdE.open hA Zo
  have hd:ws.getD k []=ws[k]:=by simp[hkl]
  by_cases he:x=ws[k]
  ·have hr:=idxB_yes hkl hno (by rw[hd,he])
   rw[hr]
   repeat' (first|refine Q0TxP ?_|refine Zga ?_|(refine Zgb ?_;intro g)|(refine Zg ?_ ?_<;>(intro h;try exact Zx))|fail)
   all_goals first
    |(exfalso;exact absurd he (by assumption))
    |((refine zah Tryz.results103 rfl (fun w' hw=>?_));exact⟨rfl,hw.below0 rfl⟩)
  ·repeat' (first|refine Q0TxP ?_|refine Zga ?_|(refine Zgb ?_;intro g)|(refine Zg ?_ ?_<;>(intro h;try exact Zx))|fail)
   all_goals first
    |(exfalso;exact he (by assumption))
    |exact zab (k+1) ⟨hkl,fun i hi=>(Nat.lt_succ_iff_lt_or_eq.1 hi).elim (fun e=>hno i e) (fun e=>by subst e;rw[hd];exact fun h=>he h.symm)⟩ Zo Ze (by exact zaK)
 ·obtain rfl:k=ws.length:=by omega
  rw[idxB_no hno]
  repeat' (first|refine Q0TxP ?_|refine Zga ?_|(refine Zgb ?_;intro g)|(refine Zg ?_ ?_<;>(intro h;try exact Zx))|fail)
  (refine zah Tryz.results103 rfl (fun w' hw=>?_))
  exact⟨rfl,hw.below0 rfl⟩
end
end
section
open Go.RowKit Go.Lib
theorem Q0TxT{p R:Prop}(r:R)(h:Rest R→p:=by intro r;(first|with_reducible (first|apply zcE|apply za9|apply zba|apply zbd|apply zbe)|((with_reducible (first|apply zaN|apply zaO));exact rfl;exact rfl;(with_reducible exact rfl)));(first|((with_reducible apply zig (a:=ws[0]) (b:=thW));exact rfl;exact rfl)|((with_reducible apply zc6 (l:=1));exact rfl;exact rfl;omega)|((with_reducible apply zeb (o':=k+1));exact rfl;exact rfl;omega;omega)|exact QS.auto);exact rfl;exact r.out):p:=h ⟨r⟩
theorem allOf_some{α β:Type}{f:α→Option β}{g:α→β}:∀{r:List α},(∀x∈r,f x=some (g x))→zfq f r=some (r.map g)
 |[],_=>rfl
 |x::r,h=>by
  unfold zfq
  rw[h x List.mem_cons_self,allOf_some fun y hy=>h y (List.mem_cons_of_mem _ hy)];rfl
theorem allOf_none{α β:Type}{f:α→Option β}:∀{r:List α} {x:α},x∈r→f x=none→zfq f r=none
 |y::r,x,hx,h=>by
  unfold zfq
  rcases List.mem_cons.1 hx with rfl|hx
  ·rw[h]
  ·rw[allOf_none hx h]
   cases f y<;>rfl
section
variable (l:Bs)(w:World)(hl:l.length≤1000000)(hT:TxW w) 
include hl hT
theorem things_any:Calls Tryz.prog 55 #[bsv l] w fun e w'=>∃A c,e=.returned (.tuple #[.slice A ((zbj l).getD []).length c,.bool (zbj l).isSome])∧Own zag 1 3 w' w.heap.size (.slice A ((zbj l).getD []).length c) ((zbj l).getD [])∧Below w.heap.size w w':=by
 have hne:=zb3 32 l
 have hsl:=zbW 32 l
 have hR:zbj l=match zas 32 l with|w::r=>if w=thW∧1≤r.length∧r.length≤4 then zfq tyOf r else none|[]=>none:=rfl
 obtain⟨ws,hws⟩:∃ws,ws=zas 32 l:=⟨_,rfl⟩
 refine zaj (S:=[]) [] Tryz.func55 rfl Tryz.ntmps55 Zj (Mem.nil _) ?_
 repeat' (first|refine Q0TxT ?_|refine Zga ?_|(refine Zgb ?_;intro g)|(refine Zg ?_ ?_<;>(intro h;try exact Zx))|((with_reducible (first|apply zaa|apply TD_e3z|apply zan|apply zaf|apply zae));((with_reducible apply zal (f:=54));exact rfl;(intro w hw;exact zeQ 32 l w hl (hT.carry (hw.below0 rfl)));exact rfl);exact Zh;(rintro _ _ ⟨A1,c1,rfl,rfl⟩);(try refine⟨SUB,?_⟩))|fail)
 rw[←hws] at hne hsl hR ⊢
 have hpos:0<ws.length:=by
  rcases hx:ws with _|⟨a,b⟩
  ·exact absurd hx hne
  ·simp
 have hR2:zbj l=if ws[0]=thW∧2≤ws.length∧ws.length≤5 then zfq tyOf ws.tail else none:=by
  rw[hR]
  rcases ws with _|⟨a,b⟩
  ·exact absurd rfl hne
  ·simp only[List.getElem_cons_zero,List.length_cons,List.tail_cons]
   by_cases h:a=thW∧1≤b.length∧b.length≤4
   ·rw[if_pos h,if_pos ⟨h.1,by omega,by omega⟩]
   ·rw[if_neg h,if_neg (fun e=>h ⟨e.1,by omega,by omega⟩)]
 clear hR hne
 refine zfP (p:=ws.length≤c1∧(A1=none→c1=0)) (fun w hw=>hw.ownFacts (enc:=zbn) (M:=1) (et:=9) Zm) fun hf=>?_
 refine zhF (enc:=zbn) (ls:=ws) Zm Zo ?_
 rintro g1 rfl
 by_cases hc:ws[0]=thW∧2≤ws.length∧ws.length≤5
 case neg =>
  rw[if_neg hc] at hR2
  rw[hR2]
  have hc':ws[0]=thW→¬ws.length<2→¬5<ws.length→False:=fun a b c=>hc ⟨a,by omega,by omega⟩
  clear hR2 hws
  repeat' (first|refine Q0TxT ?_|refine Zga ?_|(refine Zgb ?_;intro g)|(refine Zg ?_ ?_<;>(intro h;try exact Zx))|fail)
  all_goals first
   |((refine zah Tryz.results55 rfl (fun w' hw=>?_));exact⟨none,0,rfl,Own.nil _ _,hw.below0 rfl⟩)
   |(exfalso;exact hc' (by assumption) Zo Zo)
 rw[if_pos hc] at hR2
 obtain⟨hc0,hc1,hc2⟩:=hc
 have htl:ws.tail.length=ws.length-1:=by simp
 have htg:∀k (h:k+1<ws.length) (h2:k<ws.tail.length),ws.tail[k]=ws[k+1]:=fun k h h2=>by simp
 repeat' (first|refine Q0TxT ?_|refine Zga ?_|(refine Zgb ?_;intro g)|(refine Zg ?_ ?_<;>(intro h;try exact Zx))|fail)
 all_goals first|(exfalso;omega)|(exfalso;contradiction)|skip
 rw[if_neg (show ¬c1=1 by omega)]
 refine zap (X:=Nat×Option Addr×Nat) (fun x=>[(28,.int .i64 (x.1:Nat)),(27,.int .i64 ((ws.length-1:Nat):Int)),(26,.slice (some ⟨g1,0+1 * 1,none⟩) (ws.length-1) (c1-1)),(5,.slice x.2.1 ((ws.tail.take x.1).map (zcM typeW)).length x.2.2)]) (fun x=>[zac zag 1 3 x.2.1 x.2.2 ((ws.tail.take x.1).map (zcM typeW)),zac zbn 1 9 (some ⟨g1,0,none⟩) c1 ws])
  (fun x=>x.1≤ws.length-1∧∀i (hi:i<ws.tail.length),i<x.1→1≤zcM typeW ws.tail[i]) (fun x=>ws.length-1-x.1) (0,none,0) ⟨by(try dsimp only);omega,fun i hi h=>absurd h (Nat.not_lt_zero _)⟩ (by(try dsimp only);exact Ze) (fun w' hw=>by(show Mem _ w' [zac zag 1 3 none 0 [],zac zbn 1 9 (some ⟨g1,0,none⟩) c1 ws]);exact(hw.nilOwn zag 1 3).sel Zl) ?_
 rintro⟨k,A3,c3⟩ ⟨hk,hok⟩
 dsimp only at hk hok ⊢
 have hKl:((ws.tail.take k).map (zcM typeW)).length=k:=by rw[List.length_map,List.length_take,htl];omega
 by_cases hkl:k<ws.length-1
 ·have hk1:k+1<ws.length:=by omega
  have hg:=htg k Zo Zo
  have hks:(ws.tail.take (k+1)).map (zcM typeW)=(ws.tail.take k).map (zcM typeW)++[zcM typeW ws[k+1]]:=by
   rw[List.take_succ_eq_append_getElem Zo,List.map_append,hg];rfl
  have hx0:=zcy typeW ws[k+1]
  have hbd:-1≤zcM typeW ws[k+1]∧zcM typeW ws[k+1]<6:=by
   rcases hx0 with h|⟨i,h1,h2,_⟩
   ·omega
   ·have:typeW.length=6:=rfl
    omega
  have hno:zcM typeW ws[k+1]<1→zfq tyOf ws.tail=none:=fun h=>by
   refine allOf_none (x:=ws[k+1]) (by rw[←hg];exact List.getElem_mem _) ?_
   unfold tyOf
   rw[if_neg Zo]
  have hnx:¬zcM typeW ws[k+1]<1→∀i (hi:i<ws.tail.length),i<k+1→1≤zcM typeW ws.tail[i]:=fun h i hi hik=>by
   rcases Nat.lt_succ_iff_lt_or_eq.1 hik with h1|rfl
   ·exact hok i hi h1
   ·rw[hg];omega
  clear hok htg hg
  generalize (ws.tail.take k).map (zcM typeW)=K at *
  have hix:=fun A c w h=>zg8 A c typeW ws[k+1] w Zi h
  generalize zcM typeW ws[k+1]=ix at *
  repeat' (first|refine Q0TxT ?_|refine Zga ?_|(refine Zgb ?_;intro g)|(refine Zg ?_ ?_<;>(intro h;try exact Zx))|((with_reducible (first|apply zaa|apply TD_e3z|apply zan|apply zaf|apply zae));((with_reducible apply zal (f:=104));exact rfl;(intro w hw;exact typeWords_any w);exact rfl);exact Zh;(rintro _ _ ⟨A2,c2,rfl,rfl⟩);(try refine⟨SUB,?_⟩))|((with_reducible (first|apply zaa|apply TD_e3z|apply zan|apply zaf|apply zae));((with_reducible apply zad (f:=103));exact rfl;(intro w hw;exact hix A2 c2 w (hw.ownRd Zm (fun _=>rfl)));exact rfl);exact Zh;(rintro _ _ ⟨rfl,rfl⟩);(try refine⟨SUB,?_⟩))|((with_reducible (first|apply zaa|apply TD_e3z|apply zan|apply zaf|apply zae));((with_reducible apply zaw (enc:=zag) (xx:=ix));exact rfl;exact rfl;exact Zm;exact rfl;exact fun _=>rfl;exact fun _=>rfl;(intro A' c';exact Zu);(omega);decide;exact rfl);exact Zh;(rintro _ _ ⟨A',c',rfl,rfl⟩);(try refine⟨SUB,?_⟩))|fail)
  all_goals first
   |((refine zah Tryz.results55 rfl (fun w' hw=>?_));rw[hR2,hno Zo];exact⟨none,0,rfl,Own.nil _ _,hw.below0 rfl⟩)
   |(apply zab (k+1,A',c');(case hE=>(try dsimp only);rw[hks];exact Ze);(case hS=>(try dsimp only);rw[hks];exact fun w' hw=>hw.sel Zl);(case hμ=>(try dsimp only);omega);(case hp=>exact⟨by(try dsimp only);omega,hnx Zo⟩))
 ·obtain rfl:k=ws.length-1:=by omega
  have hall:zfq tyOf ws.tail=some (ws.tail.map (zcM typeW)):=allOf_some fun x hx=>by
   obtain⟨i,hi,rfl⟩:=List.mem_iff_getElem.1 hx
   have:=hok i hi Zo
   unfold tyOf
   rw[if_pos this]
  rw[hR2,hall,show ws.tail.take (ws.length-1)=ws.tail by rw[List.take_of_length_le Zo]]
  repeat' (first|refine Q0TxT ?_|refine Zga ?_|(refine Zgb ?_;intro g)|(refine Zg ?_ ?_<;>(intro h;try exact Zx))|fail)
  (refine zah Tryz.results55 rfl (fun w' hw=>?_))
  exact⟨A3,c3,rfl,hw.ownOut rfl Zm,hw.below0 rfl⟩
end
end
end Go.Proofs.YtjdckepbihcgfaaGreatDoor
