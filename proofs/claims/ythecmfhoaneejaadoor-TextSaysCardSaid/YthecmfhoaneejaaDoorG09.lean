/- Lemmas for the walks (TxL, TxC, TxN, TxP). No condition. -/
import Derived.Test.YthecmfhoaneejaaDoorProg
import Derived.Shelf.Strings.Split
import Derived.Shelf.Strings.Cut
import Derived.Shelf.Strings.Fields
import Derived.Shelf.Strconv.Itoa3
import Derived.Shelf.Strconv.AtoiAll
import Derived.Test.YthecmfhoaneejaaDoorG04
import Derived.Test.YthecmfhoaneejaaDoorG05
set_option linter.unusedSimpArgs false
set_option linter.unusedVariables false
set_option linter.unusedSectionVars false
set_option linter.unnecessarySimpa false
namespace Go.Proofs.YthecmfhoaneejaaDoor
open Go.RowKit Go.Shelf

def rhoSplit : Ren := ⟨fun n => if n = 146 then 18 else if n = 221 then 34 else if n = 268 then 50 else if n = 138 then 51 else if n = 143 then 52 else if n = 195 then 63 else if n = 197 then 64 else if n = 218 then 65 else if n = 219 then 56 else if n = 260 then 78 else if n = 217 then 69 else if n = 225 then 70 else if n = 224 then 71 else if n = 267 then 72 else if n = 266 then 86 else if n = 314 then 87 else n, fun n => if n = 9 then 9 else if n = 31 then 46 else if n = 3 then 3 else if n = 4 then 4 else if n = 0 then 0 else if n = 105 then 97 else if n = 21 then 21 else if n = 5 then 5 else if n = 46 then 107 else if n = 119 then 85 else if n = 139 then 134 else if n = 138 then 133 else if n = 146 then 129 else if n = 51 then 104 else n, fun n => if n = 1 then 2 else if n = 3 then 4 else if n = 4 then 5 else n⟩
set_option maxRecDepth 100000 in
theorem laySplit : Lays.n146 Tryd.prog rhoSplit where
  mixed := by kernel_rfl
  f138 := by kernel_rfl
  f143 := by kernel_rfl
  f146 := by kernel_rfl
  f195 := by kernel_rfl
  f197 := by kernel_rfl
  f217 := by kernel_rfl
  f218 := by kernel_rfl
  f219 := by kernel_rfl
  f221 := by kernel_rfl
  f224 := by kernel_rfl
  f225 := by kernel_rfl
  f260 := by kernel_rfl
  f266 := by kernel_rfl
  f267 := by kernel_rfl
  f268 := by kernel_rfl
  f314 := by kernel_rfl
  t0 := Tryd.underlying0
  a0 := Tryd.isAgg0
  z0 := Tryd.sizeOf0
  v0 := Tryd.zeroValue0
  t3 := Tryd.underlying3
  a3 := Tryd.isAgg3
  z3 := Tryd.sizeOf3
  v3 := Tryd.zeroValue3
  t4 := Tryd.underlying4
  a4 := Tryd.isAgg4
  z4 := Tryd.sizeOf4
  v4 := Tryd.zeroValue4
  t5 := Tryd.underlying5
  a5 := Tryd.isAgg5
  z5 := Tryd.sizeOf5
  v5 := Tryd.zeroValue5
  t9 := Tryd.underlying9
  a9 := Tryd.isAgg9
  z9 := Tryd.sizeOf9
  v9 := Tryd.zeroValue9
  t21 := Tryd.underlying21
  a21 := Tryd.isAgg21
  z21 := Tryd.sizeOf21
  v21 := Tryd.zeroValue21
  t31 := Tryd.underlying46
  a31 := Tryd.isAgg46
  z31 := Tryd.sizeOf46
  v31 := Tryd.zeroValue46
  t46 := Tryd.underlying107
  a46 := Tryd.isAgg107
  z46 := Tryd.sizeOf107
  v46 := Tryd.zeroValue107
  t51 := Tryd.underlying104
  a51 := Tryd.isAgg104
  z51 := Tryd.sizeOf104
  v51 := Tryd.zeroValue104
  t105 := Tryd.underlying97
  a105 := Tryd.isAgg97
  z105 := Tryd.sizeOf97
  v105 := Tryd.zeroValue97
  t119 := Tryd.underlying85
  a119 := Tryd.isAgg85
  z119 := Tryd.sizeOf85
  t138 := Tryd.underlying133
  a138 := Tryd.isAgg133
  z138 := Tryd.sizeOf133
  v138 := Tryd.zeroValue133
  t139 := Tryd.underlying134
  a139 := Tryd.isAgg134
  z139 := Tryd.sizeOf134
  v139 := Tryd.zeroValue134
  t146 := Tryd.underlying129
  a146 := Tryd.isAgg129
  z146 := Tryd.sizeOf129
  v146 := Tryd.zeroValue129
  g1 := by kernel_rfl
  g3 := by kernel_rfl
  g4 := by kernel_rfl
def rhoCut : Ren := ⟨fun n => if n = 145 then 28 else if n = 220 then 41 else if n = 219 then 56 else if n = 217 then 69 else if n = 225 then 70 else if n = 224 then 71 else if n = 267 then 72 else if n = 266 then 86 else if n = 314 then 87 else n, fun n => if n = 9 then 9 else if n = 4 then 4 else if n = 59 then 63 else if n = 3 then 3 else if n = 5 then 5 else if n = 46 then 107 else if n = 146 then 129 else if n = 51 then 104 else n, fun n => if n = 1 then 2 else n⟩
set_option maxRecDepth 100000 in
theorem layCut : Lays.n145 Tryd.prog rhoCut where
  mixed := by kernel_rfl
  f145 := by kernel_rfl
  f217 := by kernel_rfl
  f219 := by kernel_rfl
  f220 := by kernel_rfl
  f224 := by kernel_rfl
  f225 := by kernel_rfl
  f266 := by kernel_rfl
  f267 := by kernel_rfl
  f314 := by kernel_rfl
  t3 := Tryd.underlying3
  a3 := Tryd.isAgg3
  z3 := Tryd.sizeOf3
  v3 := Tryd.zeroValue3
  t4 := Tryd.underlying4
  a4 := Tryd.isAgg4
  z4 := Tryd.sizeOf4
  v4 := Tryd.zeroValue4
  t5 := Tryd.underlying5
  a5 := Tryd.isAgg5
  z5 := Tryd.sizeOf5
  v5 := Tryd.zeroValue5
  t9 := Tryd.underlying9
  a9 := Tryd.isAgg9
  z9 := Tryd.sizeOf9
  v9 := Tryd.zeroValue9
  t46 := Tryd.underlying107
  a46 := Tryd.isAgg107
  z46 := Tryd.sizeOf107
  v46 := Tryd.zeroValue107
  t51 := Tryd.underlying104
  a51 := Tryd.isAgg104
  z51 := Tryd.sizeOf104
  v51 := Tryd.zeroValue104
  t59 := Tryd.underlying63
  a59 := Tryd.isAgg63
  z59 := Tryd.sizeOf63
  v59 := Tryd.zeroValue63
  t146 := Tryd.underlying129
  a146 := Tryd.isAgg129
  z146 := Tryd.sizeOf129
  v146 := Tryd.zeroValue129
  g1 := by kernel_rfl
def rhoFields : Ren := ⟨fun n => if n = 157 then 38 else if n = 229 then 54 else if n = 199 then 55 else if n = 261 then 68 else if n = 311 then 84 else if n = 312 then 85 else n, fun n => if n = 9 then 9 else if n = 31 then 46 else if n = 3 then 3 else if n = 5 then 5 else if n = 4 then 4 else if n = 119 then 85 else if n = 0 then 0 else if n = 40 then 87 else if n = 152 then 101 else if n = 21 then 21 else if n = 154 then 103 else if n = 51 then 104 else if n = 141 then 106 else if n = 196 then 121 else if n = 193 then 118 else if n = 198 then 124 else if n = 49 then 122 else if n = 194 then 119 else if n = 201 then 127 else if n = 226 then 141 else if n = 46 then 107 else if n = 227 then 142 else n, fun n => if n = 0 then 0 else if n = 6 then 1 else n⟩
set_option maxRecDepth 100000 in
theorem layFields : Lays.n157 Tryd.prog rhoFields where
  mixed := by kernel_rfl
  f157 := by kernel_rfl
  f199 := by kernel_rfl
  f229 := by kernel_rfl
  f261 := by kernel_rfl
  f311 := by kernel_rfl
  f312 := by kernel_rfl
  t0 := Tryd.underlying0
  a0 := Tryd.isAgg0
  z0 := Tryd.sizeOf0
  v0 := Tryd.zeroValue0
  t3 := Tryd.underlying3
  a3 := Tryd.isAgg3
  z3 := Tryd.sizeOf3
  v3 := Tryd.zeroValue3
  t4 := Tryd.underlying4
  a4 := Tryd.isAgg4
  z4 := Tryd.sizeOf4
  v4 := Tryd.zeroValue4
  t5 := Tryd.underlying5
  a5 := Tryd.isAgg5
  z5 := Tryd.sizeOf5
  v5 := Tryd.zeroValue5
  t9 := Tryd.underlying9
  a9 := Tryd.isAgg9
  z9 := Tryd.sizeOf9
  v9 := Tryd.zeroValue9
  t21 := Tryd.underlying21
  a21 := Tryd.isAgg21
  z21 := Tryd.sizeOf21
  v21 := Tryd.zeroValue21
  t31 := Tryd.underlying46
  a31 := Tryd.isAgg46
  z31 := Tryd.sizeOf46
  v31 := Tryd.zeroValue46
  t40 := Tryd.underlying87
  a40 := Tryd.isAgg87
  z40 := Tryd.sizeOf87
  v40 := Tryd.zeroValue87
  t46 := Tryd.underlying107
  a46 := Tryd.isAgg107
  z46 := Tryd.sizeOf107
  v46 := Tryd.zeroValue107
  t49 := Tryd.underlying122
  a49 := Tryd.isAgg122
  z49 := Tryd.sizeOf122
  v49 := Tryd.zeroValue122
  t51 := Tryd.underlying104
  a51 := Tryd.isAgg104
  z51 := Tryd.sizeOf104
  v51 := Tryd.zeroValue104
  t119 := Tryd.underlying85
  a119 := Tryd.isAgg85
  z119 := Tryd.sizeOf85
  t141 := Tryd.underlying106
  a141 := Tryd.isAgg106
  z141 := Tryd.sizeOf106
  v141 := Tryd.zeroValue106
  t152 := Tryd.underlying101
  a152 := Tryd.isAgg101
  z152 := Tryd.sizeOf101
  v152 := Tryd.zeroValue101
  t154 := Tryd.underlying103
  a154 := Tryd.isAgg103
  z154 := Tryd.sizeOf103
  v154 := Tryd.zeroValue103
  t193 := Tryd.underlying118
  a193 := Tryd.isAgg118
  z193 := Tryd.sizeOf118
  v193 := Tryd.zeroValue118
  t194 := Tryd.underlying119
  a194 := Tryd.isAgg119
  z194 := Tryd.sizeOf119
  v194 := Tryd.zeroValue119
  t196 := Tryd.underlying121
  a196 := Tryd.isAgg121
  z196 := Tryd.sizeOf121
  v196 := Tryd.zeroValue121
  t198 := Tryd.underlying124
  a198 := Tryd.isAgg124
  z198 := Tryd.sizeOf124
  v198 := Tryd.zeroValue124
  t201 := Tryd.underlying127
  a201 := Tryd.isAgg127
  z201 := Tryd.sizeOf127
  v201 := Tryd.zeroValue127
  t226 := Tryd.underlying141
  a226 := Tryd.isAgg141
  z226 := Tryd.sizeOf141
  v226 := Tryd.zeroValue141
  t227 := Tryd.underlying142
  a227 := Tryd.isAgg142
  z227 := Tryd.sizeOf142
  v227 := Tryd.zeroValue142
  g0 := by kernel_rfl
  g6 := by kernel_rfl
def rhoItoa : Ren := ⟨fun n => if n = 171 then 14 else if n = 243 then 33 else if n = 246 then 49 else if n = 283 then 59 else if n = 284 then 60 else if n = 285 then 61 else if n = 286 then 62 else if n = 129 then 74 else if n = 317 then 73 else if n = 318 then 75 else if n = 319 then 76 else if n = 320 then 77 else if n = 337 then 88 else if n = 338 then 89 else n, fun n => if n = 3 then 3 else if n = 9 then 9 else if n = 2 then 2 else if n = 4 then 4 else if n = 171 then 90 else if n = 0 then 0 else if n = 53 then 91 else if n = 37 then 39 else if n = 5 then 5 else if n = 173 then 94 else if n = 212 then 109 else if n = 51 then 104 else if n = 20 then 20 else if n = 213 then 110 else if n = 46 then 107 else if n = 232 then 143 else if n = 233 then 144 else n, fun n => if n = 17 then 3 else if n = 18 then 8 else if n = 19 then 9 else n⟩
set_option maxRecDepth 100000 in
theorem layItoa : LaysM.n171 Tryd.prog rhoItoa where
  mixed := by kernel_rfl
  f129 := by kernel_rfl
  f171 := by kernel_rfl
  f243 := by kernel_rfl
  f246 := by kernel_rfl
  f283 := by kernel_rfl
  f284 := by kernel_rfl
  f285 := by kernel_rfl
  f286 := by kernel_rfl
  f317 := by kernel_rfl
  f318 := by kernel_rfl
  f319 := by kernel_rfl
  f320 := by kernel_rfl
  f337 := by kernel_rfl
  f338 := by kernel_rfl
  t0 := Tryd.underlying0
  a0 := Tryd.isAgg0
  z0 := Tryd.sizeOf0
  v0 := Tryd.zeroValue0
  t2 := Tryd.underlying2
  a2 := Tryd.isAgg2
  z2 := Tryd.sizeOf2
  v2 := Tryd.zeroValue2
  t3 := Tryd.underlying3
  a3 := Tryd.isAgg3
  z3 := Tryd.sizeOf3
  v3 := Tryd.zeroValue3
  t4 := Tryd.underlying4
  a4 := Tryd.isAgg4
  z4 := Tryd.sizeOf4
  v4 := Tryd.zeroValue4
  t5 := Tryd.underlying5
  a5 := Tryd.isAgg5
  z5 := Tryd.sizeOf5
  v5 := Tryd.zeroValue5
  t9 := Tryd.underlying9
  a9 := Tryd.isAgg9
  z9 := Tryd.sizeOf9
  v9 := Tryd.zeroValue9
  t20 := Tryd.underlying20
  a20 := Tryd.isAgg20
  z20 := Tryd.sizeOf20
  v20 := Tryd.zeroValue20
  t37 := Tryd.underlying39
  a37 := Tryd.isAgg39
  z37 := Tryd.sizeOf39
  v37 := Tryd.zeroValue39
  t46 := Tryd.underlying107
  a46 := Tryd.isAgg107
  z46 := Tryd.sizeOf107
  v46 := Tryd.zeroValue107
  t51 := Tryd.underlying104
  a51 := Tryd.isAgg104
  z51 := Tryd.sizeOf104
  v51 := Tryd.zeroValue104
  t53 := Tryd.underlying91
  a53 := Tryd.isAgg91
  z53 := Tryd.sizeOf91
  v53 := Tryd.zeroValue91
  t171 := Tryd.underlying90
  a171 := Tryd.isAgg90
  z171 := Tryd.sizeOf90
  v171 := Tryd.zeroValue90
  t173 := Tryd.underlying94
  a173 := Tryd.isAgg94
  z173 := Tryd.sizeOf94
  v173 := Tryd.zeroValue94
  t212 := Tryd.underlying109
  a212 := Tryd.isAgg109
  z212 := Tryd.sizeOf109
  v212 := Tryd.zeroValue109
  t213 := Tryd.underlying110
  a213 := Tryd.isAgg110
  z213 := Tryd.sizeOf110
  t232 := Tryd.underlying143
  a232 := Tryd.isAgg143
  z232 := Tryd.sizeOf143
  v232 := Tryd.zeroValue143
  t233 := Tryd.underlying144
  a233 := Tryd.isAgg144
  z233 := Tryd.sizeOf144
  v233 := Tryd.zeroValue144
  g17 := by kernel_rfl
  g18 := by kernel_rfl
  g19 := by kernel_rfl
  i0 := by kernel_rfl
  i2 := by kernel_rfl
  i3 := by kernel_rfl
  i4 := by kernel_rfl
  i5 := by kernel_rfl
  i9 := by kernel_rfl
  i20 := by kernel_rfl
  i37 := by kernel_rfl
  i46 := by kernel_rfl
  i51 := by kernel_rfl
  i53 := by kernel_rfl
  i171 := by kernel_rfl
  i173 := by kernel_rfl
  i212 := by kernel_rfl
  i232 := by kernel_rfl
  i233 := by kernel_rfl
  m17 := by kernel_rfl
  m18 := by kernel_rfl
  m19 := by kernel_rfl
def rhoAtoi : Ren := ⟨fun n => if n = 172 then 53 else if n = 244 then 66 else if n = 245 then 67 else if n = 247 then 79 else if n = 279 then 80 else if n = 280 then 81 else if n = 281 then 82 else if n = 282 then 83 else if n = 287 then 90 else if n = 316 then 91 else if n = 171 then 14 else if n = 205 then 92 else if n = 321 then 93 else if n = 322 then 94 else if n = 243 then 33 else if n = 246 then 49 else if n = 283 then 59 else if n = 284 then 60 else if n = 285 then 61 else if n = 286 then 62 else if n = 129 then 74 else if n = 317 then 73 else if n = 318 then 75 else if n = 319 then 76 else if n = 320 then 77 else if n = 337 then 88 else if n = 338 then 89 else n, fun n => if n = 9 then 9 else if n = 3 then 3 else if n = 75 then 43 else if n = 76 then 44 else if n = 4 then 4 else if n = 5 then 5 else if n = 167 then 112 else if n = 37 then 39 else if n = 0 then 0 else if n = 85 then 113 else if n = 2 then 2 else if n = 168 then 115 else if n = 53 then 91 else if n = 175 then 135 else if n = 46 then 107 else if n = 210 then 139 else if n = 127 then 71 else if n = 145 then 149 else if n = 143 then 147 else if n = 21 then 21 else if n = 171 then 90 else if n = 173 then 94 else if n = 212 then 109 else if n = 51 then 104 else if n = 20 then 20 else if n = 213 then 110 else if n = 232 then 143 else if n = 233 then 144 else if n = 80 then 50 else n, fun n => if n = 15 then 6 else if n = 16 then 7 else if n = 17 then 3 else if n = 18 then 8 else if n = 19 then 9 else n⟩
set_option maxRecDepth 100000 in
theorem layAtoi : LaysC.n172 Tryd.prog rhoAtoi where
  mixed := by kernel_rfl
  f129 := by kernel_rfl
  f171 := by kernel_rfl
  f172 := by kernel_rfl
  f205 := by kernel_rfl
  f243 := by kernel_rfl
  f244 := by kernel_rfl
  f245 := by kernel_rfl
  f246 := by kernel_rfl
  f247 := by kernel_rfl
  f279 := by kernel_rfl
  f280 := by kernel_rfl
  f281 := by kernel_rfl
  f282 := by kernel_rfl
  f283 := by kernel_rfl
  f284 := by kernel_rfl
  f285 := by kernel_rfl
  f286 := by kernel_rfl
  f287 := by kernel_rfl
  f316 := by kernel_rfl
  f317 := by kernel_rfl
  f318 := by kernel_rfl
  f319 := by kernel_rfl
  f320 := by kernel_rfl
  f321 := by kernel_rfl
  f322 := by kernel_rfl
  f337 := by kernel_rfl
  f338 := by kernel_rfl
  t0 := Tryd.underlying0
  a0 := Tryd.isAgg0
  z0 := Tryd.sizeOf0
  v0 := Tryd.zeroValue0
  t2 := Tryd.underlying2
  a2 := Tryd.isAgg2
  z2 := Tryd.sizeOf2
  v2 := Tryd.zeroValue2
  t3 := Tryd.underlying3
  a3 := Tryd.isAgg3
  z3 := Tryd.sizeOf3
  v3 := Tryd.zeroValue3
  t4 := Tryd.underlying4
  a4 := Tryd.isAgg4
  z4 := Tryd.sizeOf4
  v4 := Tryd.zeroValue4
  t5 := Tryd.underlying5
  a5 := Tryd.isAgg5
  z5 := Tryd.sizeOf5
  v5 := Tryd.zeroValue5
  t9 := Tryd.underlying9
  a9 := Tryd.isAgg9
  z9 := Tryd.sizeOf9
  v9 := Tryd.zeroValue9
  t20 := Tryd.underlying20
  a20 := Tryd.isAgg20
  z20 := Tryd.sizeOf20
  v20 := Tryd.zeroValue20
  t21 := Tryd.underlying21
  a21 := Tryd.isAgg21
  z21 := Tryd.sizeOf21
  v21 := Tryd.zeroValue21
  t37 := Tryd.underlying39
  a37 := Tryd.isAgg39
  z37 := Tryd.sizeOf39
  v37 := Tryd.zeroValue39
  t46 := Tryd.underlying107
  a46 := Tryd.isAgg107
  z46 := Tryd.sizeOf107
  v46 := Tryd.zeroValue107
  t51 := Tryd.underlying104
  a51 := Tryd.isAgg104
  z51 := Tryd.sizeOf104
  v51 := Tryd.zeroValue104
  t53 := Tryd.underlying91
  a53 := Tryd.isAgg91
  z53 := Tryd.sizeOf91
  v53 := Tryd.zeroValue91
  t75 := Tryd.underlying43
  a75 := Tryd.isAgg43
  z75 := Tryd.sizeOf43
  v75 := Tryd.zeroValue43
  t76 := Tryd.underlying44
  a76 := Tryd.isAgg44
  z76 := Tryd.sizeOf44
  v76 := Tryd.zeroValue44
  t85 := Tryd.underlying113
  a85 := Tryd.isAgg113
  z85 := Tryd.sizeOf113
  v85 := Tryd.zeroValue113
  t127 := Tryd.underlying71
  a127 := Tryd.isAgg71
  z127 := Tryd.sizeOf71
  v127 := Tryd.zeroValue71
  t143 := Tryd.underlying147
  a143 := Tryd.isAgg147
  z143 := Tryd.sizeOf147
  v143 := Tryd.zeroValue147
  t145 := Tryd.underlying149
  a145 := Tryd.isAgg149
  z145 := Tryd.sizeOf149
  v145 := Tryd.zeroValue149
  t167 := Tryd.underlying112
  a167 := Tryd.isAgg112
  z167 := Tryd.sizeOf112
  v167 := Tryd.zeroValue112
  t168 := Tryd.underlying115
  a168 := Tryd.isAgg115
  z168 := Tryd.sizeOf115
  v168 := Tryd.zeroValue115
  t171 := Tryd.underlying90
  a171 := Tryd.isAgg90
  z171 := Tryd.sizeOf90
  v171 := Tryd.zeroValue90
  t173 := Tryd.underlying94
  a173 := Tryd.isAgg94
  z173 := Tryd.sizeOf94
  v173 := Tryd.zeroValue94
  t175 := Tryd.underlying135
  a175 := Tryd.isAgg135
  z175 := Tryd.sizeOf135
  v175 := Tryd.zeroValue135
  t210 := Tryd.underlying139
  a210 := Tryd.isAgg139
  z210 := Tryd.sizeOf139
  v210 := Tryd.zeroValue139
  t212 := Tryd.underlying109
  a212 := Tryd.isAgg109
  z212 := Tryd.sizeOf109
  v212 := Tryd.zeroValue109
  t213 := Tryd.underlying110
  a213 := Tryd.isAgg110
  z213 := Tryd.sizeOf110
  t232 := Tryd.underlying143
  a232 := Tryd.isAgg143
  z232 := Tryd.sizeOf143
  v232 := Tryd.zeroValue143
  t233 := Tryd.underlying144
  a233 := Tryd.isAgg144
  z233 := Tryd.sizeOf144
  v233 := Tryd.zeroValue144
  g15 := by kernel_rfl
  g16 := by kernel_rfl
  g17 := by kernel_rfl
  g18 := by kernel_rfl
  g19 := by kernel_rfl
  t80 := Tryd.underlying50
  a80 := Tryd.isAgg50
  z80 := Tryd.sizeOf50
  v80 := Tryd.zeroValue50
  i0 := by kernel_rfl
  i2 := by kernel_rfl
  i3 := by kernel_rfl
  i4 := by kernel_rfl
  i5 := by kernel_rfl
  i9 := by kernel_rfl
  i20 := by kernel_rfl
  i21 := by kernel_rfl
  i37 := by kernel_rfl
  i46 := by kernel_rfl
  i51 := by kernel_rfl
  i53 := by kernel_rfl
  i75 := by kernel_rfl
  i76 := by kernel_rfl
  i80 := by kernel_rfl
  i85 := by kernel_rfl
  i127 := by kernel_rfl
  i143 := by kernel_rfl
  i145 := by kernel_rfl
  i167 := by kernel_rfl
  i168 := by kernel_rfl
  i171 := by kernel_rfl
  i173 := by kernel_rfl
  i175 := by kernel_rfl
  i210 := by kernel_rfl
  i212 := by kernel_rfl
  i232 := by kernel_rfl
  i233 := by kernel_rfl
  m15 := by kernel_rfl
  m16 := by kernel_rfl
  m17 := by kernel_rfl
  m18 := by kernel_rfl
  m19 := by kernel_rfl
  c0 := by kernel_rfl
  c2 := by kernel_rfl
  c3 := by kernel_rfl
  c4 := by kernel_rfl
  c5 := by kernel_rfl
  c9 := by kernel_rfl
  c20 := by kernel_rfl
  c21 := by kernel_rfl
  c37 := by kernel_rfl
  c46 := by kernel_rfl
  c51 := by kernel_rfl
  c53 := by kernel_rfl
  c75 := by kernel_rfl
  c76 := by kernel_rfl
  c80 := by kernel_rfl
  c85 := by kernel_rfl
  c127 := by kernel_rfl
  c143 := by kernel_rfl
  c145 := by kernel_rfl
  c167 := by kernel_rfl
  c168 := by kernel_rfl
  c171 := by kernel_rfl
  c173 := by kernel_rfl
  c175 := by kernel_rfl
  c210 := by kernel_rfl
  c212 := by kernel_rfl
  c213 := by kernel_rfl
  c232 := by kernel_rfl
  c233 := by kernel_rfl
end Go.Proofs.YthecmfhoaneejaaDoor

namespace Go.Proofs.YthecmfhoaneejaaDoor
open Go.RowKit Go.Shelf Go.Lib Go.Sort
set_option linter.unusedSectionVars false

def bsv (l : Bs) : Value := .string ⟨l.toArray⟩
def strEnc (l : Bs) : List Value := [bsv l]
/-- what lies in the library's variables -/
structure TxW (w : World) : Prop where
  max : ∃ m, w.cell? ⟨2, 0, none⟩ = some (.int .i64 m)
  pow : TabIs Tryd.prog w "internal/strconv.uint64pow10" .u64 pow10Tab
  asc : TabIs Tryd.prog w "strings.asciiSpace" .u8 asciiSpaceTab
  syn : ∃ ev, w.cell? ⟨6, 0, none⟩ = some ev ∧ (ev = .nilIface ∨ ∃ te pe, ev = .iface te pe)
  rng : ∃ ev, w.cell? ⟨7, 0, none⟩ = some ev ∧ (ev = .nilIface ∨ ∃ te pe, ev = .iface te pe)
theorem cell_lt {w : World} {g k : Nat} {v : Value} (h : w.cell? ⟨g, k, none⟩ = some v) : g < w.heap.size := by
  unfold World.cell? at h
  dsimp only at h
  rcases Nat.lt_or_ge g w.heap.size with h1 | h1
  · exact h1
  · rw [Array.getElem?_eq_none h1] at h; cases h
theorem cell_carry {w w' : World} {g k : Nat} {v : Value} (hb : Below w.heap.size w w') (h : w.cell? ⟨g, k, none⟩ = some v) : w'.cell? ⟨g, k, none⟩ = some v := by
  have hl := cell_lt h
  unfold World.cell? at h ⊢
  dsimp only at h ⊢
  rw [hb.block g hl]; exact h
theorem tab_carry {w w' : World} {name : String} {k : IntKind} {zs : List Int} (hb : Below w.heap.size w w') (h : TabIs Tryd.prog w name k zs) : TabIs Tryd.prog w' name k zs := by
  unfold TabIs World.var? at h ⊢
  cases hg : Program.globalNamed Tryd.prog name with
  | none => rw [hg] at h; cases h
  | some g =>
    rw [hg, Option.bind_some] at h
    rw [Option.bind_some]
    rcases Nat.lt_or_ge g w.heap.size with h1 | h1
    · rw [hb.block g h1]; exact h
    · rw [Array.getElem?_eq_none h1] at h; cases h
theorem TxW.carry {w w' : World} (h : TxW w) (hb : Below w.heap.size w w') : TxW w' := by
  obtain ⟨⟨m, h1⟩, h2, h3, ⟨e1, h4, h5⟩, ⟨e2, h6, h7⟩⟩ := h
  exact ⟨⟨m, cell_carry hb h1⟩, tab_carry hb h2, tab_carry hb h3, ⟨e1, cell_carry hb h4, h5⟩, ⟨e2, cell_carry hb h6, h7⟩⟩
theorem below_drewN0 {w : World} (n : Nat) : Below w.heap.size w (w.drewN n) := ⟨rfl, rfl, rfl, Nat.le_refl _, fun _ _ => rfl⟩
theorem below_grow {w : World} (n : Nat) (os : Array Obj) : Below w.heap.size w (grow (w.drewN n) os) := by
  refine ⟨rfl, rfl, rfl, ?_, fun k hk => ?_⟩
  · show w.heap.size ≤ (w.heap ++ os).size
    simp
  · show (w.heap ++ os)[k]? = _
    rw [Array.getElem?_append_left hk]
theorem itoa_any (n : Int) (w : World) (h0 : -9223372036854775808 ≤ n) (h1 : n ≤ 9223372036854775807) (hT : TxW w) : Calls Tryd.prog 14 #[.int .i64 n] w fun e w' => e = .returned (bsv (itoa n)) ∧ Below w.heap.size w w' := by
  refine (Any.strconv_Itoa layItoa n h0 h1 w hT.pow).mono ?_
  rintro e w' ⟨rfl, k, os, rfl⟩
  exact ⟨rfl, below_grow k os⟩
theorem flat_str (l : List Bs) : l.flatMap strEnc = l.map bsv := by
  induction l with
  | nil => rfl
  | cons a l ih => rw [List.flatMap_cons, List.map_cons, ih]; rfl
theorem ba_eta (b : ByteArray) : (⟨b.data.toList.toArray⟩ : ByteArray) = b := by cases b; simp
theorem own_alloc (w : World) (l : List Bs) (hl : l.length ≤ maxLen) (h0 : 0 < l.length) : Own strEnc 1 9 (w.alloc (.cells (l.map bsv).toArray 9)) w.heap.size (.slice (some ⟨w.heap.size, 0, none⟩) l.length l.length) l := by
  refine ⟨by rw [flat_str, List.length_map, Nat.mul_one], .inr ⟨w.heap.size, l.length, (l.map bsv).toArray, rfl, Nat.le_refl _, ?_, Nat.le_refl _, hl, ?_, ?_⟩⟩
  · show (w.heap.push _)[w.heap.size]? = _
    exact Array.getElem?_push_size
  · simp
  · rw [flat_str, Nat.mul_one, List.take_of_length_le (by simp)]
theorem split_any (c : UInt8) (l : Bs) (w : World) (hl : l.length ≤ 1000000) (hT : TxW w) : Calls Tryd.prog 18 #[bsv l, bsv [c]] w fun e w' => ∃ A k, e = .returned (.slice A (splitL c l).length k) ∧ Own strEnc 1 9 w' w.heap.size (.slice A (splitL c l).length k) (splitL c l) ∧ Below w.heap.size w w' := by
  obtain ⟨m, hm⟩ := hT.max
  refine (Any.strings_Split laySplit (by kernel_rfl) ⟨l.toArray⟩ ⟨#[c]⟩ m w (by show l.toArray.size < _; simp; omega) hm (Nat.le_refl 1)).mono ?_
  rintro e w' ⟨rfl, rfl⟩
  have h1 := splitB_one c ⟨l.toArray⟩
  have h2 : (splitB ⟨#[c]⟩ 0 (countB ⟨l.toArray⟩ ⟨#[c]⟩) ⟨l.toArray⟩).map Value.string = (splitL c l).map bsv := by
    rw [show splitL c l = splitL c (⟨l.toArray⟩ : ByteArray).data.toList by simp, ← h1, List.map_map]
    refine List.map_congr_left fun b _ => ?_
    show Value.string b = Value.string ⟨b.data.toList.toArray⟩
    rw [ba_eta]
  have h3 : countB ⟨l.toArray⟩ ⟨#[c]⟩ + 1 = (splitL c l).length := by
    have := congrArg List.length h1
    rw [List.length_map, splitB_all ⟨#[c]⟩ (Nat.le_refl 1) 0 _ _ rfl] at this
    simpa using this
  have hll := splitL_len c l
  have hln : 0 < (splitL c l).length := by
    have := splitL_ne c l
    rcases hx : splitL c l with _ | ⟨a, b⟩
    · exact absurd hx this
    · simp
  rw [h2, h3]
  refine ⟨_, _, rfl, ?_, bel_alloc (Below.refl _ _) _⟩
  exact own_alloc w _ (by unfold maxLen; omega) hln
/-- strconv.Atoi -/
theorem atoi_ok {l : Bs} {v : Int} (h : atoiAll l = .ok v) (w : World) (hl : l.length ≤ 1000000) : Calls Tryd.prog 53 #[bsv l] w fun e w' => e = .returned (.tuple #[.int .i64 v, .nilIface]) ∧ Below w.heap.size w w' := by
  refine (Any.strconv_Atoi_ok layAtoi ⟨l.toArray⟩ (by show l.toArray.size ≤ _; simp; omega) v (by simpa using h) w).mono ?_
  rintro e w' ⟨rfl, rfl | ⟨t, rfl⟩⟩
  · exact ⟨rfl, Below.refl _ _⟩
  · exact ⟨rfl, bytesWorld_below _ _ _⟩
theorem atoi_no {l : Bs} (h : ∀ v, atoiAll l ≠ .ok v) (w : World) (hl : l.length ≤ 1000000) (hT : TxW w) : Calls Tryd.prog 53 #[bsv l] w fun e w' => ∃ x : Int × Nat, e = .returned (.tuple #[.int .i64 x.1, .iface 115 (.pointer (some ⟨x.2, 0, none⟩))]) ∧ Mem ⟨0, [], w⟩ w' [] := by
  have hnil : ∀ w', Below w.heap.size w w' → Mem ⟨0, [], w⟩ w' [] := fun w' hb => ⟨Keeps.of_below hb, by simp, .nil⟩
  cases ha : atoiAll l
  case ok v => exact absurd ha (h v)
  case range =>
    obtain ⟨ev, h1, h2⟩ := hT.rng
    refine (Any.strconv_Atoi_range layAtoi ⟨l.toArray⟩ (by show l.toArray.size ≤ _; simp; omega) (by simpa using ha) ev w h1 h2).mono ?_
    rintro e w' ⟨N, rfl, _, _, hb⟩
    exact ⟨(_, N), rfl, hnil w' hb⟩
  obtain ⟨ev, h1, h2⟩ := hT.syn
  refine (Any.strconv_Atoi_syntax layAtoi ⟨l.toArray⟩ (by show l.toArray.size ≤ _; simp; omega) (by simpa using ha) ev w h1 h2).mono ?_
  rintro e w' ⟨N, rfl, _, _, hb⟩
  exact ⟨(0, N), rfl, hnil w' hb⟩
end Go.Proofs.YthecmfhoaneejaaDoor

namespace Go.Proofs.YthecmfhoaneejaaDoor
open Go.RowKit Go.Lib
set_option linter.unusedSectionVars false

instance : IfaceT Tryd.prog 43 := ⟨⟨_, Tryd.underlying43⟩⟩
theorem bsv_eq (a b : Bs) : ((⟨a.toArray⟩ : ByteArray).data.toList == (⟨b.toArray⟩ : ByteArray).data.toList) = decide (a = b) := by
  rw [Bool.eq_iff_iff]; simp
section
variable {P : Program} {C : Ctx} {E : Slots} {S : List Ent} {ty ty2 ty3 : Nat} {x y : Operand}
theorem QS_eqlBs {a b : Bs} (hx : evo E x = some (bsv a)) (hy : evo E y = some (bsv b)) : QS P C E S (.binOp .eql ty2 x y ty3) ty (.bool (decide (a = b))) := QS_eqlStr hx hy (bsv_eq a b)
end
section
variable (l : Bs) (w : World) (hl : l.length ≤ 1000000) (hT : TxW w)
include hl hT
set_option maxRecDepth 100000 in
set_option maxHeartbeats 4000000 in
theorem number_ok (v : Int) (ha : atoiAll l = .ok v) (hv0 : -9223372036854775808 ≤ v) (hv1 : v ≤ 9223372036854775807) : Calls Tryd.prog 36 #[bsv l] w fun e w' => e = .returned (.tuple #[.int .i64 v, .bool (numR l).isSome]) ∧ Below w.heap.size w w' := by
  refine calls_T (S := []) [] Tryd.func36 rfl Tryd.ntmps36 (by simp) (Mem.nil _) ?_
  repeat' (first | ((first | with_reducible (first | apply TL_q | apply TD_q0 | apply TD_q1 | apply TD_q2 | apply TD_q3) | ((with_reducible (first | apply TD_q0y | apply TD_q1y)); exact rfl; exact rfl; (with_reducible exact rfl))); (first | ((with_reducible apply QS_ifaceSome); exact rfl; exact rfl) | ((with_reducible apply QS_ifaceNil); exact rfl; exact rfl) | ((with_reducible apply QS_eqlBs); exact rfl; exact rfl) | exact QS.auto); exact rfl) | (refine GO ?_) | (refine GOE ?_; (first | (rintro _ _ ⟨rfl, rfl⟩) | (rintro _ _ ⟨g, rfl, rfl⟩) | (rintro _ _ ⟨A', c', rfl, rfl⟩))) | ((refine GO2 ?_ ?_) <;> intro h <;> (try (repeat (first | with_reducible (replace h := of_decide_eq_true h) | with_reducible (replace h := of_decide_eq_false h) | with_reducible (replace h := bnt h) | with_reducible (replace h := bnf h) | with_reducible (replace h := Int.not_lt.mp h) | with_reducible (replace h := Int.not_le.mp h) | with_reducible (replace h := band_dec h) | with_reducible (replace h := band_decF h) | with_reducible (replace h := bor_dec h) | with_reducible (replace h := bor_decF h)))) <;> (try (exfalso; first | contradiction | omega))) | ((with_reducible (first | apply TD_e2z | apply TD_e3z | apply TL_e | apply TD_e2 | apply TD_e3)); ((with_reducible apply ES_callV (f := 53)); exact rfl; (intro w hw; exact atoi_ok ha w hl); exact rfl); (first | exact rfl | exact ⟨rfl, rfl, rfl⟩); (rintro _ _ ⟨rfl, rfl⟩); (try refine ⟨SUB, ?_⟩)) | ((with_reducible (first | apply TD_e2z | apply TD_e3z | apply TL_e | apply TD_e2 | apply TD_e3)); ((with_reducible apply ES_callV (f := 14)); exact rfl; (intro w hw; exact itoa_any v w hv0 hv1 (hT.carry (hw.below0 rfl))); exact rfl); (first | exact rfl | exact ⟨rfl, rfl, rfl⟩); (rintro _ _ ⟨rfl, rfl⟩); (try refine ⟨SUB, ?_⟩)) | fail)
  all_goals
    (refine At_ret Tryd.results36 rfl (fun w' hw => ?_))
    refine ⟨?_, hw.below0 rfl⟩
    have hr : (numR l).isSome = (decide (itoa v = l) && (decide (-1000000 ≤ v) && decide (v ≤ 1000000))) := by
      unfold numR
      rw [ha]
      dsimp only
      by_cases h1 : itoa v = l ∧ -1000000 ≤ v ∧ v ≤ 1000000
      · rw [if_pos h1, decide_eq_true h1.1, decide_eq_true h1.2.1, decide_eq_true h1.2.2]; rfl
      · rw [if_neg h1]
        symm
        show _ = false
        rw [Bool.eq_false_iff]
        intro h2
        simp only [Bool.and_eq_true, decide_eq_true_eq] at h2
        exact h1 h2
    rw [hr]
    congr 4
    first | (simp [*, resVal]; done) | (simp [*, resVal]; omega)
set_option maxRecDepth 100000 in
set_option maxHeartbeats 4000000 in
theorem number_no (ha : ∀ v, atoiAll l ≠ .ok v) : Calls Tryd.prog 36 #[bsv l] w fun e w' => ∃ n, e = .returned (.tuple #[.int .i64 n, .bool false]) ∧ Mem ⟨0, [], w⟩ w' [] := by
  refine calls_T (S := []) [] Tryd.func36 rfl Tryd.ntmps36 (by simp) (Mem.nil _) ?_
  repeat' (first | ((first | with_reducible (first | apply TL_q | apply TD_q0 | apply TD_q1 | apply TD_q2 | apply TD_q3) | ((with_reducible (first | apply TD_q0y | apply TD_q1y)); exact rfl; exact rfl; (with_reducible exact rfl))); (first | ((with_reducible apply QS_ifaceSome); exact rfl; exact rfl) | ((with_reducible apply QS_ifaceNil); exact rfl; exact rfl) | ((with_reducible apply QS_eqlBs); exact rfl; exact rfl) | exact QS.auto); exact rfl) | (refine GO ?_) | (refine GOE ?_; (first | (rintro _ _ ⟨rfl, rfl⟩) | (rintro _ _ ⟨g, rfl, rfl⟩) | (rintro _ _ ⟨A', c', rfl, rfl⟩))) | ((refine GO2 ?_ ?_) <;> intro h <;> (try (repeat (first | with_reducible (replace h := of_decide_eq_true h) | with_reducible (replace h := of_decide_eq_false h) | with_reducible (replace h := bnt h) | with_reducible (replace h := bnf h) | with_reducible (replace h := Int.not_lt.mp h) | with_reducible (replace h := Int.not_le.mp h) | with_reducible (replace h := band_dec h) | with_reducible (replace h := band_decF h) | with_reducible (replace h := bor_dec h) | with_reducible (replace h := bor_decF h)))) <;> (try (exfalso; first | contradiction | omega))) | ((with_reducible (first | apply TD_e2z | apply TD_e3z | apply TL_e | apply TD_e2 | apply TD_e3)); ((with_reducible apply ES_callX (f := 53) (X := Int × Nat) (S1 := []) (fun x => .tuple #[.int .i64 x.1, .iface 115 (.pointer (some ⟨x.2, 0, none⟩))]) (fun _ => [])); exact rfl; ((repeat (first | exact Pull.nil _ | (apply Pull.cons; (repeat (first | with_reducible exact Pick.here _ _ | with_reducible apply Pick.there)))))); (intro x; (try dsimp only); repeat (first | exact AppL.nil _ | apply AppL.cons)); (intro w hw; exact atoi_no ha w hl (hT.carry (hw.below0 rfl))); exact rfl); (first | exact rfl | exact ⟨rfl, rfl, rfl⟩); (rintro _ _ ⟨⟨x, N⟩, rfl, rfl⟩); (try refine ⟨SUB, ?_⟩)) | fail)
  all_goals
    (refine At_ret Tryd.results36 rfl (fun w' hw => ?_))
    exact ⟨x, rfl, (hw.anyN 0).sel (by (repeat (first | exact Sel.nil _ | (apply Sel.cons; (repeat (first | with_reducible exact Pick.here _ _ | with_reducible apply Pick.there))))))⟩
/-- a number is read -/
theorem number_any : Calls Tryd.prog 36 #[bsv l] w fun e w' => ∃ x : {n : Int // ∀ v, numR l = some v → n = v}, e = .returned (.tuple #[.int .i64 x.1, .bool (numR l).isSome]) ∧ Mem ⟨0, [], w⟩ w' [] := by
  cases ha : atoiAll l with
  | ok v =>
    have hb := atoiAll_bounds ha
    refine (number_ok l w hl hT v ha hb.1 hb.2).mono ?_
    rintro e w' ⟨rfl, hbl⟩
    refine ⟨⟨v, fun u hu => ?_⟩, rfl, ⟨Keeps.of_below hbl, by simp, .nil⟩⟩
    unfold numR at hu
    rw [ha] at hu
    dsimp only at hu
    split at hu
    · exact Option.some.inj hu
    · cases hu
  | _ =>
    have hn : numR l = none := by unfold numR; rw [ha]
    rw [hn]
    refine (number_no l w hl hT (fun v e => by rw [ha] at e; cases e)).mono ?_
    rintro e w' ⟨n, rfl, hm⟩
    exact ⟨⟨n, fun v hv => by cases hv⟩, rfl, hm⟩
end
end Go.Proofs.YthecmfhoaneejaaDoor

namespace Go.Proofs.YthecmfhoaneejaaDoor
open Go.RowKit Go.Lib
set_option linter.unusedSectionVars false

section
variable {P : Program} {C : Ctx} {E : Slots} {S : List Ent} {ty ty2 ty3 : Nat} {x y : Operand}
theorem QS_neqBs {a b : Bs} (hx : evo E x = some (bsv a)) (hy : evo E y = some (bsv b)) : QS P C E S (.binOp .neq ty2 x y ty3) ty (.bool (!decide (a = b))) :=
  QS.of (fun ac w ha _ => by
    unfold execOp
    simp only [ha.evo hx, ha.evo hy]
    have hg : (eqGuard .neq ty2 x y (bsv a) (bsv b)).run P w = .ok () w := rfl
    have hb : (binOp .neq ty2 (bsv a) (bsv b)).run P w = .ok (.bool (!decide (a = b))) w := by
      unfold bsv
      rw [binOp_string_neq, ByteArray.toList_eq, ByteArray.toList_eq]
      show _ = Result.ok (Value.bool (!decide (a = b))) w
      rw [← bsv_eq a b]; rfl
    simp only [Sem.run_bind, hg, Result.andThen_ok, hb]; rfl)
end
set_option maxRecDepth 100000 in
theorem typeWords_any (w : World) : Calls Tryd.prog 13 #[] w fun e w' => ∃ A c, e = .returned (.slice A typeW.length c) ∧ Own strEnc 1 9 w' w.heap.size (.slice A typeW.length c) typeW ∧ Below w.heap.size w w' := by
  refine calls_T (S := []) [] Tryd.func13 rfl Tryd.ntmps13 (by simp) (Mem.nil _) ?_
  repeat' (first | ((first | with_reducible (first | apply TL_q | apply TD_q0 | apply TD_q1 | apply TD_q2 | apply TD_q3) | ((with_reducible (first | apply TD_q0y | apply TD_q1y)); exact rfl; exact rfl; (with_reducible exact rfl))); (first | ((with_reducible apply QS_eqlBs); exact rfl; exact rfl) | ((with_reducible apply QS_neqBs); exact rfl; exact rfl) | exact QS.auto); exact rfl) | (refine GO ?_) | (refine GOE ?_; (first | (rintro _ _ ⟨rfl, rfl⟩) | (rintro _ _ ⟨g, rfl, rfl⟩) | (rintro _ _ ⟨A', c', rfl, rfl⟩))) | ((refine GO2 ?_ ?_) <;> intro h <;> (try (repeat (first | with_reducible (replace h := of_decide_eq_true h) | with_reducible (replace h := of_decide_eq_false h) | with_reducible (replace h := bnt h) | with_reducible (replace h := bnf h) | with_reducible (replace h := Int.not_lt.mp h) | with_reducible (replace h := Int.not_le.mp h) | with_reducible (replace h := band_dec h) | with_reducible (replace h := band_decF h) | with_reducible (replace h := bor_dec h) | with_reducible (replace h := bor_decF h)))) <;> (try (exfalso; first | contradiction | omega))) | fail)
  (refine At_ret Tryd.results13 rfl (fun w' hw => ?_))
  have hw2 : Mem _ w' [entOwn strEnc 1 9 (some ⟨g, 0, none⟩) 6 typeW] := Mem.asOwn (enc := strEnc) (M := 1) typeW (Upd.here _ _ _) rfl (fun _ => rfl) (by decide) hw
  exact ⟨some ⟨g, 0, none⟩, 6, rfl, hw2.ownOut rfl (by first | ((repeat (first | with_reducible exact List.mem_cons_self | with_reducible apply List.mem_cons_of_mem)); done) | (repeat (first | exact List.Mem.head _ | apply List.Mem.tail))), hw.below0 rfl⟩
set_option maxRecDepth 100000 in
theorem kindWords_any (w : World) : Calls Tryd.prog 15 #[] w fun e w' => ∃ A c, e = .returned (.slice A kindW.length c) ∧ Own strEnc 1 9 w' w.heap.size (.slice A kindW.length c) kindW ∧ Below w.heap.size w w' := by
  refine calls_T (S := []) [] Tryd.func15 rfl Tryd.ntmps15 (by simp) (Mem.nil _) ?_
  repeat' (first | ((first | with_reducible (first | apply TL_q | apply TD_q0 | apply TD_q1 | apply TD_q2 | apply TD_q3) | ((with_reducible (first | apply TD_q0y | apply TD_q1y)); exact rfl; exact rfl; (with_reducible exact rfl))); (first | ((with_reducible apply QS_eqlBs); exact rfl; exact rfl) | ((with_reducible apply QS_neqBs); exact rfl; exact rfl) | exact QS.auto); exact rfl) | (refine GO ?_) | (refine GOE ?_; (first | (rintro _ _ ⟨rfl, rfl⟩) | (rintro _ _ ⟨g, rfl, rfl⟩) | (rintro _ _ ⟨A', c', rfl, rfl⟩))) | ((refine GO2 ?_ ?_) <;> intro h <;> (try (repeat (first | with_reducible (replace h := of_decide_eq_true h) | with_reducible (replace h := of_decide_eq_false h) | with_reducible (replace h := bnt h) | with_reducible (replace h := bnf h) | with_reducible (replace h := Int.not_lt.mp h) | with_reducible (replace h := Int.not_le.mp h) | with_reducible (replace h := band_dec h) | with_reducible (replace h := band_decF h) | with_reducible (replace h := bor_dec h) | with_reducible (replace h := bor_decF h)))) <;> (try (exfalso; first | contradiction | omega))) | fail)
  (refine At_ret Tryd.results15 rfl (fun w' hw => ?_))
  have hw2 : Mem _ w' [entOwn strEnc 1 9 (some ⟨g, 0, none⟩) 11 kindW] := Mem.asOwn (enc := strEnc) (M := 1) kindW (Upd.here _ _ _) rfl (fun _ => rfl) (by decide) hw
  exact ⟨some ⟨g, 0, none⟩, 11, rfl, hw2.ownOut rfl (by first | ((repeat (first | with_reducible exact List.mem_cons_self | with_reducible apply List.mem_cons_of_mem)); done) | (repeat (first | exact List.Mem.head _ | apply List.Mem.tail))), hw.below0 rfl⟩
set_option maxRecDepth 100000 in
theorem bare_any (k : Int) (w : World) : Calls Tryd.prog 16 #[.int .i64 k] w fun e w' => e = .returned (.bool (bareB k)) ∧ Below w.heap.size w w' := by
  unfold bareB
  refine calls_T (S := []) [] Tryd.func16 rfl Tryd.ntmps16 (by simp) (Mem.nil _) ?_
  repeat' (first | ((first | with_reducible (first | apply TL_q | apply TD_q0 | apply TD_q1 | apply TD_q2 | apply TD_q3) | ((with_reducible (first | apply TD_q0y | apply TD_q1y)); exact rfl; exact rfl; (with_reducible exact rfl))); (first | ((with_reducible apply QS_eqlBs); exact rfl; exact rfl) | ((with_reducible apply QS_neqBs); exact rfl; exact rfl) | exact QS.auto); exact rfl) | (refine GO ?_) | (refine GOE ?_; (first | (rintro _ _ ⟨rfl, rfl⟩) | (rintro _ _ ⟨g, rfl, rfl⟩) | (rintro _ _ ⟨A', c', rfl, rfl⟩))) | ((refine GO2 ?_ ?_) <;> intro h <;> (try (repeat (first | with_reducible (replace h := of_decide_eq_true h) | with_reducible (replace h := of_decide_eq_false h) | with_reducible (replace h := bnt h) | with_reducible (replace h := bnf h) | with_reducible (replace h := Int.not_lt.mp h) | with_reducible (replace h := Int.not_le.mp h) | with_reducible (replace h := band_dec h) | with_reducible (replace h := band_decF h) | with_reducible (replace h := bor_dec h) | with_reducible (replace h := bor_decF h)))) <;> (try (exfalso; first | contradiction | omega))) | fail)
  all_goals
    (refine At_ret Tryd.results16 rfl (fun w' hw => ?_))
    refine ⟨?_, hw.below0 rfl⟩
    congr 2
    first | (simp [*, resVal]; done) | (simp [*, resVal]; omega)
theorem idxB_no {ws : List Bs} {x : Bs} (h : ∀ i, i < ws.length → ws.getD i [] ≠ x) : idxB ws x = -1 := by
  unfold idxB
  have : (List.range ws.length).find? (fun i => decide (ws.getD i [] = x)) = none := by
    rw [List.find?_eq_none]
    intro i hi
    simpa using h i (List.mem_range.1 hi)
  rw [this]
theorem idxB_yes {ws : List Bs} {x : Bs} {k : Nat} (hk : k < ws.length) (h : ∀ i, i < k → ws.getD i [] ≠ x) (h1 : ws.getD k [] = x) : idxB ws x = (k : Int) := by
  unfold idxB
  have : (List.range ws.length).find? (fun i => decide (ws.getD i [] = x)) = some k := by
    rw [List.find?_range_eq_some]
    exact ⟨by simpa using h1, List.mem_range.2 hk, fun j hj => by simpa using h j hj⟩
  rw [this]
section
variable (A : Option Addr) (c : Nat) (ws : List Bs) (x : Bs) (w : World) (hl : ws.length ≤ 1000000) (hA : RdE strEnc 1 w A ws)
include hl hA
set_option maxRecDepth 100000 in
theorem indexS_any : Calls Tryd.prog 35 #[.slice A ws.length c, bsv x] w fun e w' => e = .returned (.int .i64 (idxB ws x)) ∧ Below w.heap.size w w' := by
  refine calls_T (S := []) [] Tryd.func35 rfl Tryd.ntmps35 (by simp) (Mem.nil _) ?_
  repeat' (first | ((first | with_reducible (first | apply TL_q | apply TD_q0 | apply TD_q1 | apply TD_q2 | apply TD_q3) | ((with_reducible (first | apply TD_q0y | apply TD_q1y)); exact rfl; exact rfl; (with_reducible exact rfl))); (first | ((with_reducible apply QS_eqlBs); exact rfl; exact rfl) | ((with_reducible apply QS_neqBs); exact rfl; exact rfl) | exact QS.auto); exact rfl) | (refine GO ?_) | (refine GOE ?_; (first | (rintro _ _ ⟨rfl, rfl⟩) | (rintro _ _ ⟨g, rfl, rfl⟩) | (rintro _ _ ⟨A', c', rfl, rfl⟩))) | ((refine GO2 ?_ ?_) <;> intro h <;> (try (repeat (first | with_reducible (replace h := of_decide_eq_true h) | with_reducible (replace h := of_decide_eq_false h) | with_reducible (replace h := bnt h) | with_reducible (replace h := bnf h) | with_reducible (replace h := Int.not_lt.mp h) | with_reducible (replace h := Int.not_le.mp h) | with_reducible (replace h := band_dec h) | with_reducible (replace h := band_decF h) | with_reducible (replace h := bor_dec h) | with_reducible (replace h := bor_decF h)))) <;> (try (exfalso; first | contradiction | omega))) | fail)
  refine T_loop (X := Nat) (fun k => [(8, .int .i64 (k : Nat)), (7, .int .i64 ws.length), (1, bsv x), (0, .slice A ws.length c)]) (fun _ => []) (fun k => k ≤ ws.length ∧ ∀ i, i < k → ws.getD i [] ≠ x) (fun k => ws.length - k) 0 ⟨by omega, fun i hi => by omega⟩ (by (repeat (first | exact SubE.nil _ | refine SubE.cons rfl ?_))) (by exact SUBS) ?_
  rintro k ⟨hk, hno⟩
  by_cases hkl : k < ws.length
  · obtain ⟨b, o, rfl, _⟩ := RdE.open hA (by omega)
    have hd : ws.getD k [] = ws[k] := by simp [hkl]
    by_cases he : x = ws[k]
    · have hr := idxB_yes hkl hno (by rw [hd, he])
      rw [hr]
      repeat' (first | ((first | with_reducible (first | apply TL_q | apply TD_q0 | apply TD_q1 | apply TD_q2 | apply TD_q3) | ((with_reducible (first | apply TD_q0y | apply TD_q1y)); exact rfl; exact rfl; (with_reducible exact rfl))); (first | ((with_reducible apply QS_eqlBs); exact rfl; exact rfl) | ((with_reducible apply QS_neqBs); exact rfl; exact rfl) | exact QS.auto); exact rfl) | (refine GO ?_) | (refine GOE ?_; (first | (rintro _ _ ⟨rfl, rfl⟩) | (rintro _ _ ⟨g, rfl, rfl⟩) | (rintro _ _ ⟨A', c', rfl, rfl⟩))) | ((refine GO2 ?_ ?_) <;> intro h <;> (try (repeat (first | with_reducible (replace h := of_decide_eq_true h) | with_reducible (replace h := of_decide_eq_false h) | with_reducible (replace h := bnt h) | with_reducible (replace h := bnf h) | with_reducible (replace h := Int.not_lt.mp h) | with_reducible (replace h := Int.not_le.mp h) | with_reducible (replace h := band_dec h) | with_reducible (replace h := band_decF h) | with_reducible (replace h := bor_dec h) | with_reducible (replace h := bor_decF h)))) <;> (try (exfalso; first | contradiction | omega))) | fail)
      all_goals first
        | (exfalso; exact absurd he (by assumption))
        | ((refine At_ret Tryd.results35 rfl (fun w' hw => ?_)); exact ⟨rfl, hw.below0 rfl⟩)
    · repeat' (first | ((first | with_reducible (first | apply TL_q | apply TD_q0 | apply TD_q1 | apply TD_q2 | apply TD_q3) | ((with_reducible (first | apply TD_q0y | apply TD_q1y)); exact rfl; exact rfl; (with_reducible exact rfl))); (first | ((with_reducible apply QS_eqlBs); exact rfl; exact rfl) | ((with_reducible apply QS_neqBs); exact rfl; exact rfl) | exact QS.auto); exact rfl) | (refine GO ?_) | (refine GOE ?_; (first | (rintro _ _ ⟨rfl, rfl⟩) | (rintro _ _ ⟨g, rfl, rfl⟩) | (rintro _ _ ⟨A', c', rfl, rfl⟩))) | ((refine GO2 ?_ ?_) <;> intro h <;> (try (repeat (first | with_reducible (replace h := of_decide_eq_true h) | with_reducible (replace h := of_decide_eq_false h) | with_reducible (replace h := bnt h) | with_reducible (replace h := bnf h) | with_reducible (replace h := Int.not_lt.mp h) | with_reducible (replace h := Int.not_le.mp h) | with_reducible (replace h := band_dec h) | with_reducible (replace h := band_decF h) | with_reducible (replace h := bor_dec h) | with_reducible (replace h := bor_decF h)))) <;> (try (exfalso; first | contradiction | omega))) | fail)
      all_goals first
        | (exfalso; exact he (by assumption))
        | exact At_rounds (k + 1) ⟨hkl, fun i hi => (Nat.lt_succ_iff_lt_or_eq.1 hi).elim (fun e => hno i e) (fun e => by subst e; rw [hd]; exact fun h => he h.symm)⟩ (by omega) (by (repeat (first | exact SubE.nil _ | refine SubE.cons rfl ?_))) (by exact SUBS)
  · obtain rfl : k = ws.length := by omega
    rw [idxB_no hno]
    repeat' (first | ((first | with_reducible (first | apply TL_q | apply TD_q0 | apply TD_q1 | apply TD_q2 | apply TD_q3) | ((with_reducible (first | apply TD_q0y | apply TD_q1y)); exact rfl; exact rfl; (with_reducible exact rfl))); (first | ((with_reducible apply QS_eqlBs); exact rfl; exact rfl) | ((with_reducible apply QS_neqBs); exact rfl; exact rfl) | exact QS.auto); exact rfl) | (refine GO ?_) | (refine GOE ?_; (first | (rintro _ _ ⟨rfl, rfl⟩) | (rintro _ _ ⟨g, rfl, rfl⟩) | (rintro _ _ ⟨A', c', rfl, rfl⟩))) | ((refine GO2 ?_ ?_) <;> intro h <;> (try (repeat (first | with_reducible (replace h := of_decide_eq_true h) | with_reducible (replace h := of_decide_eq_false h) | with_reducible (replace h := bnt h) | with_reducible (replace h := bnf h) | with_reducible (replace h := Int.not_lt.mp h) | with_reducible (replace h := Int.not_le.mp h) | with_reducible (replace h := band_dec h) | with_reducible (replace h := band_decF h) | with_reducible (replace h := bor_dec h) | with_reducible (replace h := bor_decF h)))) <;> (try (exfalso; first | contradiction | omega))) | fail)
    (refine At_ret Tryd.results35 rfl (fun w' hw => ?_))
    exact ⟨rfl, hw.below0 rfl⟩
end
end Go.Proofs.YthecmfhoaneejaaDoor
