/-
  Part 4 of the proof: the second reading of the model, its laws, and the functions' contracts. Lemmas alone.
-/
import Derived.Shelf.Strings.SlTrimAscii
import Derived.Shelf.LaysM
import Derived.Shelf.LaysC
import Derived.Shelf.Strconv.ParseIntPublic10
import Derived.Shelf.Strings.Search3
import Derived.Shelf.Strings.Count
import Derived.Shelf.Strings.Split
import Derived.Shelf.Strings.Replace
import Derived.Shelf.Strings.IndexAnyAll
import Derived.Test.YtjnmckakmljejaaGreatDoorA2
import Derived.Test.YtjnmckakmljejaaGreatDoorA3
set_option linter.unusedSectionVars false
set_option linter.unusedVariables false
set_option linter.unusedSimpArgs false
noncomputable section
namespace Go.Proofs
open Go.Shelf
def Tryz.lays161_ren : Go.Shelf.Ren := ⟨fun | 161 => 94 | 231 => 107 | 227 => 108 | 233 => 109 | 235 => 110 | 228 => 131 | 197 => 114 | 151 => 132 | 260 => 137 | 152 => 144 | 137 => 49 | 119 => 156 | 224 => 129 | 225 => 128 | 217 => 75 | 266 => 90 | n => n, fun | 9 => 9 | 4 => 4 | 3 => 3 | 5 => 5 | 117 => 137 | 116 => 136 | 0 => 0 | 124 => 140 | 105 => 145 | 21 => 21 | 119 => 170 | 46 => 122 | 139 => 173 | 138 => 172 | n => n, fun | 3 => 3 | 4 => 4 | n => n⟩
theorem Tryz.lays161 : Go.Proofs.Lays.n161 Tryz.prog Tryz.lays161_ren := {
 mixed := by kernel_rfl
 f119 := Tryz.func156.trans (congrArg some (by kernel_rfl))
 f137 := Tryz.func49.trans (congrArg some (by kernel_rfl))
 f151 := Tryz.func132.trans (congrArg some (by kernel_rfl))
 f152 := Tryz.func144.trans (congrArg some (by kernel_rfl))
 f161 := Tryz.func94.trans (congrArg some (by kernel_rfl))
 f197 := Tryz.func114.trans (congrArg some (by kernel_rfl))
 f217 := Tryz.func75.trans (congrArg some (by kernel_rfl))
 f224 := Tryz.func129.trans (congrArg some (by kernel_rfl))
 f225 := Tryz.func128.trans (congrArg some (by kernel_rfl))
 f227 := Tryz.func108.trans (congrArg some (by kernel_rfl))
 f228 := Tryz.func131.trans (congrArg some (by kernel_rfl))
 f231 := Tryz.func107.trans (congrArg some (by kernel_rfl))
 f233 := Tryz.func109.trans (congrArg some (by kernel_rfl))
 f235 := Tryz.func110.trans (congrArg some (by kernel_rfl))
 f260 := Tryz.func137.trans (congrArg some (by kernel_rfl))
 f266 := Tryz.func90.trans (congrArg some (by kernel_rfl))
 t0 := Tryz.underlying0
 a0 := Tryz.isAgg0
 z0 := Tryz.sizeOf0
 v0 := Tryz.zeroValue0
 t3 := Tryz.underlying3
 a3 := Tryz.isAgg3
 z3 := Tryz.sizeOf3
 v3 := Tryz.zeroValue3
 t4 := Tryz.underlying4
 a4 := Tryz.isAgg4
 z4 := Tryz.sizeOf4
 v4 := Tryz.zeroValue4
 t5 := Tryz.underlying5
 a5 := Tryz.isAgg5
 z5 := Tryz.sizeOf5
 v5 := Tryz.zeroValue5
 t9 := Tryz.underlying9
 a9 := Tryz.isAgg9
 z9 := Tryz.sizeOf9
 v9 := Tryz.zeroValue9
 t21 := Tryz.underlying21
 a21 := Tryz.isAgg21
 z21 := Tryz.sizeOf21
 v21 := Tryz.zeroValue21
 t46 := Tryz.underlying122
 a46 := Tryz.isAgg122
 z46 := Tryz.sizeOf122
 v46 := Tryz.zeroValue122
 t105 := Tryz.underlying145
 a105 := Tryz.isAgg145
 z105 := Tryz.sizeOf145
 v105 := Tryz.zeroValue145
 t116 := Tryz.underlying136
 a116 := Tryz.isAgg136
 z116 := Tryz.sizeOf136
 t117 := Tryz.underlying137
 a117 := Tryz.isAgg137
 z117 := Tryz.sizeOf137
 v117 := Tryz.zeroValue137
 t119 := Tryz.underlying170
 a119 := Tryz.isAgg170
 z119 := Tryz.sizeOf170
 t124 := Tryz.underlying140
 a124 := Tryz.isAgg140
 z124 := Tryz.sizeOf140
 v124 := Tryz.zeroValue140
 t138 := Tryz.underlying172
 a138 := Tryz.isAgg172
 z138 := Tryz.sizeOf172
 v138 := Tryz.zeroValue172
 t139 := Tryz.underlying173
 a139 := Tryz.isAgg173
 z139 := Tryz.sizeOf173
 v139 := Tryz.zeroValue173
 g3 := by kernel_rfl
 g4 := by kernel_rfl }
def Tryz.lays160_ren : Go.Shelf.Ren := ⟨fun | 160 => 96 | 232 => 116 | 231 => 107 | 227 => 108 | 234 => 117 | 233 => 109 | 236 => 118 | 235 => 110 | 228 => 131 | 271 => 138 | 151 => 132 | 197 => 114 | 120 => 151 | 152 => 144 | 260 => 137 | 137 => 49 | 119 => 156 | 224 => 129 | 225 => 128 | 217 => 75 | 266 => 90 | n => n, fun | 9 => 9 | 4 => 4 | 3 => 3 | 5 => 5 | 117 => 137 | 116 => 136 | 0 => 0 | 124 => 140 | 21 => 21 | 105 => 145 | 46 => 122 | 119 => 170 | 139 => 173 | 138 => 172 | n => n, fun | 3 => 3 | 4 => 4 | n => n⟩
theorem Tryz.lays160 : Go.Proofs.Lays.n160 Tryz.prog Tryz.lays160_ren := {
 mixed := by kernel_rfl
 f119 := Tryz.func156.trans (congrArg some (by kernel_rfl))
 f120 := Tryz.func151.trans (congrArg some (by kernel_rfl))
 f137 := Tryz.func49.trans (congrArg some (by kernel_rfl))
 f151 := Tryz.func132.trans (congrArg some (by kernel_rfl))
 f152 := Tryz.func144.trans (congrArg some (by kernel_rfl))
 f160 := Tryz.func96.trans (congrArg some (by kernel_rfl))
 f197 := Tryz.func114.trans (congrArg some (by kernel_rfl))
 f217 := Tryz.func75.trans (congrArg some (by kernel_rfl))
 f224 := Tryz.func129.trans (congrArg some (by kernel_rfl))
 f225 := Tryz.func128.trans (congrArg some (by kernel_rfl))
 f227 := Tryz.func108.trans (congrArg some (by kernel_rfl))
 f228 := Tryz.func131.trans (congrArg some (by kernel_rfl))
 f231 := Tryz.func107.trans (congrArg some (by kernel_rfl))
 f232 := Tryz.func116.trans (congrArg some (by kernel_rfl))
 f233 := Tryz.func109.trans (congrArg some (by kernel_rfl))
 f234 := Tryz.func117.trans (congrArg some (by kernel_rfl))
 f235 := Tryz.func110.trans (congrArg some (by kernel_rfl))
 f236 := Tryz.func118.trans (congrArg some (by kernel_rfl))
 f260 := Tryz.func137.trans (congrArg some (by kernel_rfl))
 f266 := Tryz.func90.trans (congrArg some (by kernel_rfl))
 f271 := Tryz.func138.trans (congrArg some (by kernel_rfl))
 t0 := Tryz.underlying0
 a0 := Tryz.isAgg0
 z0 := Tryz.sizeOf0
 v0 := Tryz.zeroValue0
 t3 := Tryz.underlying3
 a3 := Tryz.isAgg3
 z3 := Tryz.sizeOf3
 v3 := Tryz.zeroValue3
 t4 := Tryz.underlying4
 a4 := Tryz.isAgg4
 z4 := Tryz.sizeOf4
 v4 := Tryz.zeroValue4
 t5 := Tryz.underlying5
 a5 := Tryz.isAgg5
 z5 := Tryz.sizeOf5
 v5 := Tryz.zeroValue5
 t9 := Tryz.underlying9
 a9 := Tryz.isAgg9
 z9 := Tryz.sizeOf9
 v9 := Tryz.zeroValue9
 t21 := Tryz.underlying21
 a21 := Tryz.isAgg21
 z21 := Tryz.sizeOf21
 v21 := Tryz.zeroValue21
 t46 := Tryz.underlying122
 a46 := Tryz.isAgg122
 z46 := Tryz.sizeOf122
 v46 := Tryz.zeroValue122
 t105 := Tryz.underlying145
 a105 := Tryz.isAgg145
 z105 := Tryz.sizeOf145
 v105 := Tryz.zeroValue145
 t116 := Tryz.underlying136
 a116 := Tryz.isAgg136
 z116 := Tryz.sizeOf136
 t117 := Tryz.underlying137
 a117 := Tryz.isAgg137
 z117 := Tryz.sizeOf137
 v117 := Tryz.zeroValue137
 t119 := Tryz.underlying170
 a119 := Tryz.isAgg170
 z119 := Tryz.sizeOf170
 t124 := Tryz.underlying140
 a124 := Tryz.isAgg140
 z124 := Tryz.sizeOf140
 v124 := Tryz.zeroValue140
 t138 := Tryz.underlying172
 a138 := Tryz.isAgg172
 z138 := Tryz.sizeOf172
 v138 := Tryz.zeroValue172
 t139 := Tryz.underlying173
 a139 := Tryz.isAgg173
 z139 := Tryz.sizeOf173
 v139 := Tryz.zeroValue173
 g3 := by kernel_rfl
 g4 := by kernel_rfl }
def Tryz.laysC174_ren : Go.Shelf.Ren := ⟨fun | 174 => 97 | 247 => 119 | 245 => 120 | 287 => 139 | 279 => 140 | 280 => 141 | 281 => 142 | 282 => 143 | 321 => 152 | 322 => 153 | 316 => 154 | 171 => 72 | 205 => 155 | 243 => 89 | 246 => 88 | 283 => 102 | 284 => 103 | 285 => 104 | 286 => 105 | 129 => 124 | 317 => 123 | 318 => 125 | 319 => 126 | 320 => 127 | 337 => 146 | 338 => 147 | n => n, fun | 9 => 9 | 3 => 3 | 2 => 2 | 75 => 103 | 85 => 126 | 4 => 4 | 167 => 157 | 5 => 5 | 53 => 54 | 175 => 158 | 46 => 122 | 168 => 160 | 37 => 22 | 0 => 0 | 210 => 176 | 21 => 21 | 127 => 156 | 145 => 183 | 143 => 181 | 171 => 129 | 173 => 132 | 212 => 150 | 51 => 151 | 20 => 20 | 213 => 152 | 232 => 179 | 233 => 180 | 80 => 147 | n => n, fun | 15 => 5 | 16 => 6 | 17 => 2 | 18 => 7 | 19 => 8 | n => n⟩
theorem Tryz.laysC174 : Go.Proofs.LaysC.n174 Tryz.prog Tryz.laysC174_ren := {
 mixed := by kernel_rfl
 f129 := Tryz.func124.trans (congrArg some (by kernel_rfl))
 f171 := Tryz.func72.trans (congrArg some (by kernel_rfl))
 f174 := Tryz.func97.trans (congrArg some (by kernel_rfl))
 f205 := Tryz.func155.trans (congrArg some (by kernel_rfl))
 f243 := Tryz.func89.trans (congrArg some (by kernel_rfl))
 f245 := Tryz.func120.trans (congrArg some (by kernel_rfl))
 f246 := Tryz.func88.trans (congrArg some (by kernel_rfl))
 f247 := Tryz.func119.trans (congrArg some (by kernel_rfl))
 f279 := Tryz.func140.trans (congrArg some (by kernel_rfl))
 f280 := Tryz.func141.trans (congrArg some (by kernel_rfl))
 f281 := Tryz.func142.trans (congrArg some (by kernel_rfl))
 f282 := Tryz.func143.trans (congrArg some (by kernel_rfl))
 f283 := Tryz.func102.trans (congrArg some (by kernel_rfl))
 f284 := Tryz.func103.trans (congrArg some (by kernel_rfl))
 f285 := Tryz.func104.trans (congrArg some (by kernel_rfl))
 f286 := Tryz.func105.trans (congrArg some (by kernel_rfl))
 f287 := Tryz.func139.trans (congrArg some (by kernel_rfl))
 f316 := Tryz.func154.trans (congrArg some (by kernel_rfl))
 f317 := Tryz.func123.trans (congrArg some (by kernel_rfl))
 f318 := Tryz.func125.trans (congrArg some (by kernel_rfl))
 f319 := Tryz.func126.trans (congrArg some (by kernel_rfl))
 f320 := Tryz.func127.trans (congrArg some (by kernel_rfl))
 f321 := Tryz.func152.trans (congrArg some (by kernel_rfl))
 f322 := Tryz.func153.trans (congrArg some (by kernel_rfl))
 f337 := Tryz.func146.trans (congrArg some (by kernel_rfl))
 f338 := Tryz.func147.trans (congrArg some (by kernel_rfl))
 t0 := Tryz.underlying0
 a0 := Tryz.isAgg0
 z0 := Tryz.sizeOf0
 v0 := Tryz.zeroValue0
 t2 := Tryz.underlying2
 a2 := Tryz.isAgg2
 z2 := Tryz.sizeOf2
 v2 := Tryz.zeroValue2
 t3 := Tryz.underlying3
 a3 := Tryz.isAgg3
 z3 := Tryz.sizeOf3
 v3 := Tryz.zeroValue3
 t4 := Tryz.underlying4
 a4 := Tryz.isAgg4
 z4 := Tryz.sizeOf4
 v4 := Tryz.zeroValue4
 t5 := Tryz.underlying5
 a5 := Tryz.isAgg5
 z5 := Tryz.sizeOf5
 v5 := Tryz.zeroValue5
 t9 := Tryz.underlying9
 a9 := Tryz.isAgg9
 z9 := Tryz.sizeOf9
 v9 := Tryz.zeroValue9
 t20 := Tryz.underlying20
 a20 := Tryz.isAgg20
 z20 := Tryz.sizeOf20
 v20 := Tryz.zeroValue20
 t21 := Tryz.underlying21
 a21 := Tryz.isAgg21
 z21 := Tryz.sizeOf21
 v21 := Tryz.zeroValue21
 t37 := Tryz.underlying22
 a37 := Tryz.isAgg22
 z37 := Tryz.sizeOf22
 v37 := Tryz.zeroValue22
 t46 := Tryz.underlying122
 a46 := Tryz.isAgg122
 z46 := Tryz.sizeOf122
 v46 := Tryz.zeroValue122
 t51 := Tryz.underlying151
 a51 := Tryz.isAgg151
 z51 := Tryz.sizeOf151
 v51 := Tryz.zeroValue151
 t53 := Tryz.underlying54
 a53 := Tryz.isAgg54
 z53 := Tryz.sizeOf54
 v53 := Tryz.zeroValue54
 t75 := Tryz.underlying103
 a75 := Tryz.isAgg103
 z75 := Tryz.sizeOf103
 v75 := Tryz.zeroValue103
 t85 := Tryz.underlying126
 a85 := Tryz.isAgg126
 z85 := Tryz.sizeOf126
 v85 := Tryz.zeroValue126
 t127 := Tryz.underlying156
 a127 := Tryz.isAgg156
 z127 := Tryz.sizeOf156
 v127 := Tryz.zeroValue156
 t143 := Tryz.underlying181
 a143 := Tryz.isAgg181
 z143 := Tryz.sizeOf181
 v143 := Tryz.zeroValue181
 t145 := Tryz.underlying183
 a145 := Tryz.isAgg183
 z145 := Tryz.sizeOf183
 v145 := Tryz.zeroValue183
 t167 := Tryz.underlying157
 a167 := Tryz.isAgg157
 z167 := Tryz.sizeOf157
 v167 := Tryz.zeroValue157
 t168 := Tryz.underlying160
 a168 := Tryz.isAgg160
 z168 := Tryz.sizeOf160
 v168 := Tryz.zeroValue160
 t171 := Tryz.underlying129
 a171 := Tryz.isAgg129
 z171 := Tryz.sizeOf129
 v171 := Tryz.zeroValue129
 t173 := Tryz.underlying132
 a173 := Tryz.isAgg132
 z173 := Tryz.sizeOf132
 v173 := Tryz.zeroValue132
 t175 := Tryz.underlying158
 a175 := Tryz.isAgg158
 z175 := Tryz.sizeOf158
 v175 := Tryz.zeroValue158
 t210 := Tryz.underlying176
 a210 := Tryz.isAgg176
 z210 := Tryz.sizeOf176
 v210 := Tryz.zeroValue176
 t212 := Tryz.underlying150
 a212 := Tryz.isAgg150
 z212 := Tryz.sizeOf150
 v212 := Tryz.zeroValue150
 t213 := Tryz.underlying152
 a213 := Tryz.isAgg152
 z213 := Tryz.sizeOf152
 t232 := Tryz.underlying179
 a232 := Tryz.isAgg179
 z232 := Tryz.sizeOf179
 v232 := Tryz.zeroValue179
 t233 := Tryz.underlying180
 a233 := Tryz.isAgg180
 z233 := Tryz.sizeOf180
 v233 := Tryz.zeroValue180
 g15 := by kernel_rfl
 g16 := by kernel_rfl
 g17 := by kernel_rfl
 g18 := by kernel_rfl
 g19 := by kernel_rfl
 t80 := Tryz.underlying147
 a80 := Tryz.isAgg147
 z80 := Tryz.sizeOf147
 v80 := Tryz.zeroValue147
 i0 := by kernel_rfl
 i2 := by kernel_rfl
 i3 := by kernel_rfl
 i4 := by kernel_rfl
 i5 := by kernel_rfl
 i9 := by kernel_rfl
 i20 := by kernel_rfl
 i21 := by kernel_rfl
 i37 := by kernel_rfl
 i46 := by kernel_rfl
 i51 := by kernel_rfl
 i53 := by kernel_rfl
 i75 := by kernel_rfl
 i80 := by kernel_rfl
 i85 := by kernel_rfl
 i127 := by kernel_rfl
 i143 := by kernel_rfl
 i145 := by kernel_rfl
 i167 := by kernel_rfl
 i168 := by kernel_rfl
 i171 := by kernel_rfl
 i173 := by kernel_rfl
 i175 := by kernel_rfl
 i210 := by kernel_rfl
 i212 := by kernel_rfl
 i232 := by kernel_rfl
 i233 := by kernel_rfl
 m15 := by kernel_rfl
 m16 := by kernel_rfl
 m17 := by kernel_rfl
 m18 := by kernel_rfl
 m19 := by kernel_rfl
 c0 := by kernel_rfl
 c2 := by kernel_rfl
 c3 := by kernel_rfl
 c4 := by kernel_rfl
 c5 := by kernel_rfl
 c9 := by kernel_rfl
 c20 := by kernel_rfl
 c21 := by kernel_rfl
 c37 := by kernel_rfl
 c46 := by kernel_rfl
 c51 := by kernel_rfl
 c53 := by kernel_rfl
 c75 := by kernel_rfl
 c80 := by kernel_rfl
 c85 := by kernel_rfl
 c127 := by kernel_rfl
 c143 := by kernel_rfl
 c145 := by kernel_rfl
 c167 := by kernel_rfl
 c168 := by kernel_rfl
 c171 := by kernel_rfl
 c173 := by kernel_rfl
 c175 := by kernel_rfl
 c210 := by kernel_rfl
 c212 := by kernel_rfl
 c213 := by kernel_rfl
 c232 := by kernel_rfl
 c233 := by kernel_rfl }
open Go.RowKit in
theorem Tryz.strconv_ParseInt_10_at64_ok (s : ByteArray) (hmax : s.size ≤ 9223372036854775806) (v : Int) (h : Lib.parseIntB 64 s.data.toList = .ok v) (w : World) :
  Calls Tryz.prog 97 #[.string s, .int .i64 10, .int .i64 64] w fun e w' => e = .returned (.tuple #[.int .i64 v, .nilIface]) ∧ (w' = w ∨ ∃ t, w' = Lib.bytesWorld w 5 t) := Any.strconv_ParseInt_10_at64_ok Tryz.laysC174 s hmax v h w
open Go.RowKit in
theorem Tryz.strconv_ParseInt_10_at64_range (s : ByteArray) (hlim : s.size ≤ 281474976710656) (h : Lib.parseIntB 64 s.data.toList = .range) (ev : Value) (w : World) (hv : w.cell? ⟨6, 0, none⟩ = some ev) (hev : ev = .nilIface ∨ ∃ te pe, ev = .iface te pe) :
  Calls Tryz.prog 97 #[.string s, .int .i64 10, .int .i64 64] w fun e w' => ∃ N, e = .returned (.tuple #[.int .i64 (Lib.intSat 64 s.data.toList), .iface 160 (.pointer (some ⟨N, 0, none⟩))]) ∧ w.heap.size ≤ N ∧ w'.heap[N]? = some (.cells #[.string ⟨#[80, 97, 114, 115, 101, 73, 110, 116]⟩, .string s, ev] 176 (0, 0)) ∧ Below w.heap.size w w' := Any.strconv_ParseInt_10_at64_range Tryz.laysC174 s hlim h ev w hv hev
def Tryz.lays144_ren : Go.Shelf.Ren := ⟨fun | 144 => 80 | 143 => 93 | 219 => 106 | 217 => 75 | 225 => 128 | 224 => 129 | 267 => 130 | 266 => 90 | 314 => 148 | n => n, fun | 9 => 9 | 4 => 4 | 3 => 3 | 5 => 5 | 46 => 122 | 146 => 165 | 51 => 151 | n => n, fun | 1 => 1 | n => n⟩
theorem Tryz.lays144 : Go.Proofs.Lays.n144 Tryz.prog Tryz.lays144_ren := {
 mixed := by kernel_rfl
 f143 := Tryz.func93.trans (congrArg some (by kernel_rfl))
 f144 := Tryz.func80.trans (congrArg some (by kernel_rfl))
 f217 := Tryz.func75.trans (congrArg some (by kernel_rfl))
 f219 := Tryz.func106.trans (congrArg some (by kernel_rfl))
 f224 := Tryz.func129.trans (congrArg some (by kernel_rfl))
 f225 := Tryz.func128.trans (congrArg some (by kernel_rfl))
 f266 := Tryz.func90.trans (congrArg some (by kernel_rfl))
 f267 := Tryz.func130.trans (congrArg some (by kernel_rfl))
 f314 := Tryz.func148.trans (congrArg some (by kernel_rfl))
 t3 := Tryz.underlying3
 a3 := Tryz.isAgg3
 z3 := Tryz.sizeOf3
 v3 := Tryz.zeroValue3
 t4 := Tryz.underlying4
 a4 := Tryz.isAgg4
 z4 := Tryz.sizeOf4
 v4 := Tryz.zeroValue4
 t5 := Tryz.underlying5
 a5 := Tryz.isAgg5
 z5 := Tryz.sizeOf5
 v5 := Tryz.zeroValue5
 t9 := Tryz.underlying9
 a9 := Tryz.isAgg9
 z9 := Tryz.sizeOf9
 v9 := Tryz.zeroValue9
 t46 := Tryz.underlying122
 a46 := Tryz.isAgg122
 z46 := Tryz.sizeOf122
 v46 := Tryz.zeroValue122
 t51 := Tryz.underlying151
 a51 := Tryz.isAgg151
 z51 := Tryz.sizeOf151
 v51 := Tryz.zeroValue151
 t146 := Tryz.underlying165
 a146 := Tryz.isAgg165
 z146 := Tryz.sizeOf165
 v146 := Tryz.zeroValue165
 g1 := by kernel_rfl }
open Go.RowKit Go.Lib in
theorem Tryz.strings_Contains_one (s : ByteArray) (c : UInt8) (w : World) :
  Calls Tryz.prog 80 #[.string s, .string ⟨#[c]⟩] w fun e w' => e = .returned (.bool (decide (0 ≤ Lib.indexByte s.data.toList c))) ∧ w' = w := Any.strings_Contains_one Tryz.lays144 s c w
def Tryz.lays154_ren : Go.Shelf.Ren := ⟨fun | 154 => 95 | 138 => 111 | 165 => 112 | 143 => 93 | 166 => 113 | 197 => 114 | 169 => 115 | 195 => 133 | 218 => 134 | 240 => 135 | 241 => 136 | 219 => 106 | 260 => 137 | 276 => 149 | 277 => 150 | 217 => 75 | 225 => 128 | 224 => 129 | 267 => 130 | 266 => 90 | 314 => 148 | n => n, fun | 9 => 9 | 3 => 3 | 4 => 4 | 72 => 143 | 0 => 0 | 76 => 104 | 105 => 145 | 21 => 21 | 5 => 5 | 70 => 141 | 20 => 20 | 37 => 22 | 75 => 103 | 127 => 156 | 164 => 167 | 46 => 122 | 119 => 170 | 139 => 173 | 138 => 172 | 146 => 165 | 51 => 151 | 80 => 147 | n => n, fun | 1 => 1 | 3 => 3 | 4 => 4 | n => n⟩
theorem Tryz.lays154 : Go.Proofs.Lays.n154 Tryz.prog Tryz.lays154_ren := {
 mixed := by kernel_rfl
 f138 := Tryz.func111.trans (congrArg some (by kernel_rfl))
 f143 := Tryz.func93.trans (congrArg some (by kernel_rfl))
 f154 := Tryz.func95.trans (congrArg some (by kernel_rfl))
 f165 := Tryz.func112.trans (congrArg some (by kernel_rfl))
 f166 := Tryz.func113.trans (congrArg some (by kernel_rfl))
 f169 := Tryz.func115.trans (congrArg some (by kernel_rfl))
 f195 := Tryz.func133.trans (congrArg some (by kernel_rfl))
 f197 := Tryz.func114.trans (congrArg some (by kernel_rfl))
 f217 := Tryz.func75.trans (congrArg some (by kernel_rfl))
 f218 := Tryz.func134.trans (congrArg some (by kernel_rfl))
 f219 := Tryz.func106.trans (congrArg some (by kernel_rfl))
 f224 := Tryz.func129.trans (congrArg some (by kernel_rfl))
 f225 := Tryz.func128.trans (congrArg some (by kernel_rfl))
 f240 := Tryz.func135.trans (congrArg some (by kernel_rfl))
 f241 := Tryz.func136.trans (congrArg some (by kernel_rfl))
 f260 := Tryz.func137.trans (congrArg some (by kernel_rfl))
 f266 := Tryz.func90.trans (congrArg some (by kernel_rfl))
 f267 := Tryz.func130.trans (congrArg some (by kernel_rfl))
 f276 := Tryz.func149.trans (congrArg some (by kernel_rfl))
 f277 := Tryz.func150.trans (congrArg some (by kernel_rfl))
 f314 := Tryz.func148.trans (congrArg some (by kernel_rfl))
 t0 := Tryz.underlying0
 a0 := Tryz.isAgg0
 z0 := Tryz.sizeOf0
 v0 := Tryz.zeroValue0
 t3 := Tryz.underlying3
 a3 := Tryz.isAgg3
 z3 := Tryz.sizeOf3
 v3 := Tryz.zeroValue3
 t4 := Tryz.underlying4
 a4 := Tryz.isAgg4
 z4 := Tryz.sizeOf4
 v4 := Tryz.zeroValue4
 t5 := Tryz.underlying5
 a5 := Tryz.isAgg5
 z5 := Tryz.sizeOf5
 v5 := Tryz.zeroValue5
 t9 := Tryz.underlying9
 a9 := Tryz.isAgg9
 z9 := Tryz.sizeOf9
 v9 := Tryz.zeroValue9
 t20 := Tryz.underlying20
 a20 := Tryz.isAgg20
 z20 := Tryz.sizeOf20
 v20 := Tryz.zeroValue20
 t21 := Tryz.underlying21
 a21 := Tryz.isAgg21
 z21 := Tryz.sizeOf21
 v21 := Tryz.zeroValue21
 t37 := Tryz.underlying22
 a37 := Tryz.isAgg22
 z37 := Tryz.sizeOf22
 v37 := Tryz.zeroValue22
 t46 := Tryz.underlying122
 a46 := Tryz.isAgg122
 z46 := Tryz.sizeOf122
 v46 := Tryz.zeroValue122
 t51 := Tryz.underlying151
 a51 := Tryz.isAgg151
 z51 := Tryz.sizeOf151
 v51 := Tryz.zeroValue151
 t70 := Tryz.underlying141
 a70 := Tryz.isAgg141
 z70 := Tryz.sizeOf141
 v70 := Tryz.zeroValue141
 t72 := Tryz.underlying143
 a72 := Tryz.isAgg143
 z72 := Tryz.sizeOf143
 v72 := Tryz.zeroValue143
 t75 := Tryz.underlying103
 a75 := Tryz.isAgg103
 z75 := Tryz.sizeOf103
 v75 := Tryz.zeroValue103
 t76 := Tryz.underlying104
 a76 := Tryz.isAgg104
 z76 := Tryz.sizeOf104
 v76 := Tryz.zeroValue104
 t105 := Tryz.underlying145
 a105 := Tryz.isAgg145
 z105 := Tryz.sizeOf145
 v105 := Tryz.zeroValue145
 t119 := Tryz.underlying170
 a119 := Tryz.isAgg170
 z119 := Tryz.sizeOf170
 t127 := Tryz.underlying156
 a127 := Tryz.isAgg156
 z127 := Tryz.sizeOf156
 v127 := Tryz.zeroValue156
 t138 := Tryz.underlying172
 a138 := Tryz.isAgg172
 z138 := Tryz.sizeOf172
 v138 := Tryz.zeroValue172
 t139 := Tryz.underlying173
 a139 := Tryz.isAgg173
 z139 := Tryz.sizeOf173
 v139 := Tryz.zeroValue173
 t146 := Tryz.underlying165
 a146 := Tryz.isAgg165
 z146 := Tryz.sizeOf165
 v146 := Tryz.zeroValue165
 t164 := Tryz.underlying167
 a164 := Tryz.isAgg167
 z164 := Tryz.sizeOf167
 v164 := Tryz.zeroValue167
 g1 := by kernel_rfl
 g3 := by kernel_rfl
 g4 := by kernel_rfl }
theorem Tryz.Builder_Extra_154 : Builder.Extra Tryz.prog Tryz.lays154_ren := {
 sizeBuilder := by kernel_rfl
 liesBuilder := by kernel_rfl
 t5 := Tryz.underlying5
 a5 := Tryz.isAgg5
 z5 := Tryz.sizeOf5
 v5 := Tryz.zeroValue5
 infoByte := by kernel_rfl
 cellsByte := by kernel_rfl
 sizeByte := by kernel_rfl
 neB5 := by decide }
open Go.RowKit Go.Lib in
theorem Tryz.strings_Replace (s old new : ByteArray) (n : Int) (m : Int) (w : World) (hs : s.size < 4294967281) (hm : w.cell? ⟨1, 0, none⟩ = some (.int .i64 m)) (h1 : 1 ≤ old.size) (hlen : s.size + Lib.countB s old * new.size ≤ 140737488355328) :
  Calls Tryz.prog 95 #[.string s, .string old, .string new, .int .i64 n] w fun e w' =>
   e = .returned (.string ⟨(Lib.replace s.data.toList old.data.toList new.data.toList n).toArray⟩) ∧ Below w.heap.size w w' := Any.strings_Replace Tryz.lays154 Tryz.Builder_Extra_154 s old new n m w hs hm h1 hlen
def Tryz.lays150_ren : Go.Shelf.Ren := ⟨fun | 150 => 98 | 153 => 121 | 152 => 144 | 226 => 145 | 227 => 108 | 228 => 131 | 137 => 49 | 119 => 156 | 224 => 129 | 225 => 128 | 217 => 75 | 266 => 90 | n => n, fun | 9 => 9 | 4 => 4 | 3 => 3 | 5 => 5 | 21 => 21 | 117 => 137 | 116 => 136 | 0 => 0 | 46 => 122 | 124 => 140 | n => n, fun | n => n⟩
theorem Tryz.lays150 : Go.Proofs.Lays.n150 Tryz.prog Tryz.lays150_ren := {
 mixed := by kernel_rfl
 f119 := Tryz.func156.trans (congrArg some (by kernel_rfl))
 f137 := Tryz.func49.trans (congrArg some (by kernel_rfl))
 f150 := Tryz.func98.trans (congrArg some (by kernel_rfl))
 f152 := Tryz.func144.trans (congrArg some (by kernel_rfl))
 f153 := Tryz.func121.trans (congrArg some (by kernel_rfl))
 f217 := Tryz.func75.trans (congrArg some (by kernel_rfl))
 f224 := Tryz.func129.trans (congrArg some (by kernel_rfl))
 f225 := Tryz.func128.trans (congrArg some (by kernel_rfl))
 f226 := Tryz.func145.trans (congrArg some (by kernel_rfl))
 f227 := Tryz.func108.trans (congrArg some (by kernel_rfl))
 f228 := Tryz.func131.trans (congrArg some (by kernel_rfl))
 f266 := Tryz.func90.trans (congrArg some (by kernel_rfl))
 t0 := Tryz.underlying0
 a0 := Tryz.isAgg0
 z0 := Tryz.sizeOf0
 v0 := Tryz.zeroValue0
 t3 := Tryz.underlying3
 a3 := Tryz.isAgg3
 z3 := Tryz.sizeOf3
 v3 := Tryz.zeroValue3
 t4 := Tryz.underlying4
 a4 := Tryz.isAgg4
 z4 := Tryz.sizeOf4
 v4 := Tryz.zeroValue4
 t5 := Tryz.underlying5
 a5 := Tryz.isAgg5
 z5 := Tryz.sizeOf5
 v5 := Tryz.zeroValue5
 t9 := Tryz.underlying9
 a9 := Tryz.isAgg9
 z9 := Tryz.sizeOf9
 v9 := Tryz.zeroValue9
 t21 := Tryz.underlying21
 a21 := Tryz.isAgg21
 z21 := Tryz.sizeOf21
 v21 := Tryz.zeroValue21
 t46 := Tryz.underlying122
 a46 := Tryz.isAgg122
 z46 := Tryz.sizeOf122
 v46 := Tryz.zeroValue122
 t116 := Tryz.underlying136
 a116 := Tryz.isAgg136
 z116 := Tryz.sizeOf136
 t117 := Tryz.underlying137
 a117 := Tryz.isAgg137
 z117 := Tryz.sizeOf137
 v117 := Tryz.zeroValue137
 t124 := Tryz.underlying140
 a124 := Tryz.isAgg140
 z124 := Tryz.sizeOf140
 v124 := Tryz.zeroValue140 }
open Go.RowKit Go.Lib in
theorem Tryz.strings_ContainsAny_laid (s chars : ByteArray) (w : World) (hs : s.size < 4294967281) (hcs : chars.size < 4294967281) (has : ∀ (j : Nat) b, s.data.toList[j]? = some b → b.toNat < 128) (hac : ∀ (j : Nat) b, chars.data.toList[j]? = some b → b.toNat < 128) :
  Calls Tryz.prog 98 #[.string s, .string chars] w fun e w' => e = .returned (.bool (Lib.containsAny s.data.toList chars.data.toList)) ∧ Below w.heap.size w w' := Any.strings_ContainsAny_laid Tryz.lays150 (by kernel_rfl) s chars w hs hcs has hac
end Go.Proofs
namespace Go.Vx
open Go Go.Shelf Go.RowKit Go.Lib Go.Proofs
theorem valid_calls' {Key : Type} [DecidableEq Key] {E : Env Key} {f : FuncId} {spec : Spec E} (he : ∀ args w, (callFunc f args).run E.P w = .ok (.enter f args) w)
  (h : ∀ args os r os', (spec args os).get = some (r, os') → os' = os ∧ ∀ (G : Gh) (w : World) (vals : Array Value), ARel E G w args vals → HRel E (fun i => os[i]?) G w → Calls E.P f vals w (fun e w' => ∃ v, e = .returned v ∧ RowKit.Below w.heap.size w w' ∧ RRep E G w' r v)) : Valid E f spec := by
 unfold Valid
 intro args os r os' hs G w vals ha hh hv hc
 obtain ⟨rfl, h⟩ := h args os r os' hs
 have hrun := h G w vals ha hh
 rw [he]
 refine hrun.mono fun e w' ⟨v, h1, h2, h3⟩ => ?_
 exact ⟨v, G, h1, h3, below_h hh h2, hv, hc, fun _ _ => rfl, below_fr h2⟩
theorem ascii_at {s : List UInt8} (h : Px.ascii s = true) (j : Nat) (b : UInt8) (hb : s[j]? = some b) : b.toNat < 128 := by
 have := List.all_eq_true.1 h b (List.mem_of_getElem? hb)
 have := Nat.le_of_ble_eq_true this
 omega
def spec94 : Spec E := fun args os => match args with | [.lf (.str s), .lf (.str c)] => .ite (Px.ascii c && decide (c.length ≤ 200) && decide ((Lib.trimLeftS s c).length ≤ 1000000000)) (.leaf (.lf (.str (Lib.trimLeftS s c)), os)) .fail | _ => .fail
theorem valid94 (_ : Laws E) : Valid E 94 spec94 :=
 valid_calls' (Go.Proofs.enters_of (fn := Go.Proofs.Tryz.f94) (by kernel_rfl) (by kernel_rfl) rfl) (fun args os r os' h => by
  unfold spec94 at h
  split at h
  ·rename_i s c
   rcases Tree.get_ite_some h with ⟨hg, h⟩ | ⟨_, h⟩
   ·injection h with h; injection h with h1 h2
    subst h1; subst h2
    refine ⟨rfl, fun G w vals ha _ => ?_⟩
    obtain ⟨v, u, rfl, hv, hu⟩ := arel_two ha
    simp only [Bool.and_eq_true, decide_eq_true_eq] at hg
    obtain ⟨⟨g1, g2⟩, g3⟩ := hg
    obtain ⟨ba, rfl, rfl, hsz⟩ := hv.str_inv
    obtain ⟨bc, rfl, rfl, hsc⟩ := hu.str_inv
    have hls : bc.size = bc.data.toList.length := Lib.size_eq bc
    refine (Any.strings_TrimLeft_laid Tryz.lays161 (by kernel_rfl) ba bc w (by omega) (ascii_at g1)).mono fun e w' ⟨k1, k2⟩ => ⟨_, k1, k2, ?_⟩
    exact .lf (.str ⟨(Lib.trimLeftS ba.data.toList bc.data.toList).toArray⟩ (by show (List.toArray _).toList.length ≤ _; rw [List.toList_toArray]; unfold big; omega))
   ·cases h
  ·cases h)
def spec96 : Spec E := fun args os => match args with | [.lf (.str s), .lf (.str c)] => .ite (Px.ascii c && decide (c.length ≤ 200) && decide ((Lib.trimS s c).length ≤ 1000000000)) (.leaf (.lf (.str (Lib.trimS s c)), os)) .fail | _ => .fail
theorem valid96 (_ : Laws E) : Valid E 96 spec96 :=
 valid_calls' (Go.Proofs.enters_of (fn := Go.Proofs.Tryz.f96) (by kernel_rfl) (by kernel_rfl) rfl) (fun args os r os' h => by
  unfold spec96 at h
  split at h
  ·rename_i s c
   rcases Tree.get_ite_some h with ⟨hg, h⟩ | ⟨_, h⟩
   ·injection h with h; injection h with h1 h2
    subst h1; subst h2
    refine ⟨rfl, fun G w vals ha _ => ?_⟩
    obtain ⟨v, u, rfl, hv, hu⟩ := arel_two ha
    simp only [Bool.and_eq_true, decide_eq_true_eq] at hg
    obtain ⟨⟨g1, g2⟩, g3⟩ := hg
    obtain ⟨ba, rfl, rfl, hsz⟩ := hv.str_inv
    obtain ⟨bc, rfl, rfl, hsc⟩ := hu.str_inv
    have hls : bc.size = bc.data.toList.length := Lib.size_eq bc
    have hlb : ba.size = ba.data.toList.length := Lib.size_eq ba
    refine (Any.strings_Trim_laid Tryz.lays160 (by kernel_rfl) ba bc w (by unfold big at hsz; omega) (by omega) (ascii_at g1)).mono fun e w' ⟨k1, k2⟩ => ⟨_, k1, k2, ?_⟩
    exact .lf (.str ⟨(Lib.trimS ba.data.toList bc.data.toList).toArray⟩ (by show (List.toArray _).toList.length ≤ _; rw [List.toList_toArray]; unfold big; omega))
   ·cases h
  ·cases h)
def spec95 : Spec E := fun args os => match args with | [.lf (.str s), .lf (.str o), .lf (.str []), .lf (.int .i64 n)] => .ite (decide (s.length ≤ 1000000000) && decide (1 ≤ o.length) && decide ((Lib.replace s o [] n).length ≤ 1000000000)) (.leaf (.lf (.str (Lib.replace s o [] n)), os)) .fail | _ => .fail
theorem arel_four {G : Gh} {w : World} {r1 r2 r3 r4 : RV E.A} {vals : Array Value} (h : ARel E G w [r1, r2, r3, r4] vals) : ∃ v1 v2 v3 v4, vals = #[v1, v2, v3, v4] ∧ RRep E G w r1 v1 ∧ RRep E G w r2 v2 ∧ RRep E G w r3 v3 ∧ RRep E G w r4 v4 := by
 obtain ⟨hs, h⟩ := h
 obtain ⟨l⟩ := vals
 match l, hs with
 | [a, b, c, d], _ => exact ⟨a, b, c, d, rfl, h 0 _ rfl, h 1 _ rfl, h 2 _ rfl, h 3 _ rfl⟩
theorem arel_three {G : Gh} {w : World} {r1 r2 r3 : RV E.A} {vals : Array Value} (h : ARel E G w [r1, r2, r3] vals) : ∃ v1 v2 v3, vals = #[v1, v2, v3] ∧ RRep E G w r1 v1 ∧ RRep E G w r2 v2 ∧ RRep E G w r3 v3 := by
 obtain ⟨hs, h⟩ := h
 obtain ⟨l⟩ := vals
 match l, hs with
 | [a, b, c], _ => exact ⟨a, b, c, rfl, h 0 _ rfl, h 1 _ rfl, h 2 _ rfl⟩
theorem valid95 (_ : Laws E) : Valid E 95 spec95 :=
 valid_calls' (Go.Proofs.enters_of (fn := Go.Proofs.Tryz.f95) (by kernel_rfl) (by kernel_rfl) rfl) (fun args os r os' h => by
  unfold spec95 at h
  split at h
  ·rename_i s o n
   rcases Tree.get_ite_some h with ⟨hg, h⟩ | ⟨_, h⟩
   ·injection h with h; injection h with h1 h2
    subst h1; subst h2
    refine ⟨rfl, fun G w vals ha hh => ?_⟩
    obtain ⟨v, u, x, y, rfl, hv, hu, hx, hy⟩ := arel_four ha
    simp only [Bool.and_eq_true, decide_eq_true_eq] at hg
    obtain ⟨⟨g1, g2⟩, g3⟩ := hg
    obtain ⟨ba, rfl, rfl, hsz⟩ := hv.str_inv
    obtain ⟨bo, rfl, rfl, hso⟩ := hu.str_inv
    obtain ⟨bn, rfl, hn, _⟩ := hx.str_inv
    obtain ⟨rfl, _⟩ := hy.int_inv
    have hlb : ba.size = ba.data.toList.length := Lib.size_eq ba
    have hlo : bo.size = bo.data.toList.length := Lib.size_eq bo
    have hln : bn.size = bn.data.toList.length := Lib.size_eq bn
    rw [hn, List.length_nil] at hln
    obtain ⟨m, _, hm, _⟩ := (hh.gl 1 _ rfl).2.2 .i64 rfl
    refine (Tryz.strings_Replace ba bo bn n m w (by omega) hm (by omega) (by rw [hln]; omega)).mono fun e w' ⟨k1, k2⟩ => ?_
    rw [hn] at k1
    exact ⟨_, k1, k2, .lf (.str ⟨(Lib.replace ba.data.toList bo.data.toList [] n).toArray⟩ (by show (List.toArray _).toList.length ≤ _; rw [List.toList_toArray]; unfold big; omega))⟩
   ·cases h
  ·cases h)
def spec80 : Spec E := fun args os => match args with | [.lf (.str s), .lf (.str [c])] => .leaf (.lf (.bool (leI 0 (Lib.indexByte s c))), os) | _ => .fail
theorem valid80 (_ : Laws E) : Valid E 80 spec80 :=
 valid_calls' (Go.Proofs.enters_of (fn := Go.Proofs.Tryz.f80) (by kernel_rfl) (by kernel_rfl) rfl) (fun args os r os' h => by
  unfold spec80 at h
  split at h
  ·rename_i s c
   injection h with h; injection h with h1 h2
   subst h1; subst h2
   refine ⟨rfl, fun G w vals ha hh => ?_⟩
   obtain ⟨v, u, rfl, hv, hu⟩ := arel_two ha
   obtain ⟨ba, rfl, rfl, hsz⟩ := hv.str_inv
   obtain ⟨bc, rfl, hc, _⟩ := hu.str_inv
   obtain rfl : bc = ⟨#[c]⟩ := by
    cases bc with
    | mk d => simp only at hc; rw [← Array.toArray_toList (xs := d), hc]
   refine (Tryz.strings_Contains_one ba c w).mono fun e w' ⟨k1, k2⟩ => ⟨_, k1, by rw [k2]; exact Below.refl _ _, ?_⟩
   rw [leI_eq]
   exact .lf (.bool _)
  ·cases h)
def spec98 : Spec E := fun args os => match args with | [.lf (.str s), .lf (.str c)] => .ite (Px.ascii s && Px.ascii c && decide (s.length ≤ 1000000000) && decide (c.length ≤ 200)) (.leaf (.lf (.bool (Lib.containsAny s c)), os)) .fail | _ => .fail
theorem valid98 (_ : Laws E) : Valid E 98 spec98 :=
 valid_calls' (Go.Proofs.enters_of (fn := Go.Proofs.Tryz.f98) (by kernel_rfl) (by kernel_rfl) rfl) (fun args os r os' h => by
  unfold spec98 at h
  split at h
  ·rename_i s c
   rcases Tree.get_ite_some h with ⟨hg, h⟩ | ⟨_, h⟩
   ·injection h with h; injection h with h1 h2
    subst h1; subst h2
    refine ⟨rfl, fun G w vals ha _ => ?_⟩
    obtain ⟨v, u, rfl, hv, hu⟩ := arel_two ha
    simp only [Bool.and_eq_true, decide_eq_true_eq] at hg
    obtain ⟨⟨⟨g1, g2⟩, g3⟩, g4⟩ := hg
    obtain ⟨ba, rfl, rfl, hsz⟩ := hv.str_inv
    obtain ⟨bc, rfl, rfl, hsc⟩ := hu.str_inv
    have hls : bc.size = bc.data.toList.length := Lib.size_eq bc
    have hlb : ba.size = ba.data.toList.length := Lib.size_eq ba
    exact (Tryz.strings_ContainsAny_laid ba bc w (by omega) (by omega) (ascii_at g1) (ascii_at g2)).mono fun e w' ⟨k1, k2⟩ => ⟨_, k1, k2, .lf (.bool _)⟩
   ·cases h
  ·cases h)
def endOk : Lib.NumEnd Int → Option Int
 | .ok v => some v
 | _ => none
def endFar : Lib.NumEnd Int → Bool
 | .range => true
 | _ => false
def int97 (s : List UInt8) (os : List (Obj E.A)) : Tree (RV E.A × List (Obj E.A)) := match endOk (Lib.parseIntB 64 s) with
 | some v => .ite (inRb .i64 v) (.leaf (.tup [(false, [.int .i64 v]), (false, [.lit .nilIface])], os)) .fail
 | none => cond (endFar (Lib.parseIntB 64 s)) (.ite (inRb .i64 (Lib.intSat 64 s)) (.leaf (.tup [(false, [.int .i64 (Lib.intSat 64 s)]), (false, [.ifc 160 .dead])], os)) .fail)
  (.leaf (.tup [(false, [.int .i64 0]), (false, [.ifc 160 .dead])], os))
def xspec97 : Spec E := fun args os => match args with
 | [.lf (.str s), .lf (.int .i64 10), .lf (.int .i64 64)] => .ite (decide (s.length ≤ 1000000000)) (int97 s os) .fail
 | _ => .fail
theorem tup97 {G : Gh} {w : World} {a b : Leaf E.A} {x y : Value} (h1 : Rep E G w a x) (h2 : Rep E G w b y) : RRep E G w (.tup [(false, [a]), (false, [b])]) (.tuple #[x, y]) := by
 refine .tup rfl (fun j r hj => ?_)
 match j with
 | 0 => injection hj with hj; subst hj; exact sone h1
 | 1 => injection hj with hj; subst hj; exact sone h2
 | j + 2 => cases hj
theorem xvalid97 (_ : Laws E) : Valid E 97 xspec97 :=
 valid_calls' (Go.Proofs.enters_of (fn := Go.Proofs.Tryz.f97) (by kernel_rfl) (by kernel_rfl) rfl) (fun args os r os' h => by
  unfold xspec97 at h
  split at h
  ·rename_i s
   rcases Tree.get_ite_some h with ⟨hg, h⟩ | ⟨_, h⟩
   ·have hg := of_decide_eq_true hg
    have hlen : ∀ ba : ByteArray, ba.data.toList = s → ba.size ≤ 1000000000 := fun ba e => by
     have := Lib.size_eq ba
     rw [e] at this; omega
    have hout : os' = os ∧ ∀ (G : Gh) (w : World) (vals : Array Value), ARel E G w [.lf (.str s), .lf (.int .i64 10), .lf (.int .i64 64)] vals → HRel E (fun i => os[i]?) G w → Calls E.P 97 vals w (fun e w' => ∃ v, e = .returned v ∧ RowKit.Below w.heap.size w w' ∧ RRep E G w' r v) := by
     have hev : ∀ {G : Gh} {w : World} (g : Nat), Glob E G w [.ifc 181 .dead] g → ∃ ev, w.cell? ⟨g, 0, none⟩ = some ev ∧ (ev = .nilIface ∨ ∃ te pe, ev = .iface te pe) := fun {G w} g hgl => by
      cases hgl.1 with
      | pp _ b off vals hp hcell hrep =>
       have h0 := (hcell 0 (by decide)).1
       have h1 := hrep 0 _ rfl
       generalize vals 0 = v0 at h0 h1
       cases h1 with
       | ifc _ => exact ⟨_, h0, .inr ⟨_, _, rfl⟩⟩
     unfold int97 at h
     cases hp : Lib.parseIntB 64 s
     ·rename_i v
      rw [hp] at h
      simp only [endOk] at h
      rcases Tree.get_ite_some h with ⟨hr, h⟩ | ⟨_, h⟩
      ·injection h with h; injection h with h1 h2
       subst h1; subst h2
       refine ⟨rfl, fun G w vals ha hh => ?_⟩
       obtain ⟨v1, v2, v3, rfl, hv, hu, hx⟩ := arel_three ha
       obtain ⟨ba, rfl, e, hsz⟩ := hv.str_inv
       obtain ⟨rfl, _⟩ := hu.int_inv
       obtain ⟨rfl, _⟩ := hx.int_inv
       have hl := hlen ba e
       rw [← e] at hp
       refine (Tryz.strconv_ParseInt_10_at64_ok ba (by omega) v hp w).mono fun e w' ⟨k1, k2⟩ => ⟨_, k1, ?_, tup97 (.int hr) (.lit rfl)⟩
       rcases k2 with rfl | ⟨t, rfl⟩
       ·exact Below.refl _ _
       ·exact Lib.bytesWorld_below _ _ _
      ·cases h
     ·rw [hp] at h
      simp only [endOk, endFar, cond_false] at h
      injection h with h; injection h with h1 h2
      subst h1; subst h2
      refine ⟨rfl, fun G w vals ha hh => ?_⟩
      obtain ⟨v1, v2, v3, rfl, hv, hu, hx⟩ := arel_three ha
      obtain ⟨ba, rfl, e, hsz⟩ := hv.str_inv
      obtain ⟨rfl, _⟩ := hu.int_inv
      obtain ⟨rfl, _⟩ := hx.int_inv
      have hl := hlen ba e
      rw [← e] at hp
      obtain ⟨ev, hc, hi⟩ := hev 5 (hh.gl 5 _ rfl)
      exact (Any.strconv_ParseInt_10_at64_syntax Tryz.laysC174 ba (by omega) hp ev w hc hi).mono fun e w' ⟨N, k1, _, _, k2⟩ => ⟨_, k1, k2, tup97 (.int rfl) (.ifc (.dead rfl))⟩
     ·rw [hp] at h
      simp only [endOk, endFar, cond_true] at h
      rcases Tree.get_ite_some h with ⟨hr, h⟩ | ⟨_, h⟩
      ·injection h with h; injection h with h1 h2
       subst h1; subst h2
       refine ⟨rfl, fun G w vals ha hh => ?_⟩
       obtain ⟨v1, v2, v3, rfl, hv, hu, hx⟩ := arel_three ha
       obtain ⟨ba, rfl, e, hsz⟩ := hv.str_inv
       obtain ⟨rfl, _⟩ := hu.int_inv
       obtain ⟨rfl, _⟩ := hx.int_inv
       have hl := hlen ba e
       rw [← e] at hp hr ⊢
       obtain ⟨ev, hc, hi⟩ := hev 6 (hh.gl 6 _ rfl)
       exact (Tryz.strconv_ParseInt_10_at64_range ba (by omega) hp ev w hc hi).mono fun e w' ⟨N, k1, _, _, k2⟩ => ⟨_, k1, k2, tup97 (.int hr) (.ifc (.dead rfl))⟩
      ·cases h
    exact hout
   ·cases h
  ·cases h)
end Go.Vx
end
