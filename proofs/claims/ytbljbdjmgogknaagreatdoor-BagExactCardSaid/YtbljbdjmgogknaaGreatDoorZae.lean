/-
  Shelf / Bwa / Bwb: texts of one proof, one behind the other.
  Conditions: none of its own.
-/
import Derived.Test.YtbljbdjmgogknaaGreatDoorZaa
import Derived.Shelf.Strings.Builder1
import Derived.Shelf.Strings.Builder2
import Derived.Shelf.Strings.OnBuilder
import Derived.Shelf.Small.Wraps
import Derived.Shelf.Strconv.Atoi
import Derived.Shelf.Strconv.Itoa0
import Derived.Shelf.Strconv.Itoa1
import Derived.Shelf.LaysM
import Derived.Shelf.Strconv.Itoa2
import Derived.Shelf.Strconv.Itoa3
import Derived.Shelf.Strconv.AtoiErrFast
import Derived.Shelf.Strconv.ParseIntEmpty
import Derived.Shelf.Strconv.AtoiFail
import Derived.Shelf.Strconv.Clone
import Derived.Shelf.Strconv.SyntaxError
import Derived.Shelf.LaysC
import Derived.Shelf.Strconv.ToError
import Derived.Shelf.Strconv.Lower
import Derived.Shelf.Strconv.ParseUint10
import Derived.Shelf.Strconv.ParseUint10Empty
import Derived.Shelf.Strconv.ParseUint10Any
import Derived.Shelf.Strconv.ParseInt10
import Derived.Shelf.Strconv.AtoiLong
import Derived.Shelf.Strconv.AtoiInnerAll
import Derived.Shelf.Strconv.RangeError
import Derived.Shelf.Strconv.ToErrorRange
import Derived.Shelf.Strconv.AtoiAll
import Derived.Shelf.Strconv.ErrVarAll
import Derived.Shelf.Strings.Search1
import Derived.Shelf.Strings.Search2
import Derived.Shelf.Strings.Cut
import Derived.Shelf.Strings.Shaped
import Derived.Shelf.Strings.Prefix
import Derived.Test.YtbljbdjmgogknaaGreatDoorRows
import Derived.Lib.Join
import Derived.WalkSmall
set_option linter.unusedVariables false
set_option linter.unusedSimpArgs false
set_option maxHeartbeats 400000
namespace Go.Proofs
open Go.Shelf
def Tryz.lays156_ren : Go.Shelf.Ren := ⟨fun | 156 => 79 | 165 => 109 | 166 => 110 | 169 => 111 | 240 => 130 | 241 => 131 | 276 => 138 | 277 => 139 | n => n, fun | 31 => 93 | 9 => 9 | 3 => 3 | 4 => 4 | 0 => 0 | 20 => 20 | 72 => 149 | 76 => 153 | 70 => 147 | 37 => 146 | 75 => 152 | 127 => 175 | 164 => 178 | 5 => 5 | 80 => 155 | n => n, fun | n => n⟩
theorem Tryz.lays156 : Go.Proofs.Lays.n156 Tryz.prog Tryz.lays156_ren := {
 mixed := by kernel_rfl
 f156 := Tryz.func79.trans (congrArg some (by kernel_rfl))
 f165 := Tryz.func109.trans (congrArg some (by kernel_rfl))
 f166 := Tryz.func110.trans (congrArg some (by kernel_rfl))
 f169 := Tryz.func111.trans (congrArg some (by kernel_rfl))
 f240 := Tryz.func130.trans (congrArg some (by kernel_rfl))
 f241 := Tryz.func131.trans (congrArg some (by kernel_rfl))
 f276 := Tryz.func138.trans (congrArg some (by kernel_rfl))
 f277 := Tryz.func139.trans (congrArg some (by kernel_rfl))
 t0 := Tryz.underlying0
 a0 := Tryz.isAgg0
 z0 := Tryz.sizeOf0
 v0 := Tryz.zeroValue0
 t3 := Tryz.underlying3
 a3 := Tryz.isAgg3
 z3 := Tryz.sizeOf3
 v3 := Tryz.zeroValue3
 t4 := Tryz.underlying4
 a4 := Tryz.isAgg4
 z4 := Tryz.sizeOf4
 v4 := Tryz.zeroValue4
 t9 := Tryz.underlying9
 a9 := Tryz.isAgg9
 z9 := Tryz.sizeOf9
 v9 := Tryz.zeroValue9
 t20 := Tryz.underlying20
 a20 := Tryz.isAgg20
 z20 := Tryz.sizeOf20
 v20 := Tryz.zeroValue20
 t31 := Tryz.underlying93
 a31 := Tryz.isAgg93
 z31 := Tryz.sizeOf93
 v31 := Tryz.zeroValue93
 t37 := Tryz.underlying146
 a37 := Tryz.isAgg146
 z37 := Tryz.sizeOf146
 v37 := Tryz.zeroValue146
 t70 := Tryz.underlying147
 a70 := Tryz.isAgg147
 z70 := Tryz.sizeOf147
 v70 := Tryz.zeroValue147
 t72 := Tryz.underlying149
 a72 := Tryz.isAgg149
 z72 := Tryz.sizeOf149
 v72 := Tryz.zeroValue149
 t75 := Tryz.underlying152
 a75 := Tryz.isAgg152
 z75 := Tryz.sizeOf152
 v75 := Tryz.zeroValue152
 t76 := Tryz.underlying153
 a76 := Tryz.isAgg153
 z76 := Tryz.sizeOf153
 v76 := Tryz.zeroValue153
 t127 := Tryz.underlying175
 a127 := Tryz.isAgg175
 z127 := Tryz.sizeOf175
 v127 := Tryz.zeroValue175
 t164 := Tryz.underlying178
 a164 := Tryz.isAgg178
 z164 := Tryz.sizeOf178
 v164 := Tryz.zeroValue178 }
theorem Tryz.Builder_Extra_156 : Builder.Extra Tryz.prog Tryz.lays156_ren := {
 sizeBuilder := by kernel_rfl
 liesBuilder := by kernel_rfl
 t5 := Tryz.underlying5
 a5 := Tryz.isAgg5
 z5 := Tryz.sizeOf5
 v5 := Tryz.zeroValue5
 infoByte := by kernel_rfl
 cellsByte := by kernel_rfl
 sizeByte := by kernel_rfl
 neB5 := by decide }
open Go.RowKit in
theorem Tryz.strings_Join_none (a : Option Addr) (c : Nat) (sep : ByteArray) (w : World) :
  Calls Tryz.prog 79 #[.slice a 0 c, .string sep] w fun e w' => e = .returned (.string ⟨#[]⟩) ∧ w' = w := Any.strings_Join_none Tryz.lays156 Tryz.Builder_Extra_156 a c sep w
open Go.RowKit in
theorem Tryz.strings_Join (bk o c : Nat) (xs : List ByteArray) (sep : ByteArray) (w : World) (hcells : ∀ (j : Nat) x, xs[j]? = some x → w.cell? ⟨bk, o + j, none⟩ = some (.string x)) (hbk : bk < w.heap.size) (hN : xs.length ≤ 140737488355328) (hcap : xs.length ≤ c) (hlen : (Lib.join (xs.map (·.data.toList)) sep.data.toList).length ≤ 140737488355328) :
  Calls Tryz.prog 79 #[.slice (some ⟨bk, o, none⟩) xs.length c, .string sep] w fun e w' => e = .returned (.string ⟨(Lib.join (xs.map (·.data.toList)) sep.data.toList).toArray⟩) ∧ Below w.heap.size w w' := Any.strings_Join Tryz.lays156 Tryz.Builder_Extra_156 bk o c xs sep w hcells hbk hN hcap hlen
def Tryz.lays103_ren : Go.Shelf.Ren := ⟨fun | 103 => 116 | 210 => 133 | 206 => 141 | n => n, fun | 9 => 9 | 4 => 4 | 24 => 157 | 3 => 3 | n => n, fun | n => n⟩
theorem Tryz.lays103 : Go.Proofs.Lays.n103 Tryz.prog Tryz.lays103_ren := {
 mixed := by kernel_rfl
 f103 := Tryz.func116.trans (congrArg some (by kernel_rfl))
 f206 := Tryz.func141.trans (congrArg some (by kernel_rfl))
 f210 := Tryz.func133.trans (congrArg some (by kernel_rfl))
 t3 := Tryz.underlying3
 a3 := Tryz.isAgg3
 z3 := Tryz.sizeOf3
 v3 := Tryz.zeroValue3
 t4 := Tryz.underlying4
 a4 := Tryz.isAgg4
 z4 := Tryz.sizeOf4
 v4 := Tryz.zeroValue4
 t9 := Tryz.underlying9
 a9 := Tryz.isAgg9
 z9 := Tryz.sizeOf9
 v9 := Tryz.zeroValue9
 t24 := Tryz.underlying157
 a24 := Tryz.isAgg157
 z24 := Tryz.sizeOf157
 v24 := Tryz.zeroValue157 }
open Go.RowKit in
theorem Tryz.strings_CutPrefix (s p : ByteArray) (w : World) :
  Calls Tryz.prog 116 #[.string s, .string p] w fun e w' => e = .returned (.tuple #[.string ⟨(Lib.trimPrefix s.data.toList p.data.toList).toArray⟩, .bool (Lib.hasPrefix s.data.toList p.data.toList)]) ∧ w' = w := Any.strings_CutPrefix Tryz.lays103 s p w
def Tryz.laysM171_ren : Go.Shelf.Ren := ⟨fun | 171 => 112 | 243 => 132 | 246 => 140 | 283 => 148 | 284 => 149 | 285 => 150 | 286 => 151 | 129 => 160 | 317 => 159 | 318 => 161 | 319 => 162 | 320 => 163 | 337 => 168 | 338 => 169 | n => n, fun | 3 => 3 | 9 => 9 | 2 => 2 | 4 => 4 | 171 => 190 | 0 => 0 | 53 => 191 | 37 => 146 | 5 => 5 | 173 => 194 | 212 => 202 | 51 => 118 | 20 => 20 | 213 => 203 | 46 => 60 | 232 => 213 | 233 => 214 | n => n, fun | 17 => 3 | 18 => 4 | 19 => 5 | n => n⟩
theorem Tryz.laysM171 : Go.Proofs.LaysM.n171 Tryz.prog Tryz.laysM171_ren := {
 mixed := by kernel_rfl
 f129 := Tryz.func160.trans (congrArg some (by kernel_rfl))
 f171 := Tryz.func112.trans (congrArg some (by kernel_rfl))
 f243 := Tryz.func132.trans (congrArg some (by kernel_rfl))
 f246 := Tryz.func140.trans (congrArg some (by kernel_rfl))
 f283 := Tryz.func148.trans (congrArg some (by kernel_rfl))
 f284 := Tryz.func149.trans (congrArg some (by kernel_rfl))
 f285 := Tryz.func150.trans (congrArg some (by kernel_rfl))
 f286 := Tryz.func151.trans (congrArg some (by kernel_rfl))
 f317 := Tryz.func159.trans (congrArg some (by kernel_rfl))
 f318 := Tryz.func161.trans (congrArg some (by kernel_rfl))
 f319 := Tryz.func162.trans (congrArg some (by kernel_rfl))
 f320 := Tryz.func163.trans (congrArg some (by kernel_rfl))
 f337 := Tryz.func168.trans (congrArg some (by kernel_rfl))
 f338 := Tryz.func169.trans (congrArg some (by kernel_rfl))
 t0 := Tryz.underlying0
 a0 := Tryz.isAgg0
 z0 := Tryz.sizeOf0
 v0 := Tryz.zeroValue0
 t2 := Tryz.underlying2
 a2 := Tryz.isAgg2
 z2 := Tryz.sizeOf2
 v2 := Tryz.zeroValue2
 t3 := Tryz.underlying3
 a3 := Tryz.isAgg3
 z3 := Tryz.sizeOf3
 v3 := Tryz.zeroValue3
 t4 := Tryz.underlying4
 a4 := Tryz.isAgg4
 z4 := Tryz.sizeOf4
 v4 := Tryz.zeroValue4
 t5 := Tryz.underlying5
 a5 := Tryz.isAgg5
 z5 := Tryz.sizeOf5
 v5 := Tryz.zeroValue5
 t9 := Tryz.underlying9
 a9 := Tryz.isAgg9
 z9 := Tryz.sizeOf9
 v9 := Tryz.zeroValue9
 t20 := Tryz.underlying20
 a20 := Tryz.isAgg20
 z20 := Tryz.sizeOf20
 v20 := Tryz.zeroValue20
 t37 := Tryz.underlying146
 a37 := Tryz.isAgg146
 z37 := Tryz.sizeOf146
 v37 := Tryz.zeroValue146
 t46 := Tryz.underlying60
 a46 := Tryz.isAgg60
 z46 := Tryz.sizeOf60
 v46 := Tryz.zeroValue60
 t51 := Tryz.underlying118
 a51 := Tryz.isAgg118
 z51 := Tryz.sizeOf118
 v51 := Tryz.zeroValue118
 t53 := Tryz.underlying191
 a53 := Tryz.isAgg191
 z53 := Tryz.sizeOf191
 v53 := Tryz.zeroValue191
 t171 := Tryz.underlying190
 a171 := Tryz.isAgg190
 z171 := Tryz.sizeOf190
 v171 := Tryz.zeroValue190
 t173 := Tryz.underlying194
 a173 := Tryz.isAgg194
 z173 := Tryz.sizeOf194
 v173 := Tryz.zeroValue194
 t212 := Tryz.underlying202
 a212 := Tryz.isAgg202
 z212 := Tryz.sizeOf202
 v212 := Tryz.zeroValue202
 t213 := Tryz.underlying203
 a213 := Tryz.isAgg203
 z213 := Tryz.sizeOf203
 t232 := Tryz.underlying213
 a232 := Tryz.isAgg213
 z232 := Tryz.sizeOf213
 v232 := Tryz.zeroValue213
 t233 := Tryz.underlying214
 a233 := Tryz.isAgg214
 z233 := Tryz.sizeOf214
 v233 := Tryz.zeroValue214
 g17 := by kernel_rfl
 g18 := by kernel_rfl
 g19 := by kernel_rfl
 i0 := by kernel_rfl
 i2 := by kernel_rfl
 i3 := by kernel_rfl
 i4 := by kernel_rfl
 i5 := by kernel_rfl
 i9 := by kernel_rfl
 i20 := by kernel_rfl
 i37 := by kernel_rfl
 i46 := by kernel_rfl
 i51 := by kernel_rfl
 i53 := by kernel_rfl
 i171 := by kernel_rfl
 i173 := by kernel_rfl
 i212 := by kernel_rfl
 i232 := by kernel_rfl
 i233 := by kernel_rfl
 m17 := by kernel_rfl
 m18 := by kernel_rfl
 m19 := by kernel_rfl }
open Go.RowKit Go.Sort Go.Lib in
theorem Tryz.strconv_Itoa (n : Int) (h0 : -9223372036854775808 ≤ n) (h1 : n ≤ 9223372036854775807) (w : World) (htab : Lib.TabIs Tryz.prog w "internal/strconv.uint64pow10" .u64 Lib.pow10Tab) :
  Calls Tryz.prog 112 #[.int .i64 n] w fun e w' => e = .returned (.string ⟨(Lib.itoa n).toArray⟩) ∧ ∃ k os, w' = grow (w.drewN k) os := Any.strconv_Itoa Tryz.laysM171 n h0 h1 w htab
def Tryz.laysC172_ren : Go.Shelf.Ren := ⟨fun | 172 => 118 | 244 => 135 | 245 => 136 | 247 => 143 | 279 => 144 | 280 => 145 | 281 => 146 | 282 => 147 | 287 => 156 | 316 => 157 | 171 => 112 | 205 => 158 | 321 => 166 | 322 => 167 | 243 => 132 | 246 => 140 | 283 => 148 | 284 => 149 | 285 => 150 | 286 => 151 | 129 => 160 | 317 => 159 | 318 => 161 | 319 => 162 | 320 => 163 | 337 => 168 | 338 => 169 | n => n, fun | 9 => 9 | 3 => 3 | 75 => 152 | 76 => 153 | 4 => 4 | 5 => 5 | 167 => 184 | 37 => 146 | 0 => 0 | 85 => 185 | 2 => 2 | 168 => 187 | 53 => 191 | 175 => 197 | 46 => 60 | 210 => 200 | 127 => 175 | 145 => 211 | 143 => 209 | 21 => 21 | 171 => 190 | 173 => 194 | 212 => 202 | 51 => 118 | 20 => 20 | 213 => 203 | 232 => 213 | 233 => 214 | 80 => 155 | n => n, fun | 15 => 1 | 16 => 2 | 17 => 3 | 18 => 4 | 19 => 5 | n => n⟩
theorem Tryz.laysC172 : Go.Proofs.LaysC.n172 Tryz.prog Tryz.laysC172_ren := {
 mixed := by kernel_rfl
 f129 := Tryz.func160.trans (congrArg some (by kernel_rfl))
 f171 := Tryz.func112.trans (congrArg some (by kernel_rfl))
 f172 := Tryz.func118.trans (congrArg some (by kernel_rfl))
 f205 := Tryz.func158.trans (congrArg some (by kernel_rfl))
 f243 := Tryz.func132.trans (congrArg some (by kernel_rfl))
 f244 := Tryz.func135.trans (congrArg some (by kernel_rfl))
 f245 := Tryz.func136.trans (congrArg some (by kernel_rfl))
 f246 := Tryz.func140.trans (congrArg some (by kernel_rfl))
 f247 := Tryz.func143.trans (congrArg some (by kernel_rfl))
 f279 := Tryz.func144.trans (congrArg some (by kernel_rfl))
 f280 := Tryz.func145.trans (congrArg some (by kernel_rfl))
 f281 := Tryz.func146.trans (congrArg some (by kernel_rfl))
 f282 := Tryz.func147.trans (congrArg some (by kernel_rfl))
 f283 := Tryz.func148.trans (congrArg some (by kernel_rfl))
 f284 := Tryz.func149.trans (congrArg some (by kernel_rfl))
 f285 := Tryz.func150.trans (congrArg some (by kernel_rfl))
 f286 := Tryz.func151.trans (congrArg some (by kernel_rfl))
 f287 := Tryz.func156.trans (congrArg some (by kernel_rfl))
 f316 := Tryz.func157.trans (congrArg some (by kernel_rfl))
 f317 := Tryz.func159.trans (congrArg some (by kernel_rfl))
 f318 := Tryz.func161.trans (congrArg some (by kernel_rfl))
 f319 := Tryz.func162.trans (congrArg some (by kernel_rfl))
 f320 := Tryz.func163.trans (congrArg some (by kernel_rfl))
 f321 := Tryz.func166.trans (congrArg some (by kernel_rfl))
 f322 := Tryz.func167.trans (congrArg some (by kernel_rfl))
 f337 := Tryz.func168.trans (congrArg some (by kernel_rfl))
 f338 := Tryz.func169.trans (congrArg some (by kernel_rfl))
 t0 := Tryz.underlying0
 a0 := Tryz.isAgg0
 z0 := Tryz.sizeOf0
 v0 := Tryz.zeroValue0
 t2 := Tryz.underlying2
 a2 := Tryz.isAgg2
 z2 := Tryz.sizeOf2
 v2 := Tryz.zeroValue2
 t3 := Tryz.underlying3
 a3 := Tryz.isAgg3
 z3 := Tryz.sizeOf3
 v3 := Tryz.zeroValue3
 t4 := Tryz.underlying4
 a4 := Tryz.isAgg4
 z4 := Tryz.sizeOf4
 v4 := Tryz.zeroValue4
 t5 := Tryz.underlying5
 a5 := Tryz.isAgg5
 z5 := Tryz.sizeOf5
 v5 := Tryz.zeroValue5
 t9 := Tryz.underlying9
 a9 := Tryz.isAgg9
 z9 := Tryz.sizeOf9
 v9 := Tryz.zeroValue9
 t20 := Tryz.underlying20
 a20 := Tryz.isAgg20
 z20 := Tryz.sizeOf20
 v20 := Tryz.zeroValue20
 t21 := Tryz.underlying21
 a21 := Tryz.isAgg21
 z21 := Tryz.sizeOf21
 v21 := Tryz.zeroValue21
 t37 := Tryz.underlying146
 a37 := Tryz.isAgg146
 z37 := Tryz.sizeOf146
 v37 := Tryz.zeroValue146
 t46 := Tryz.underlying60
 a46 := Tryz.isAgg60
 z46 := Tryz.sizeOf60
 v46 := Tryz.zeroValue60
 t51 := Tryz.underlying118
 a51 := Tryz.isAgg118
 z51 := Tryz.sizeOf118
 v51 := Tryz.zeroValue118
 t53 := Tryz.underlying191
 a53 := Tryz.isAgg191
 z53 := Tryz.sizeOf191
 v53 := Tryz.zeroValue191
 t75 := Tryz.underlying152
 a75 := Tryz.isAgg152
 z75 := Tryz.sizeOf152
 v75 := Tryz.zeroValue152
 t76 := Tryz.underlying153
 a76 := Tryz.isAgg153
 z76 := Tryz.sizeOf153
 v76 := Tryz.zeroValue153
 t85 := Tryz.underlying185
 a85 := Tryz.isAgg185
 z85 := Tryz.sizeOf185
 v85 := Tryz.zeroValue185
 t127 := Tryz.underlying175
 a127 := Tryz.isAgg175
 z127 := Tryz.sizeOf175
 v127 := Tryz.zeroValue175
 t143 := Tryz.underlying209
 a143 := Tryz.isAgg209
 z143 := Tryz.sizeOf209
 v143 := Tryz.zeroValue209
 t145 := Tryz.underlying211
 a145 := Tryz.isAgg211
 z145 := Tryz.sizeOf211
 v145 := Tryz.zeroValue211
 t167 := Tryz.underlying184
 a167 := Tryz.isAgg184
 z167 := Tryz.sizeOf184
 v167 := Tryz.zeroValue184
 t168 := Tryz.underlying187
 a168 := Tryz.isAgg187
 z168 := Tryz.sizeOf187
 v168 := Tryz.zeroValue187
 t171 := Tryz.underlying190
 a171 := Tryz.isAgg190
 z171 := Tryz.sizeOf190
 v171 := Tryz.zeroValue190
 t173 := Tryz.underlying194
 a173 := Tryz.isAgg194
 z173 := Tryz.sizeOf194
 v173 := Tryz.zeroValue194
 t175 := Tryz.underlying197
 a175 := Tryz.isAgg197
 z175 := Tryz.sizeOf197
 v175 := Tryz.zeroValue197
 t210 := Tryz.underlying200
 a210 := Tryz.isAgg200
 z210 := Tryz.sizeOf200
 v210 := Tryz.zeroValue200
 t212 := Tryz.underlying202
 a212 := Tryz.isAgg202
 z212 := Tryz.sizeOf202
 v212 := Tryz.zeroValue202
 t213 := Tryz.underlying203
 a213 := Tryz.isAgg203
 z213 := Tryz.sizeOf203
 t232 := Tryz.underlying213
 a232 := Tryz.isAgg213
 z232 := Tryz.sizeOf213
 v232 := Tryz.zeroValue213
 t233 := Tryz.underlying214
 a233 := Tryz.isAgg214
 z233 := Tryz.sizeOf214
 v233 := Tryz.zeroValue214
 g15 := by kernel_rfl
 g16 := by kernel_rfl
 g17 := by kernel_rfl
 g18 := by kernel_rfl
 g19 := by kernel_rfl
 t80 := Tryz.underlying155
 a80 := Tryz.isAgg155
 z80 := Tryz.sizeOf155
 v80 := Tryz.zeroValue155
 i0 := by kernel_rfl
 i2 := by kernel_rfl
 i3 := by kernel_rfl
 i4 := by kernel_rfl
 i5 := by kernel_rfl
 i9 := by kernel_rfl
 i20 := by kernel_rfl
 i21 := by kernel_rfl
 i37 := by kernel_rfl
 i46 := by kernel_rfl
 i51 := by kernel_rfl
 i53 := by kernel_rfl
 i75 := by kernel_rfl
 i76 := by kernel_rfl
 i80 := by kernel_rfl
 i85 := by kernel_rfl
 i127 := by kernel_rfl
 i143 := by kernel_rfl
 i145 := by kernel_rfl
 i167 := by kernel_rfl
 i168 := by kernel_rfl
 i171 := by kernel_rfl
 i173 := by kernel_rfl
 i175 := by kernel_rfl
 i210 := by kernel_rfl
 i212 := by kernel_rfl
 i232 := by kernel_rfl
 i233 := by kernel_rfl
 m15 := by kernel_rfl
 m16 := by kernel_rfl
 m17 := by kernel_rfl
 m18 := by kernel_rfl
 m19 := by kernel_rfl
 c0 := by kernel_rfl
 c2 := by kernel_rfl
 c3 := by kernel_rfl
 c4 := by kernel_rfl
 c5 := by kernel_rfl
 c9 := by kernel_rfl
 c20 := by kernel_rfl
 c21 := by kernel_rfl
 c37 := by kernel_rfl
 c46 := by kernel_rfl
 c51 := by kernel_rfl
 c53 := by kernel_rfl
 c75 := by kernel_rfl
 c76 := by kernel_rfl
 c80 := by kernel_rfl
 c85 := by kernel_rfl
 c127 := by kernel_rfl
 c143 := by kernel_rfl
 c145 := by kernel_rfl
 c167 := by kernel_rfl
 c168 := by kernel_rfl
 c171 := by kernel_rfl
 c173 := by kernel_rfl
 c175 := by kernel_rfl
 c210 := by kernel_rfl
 c212 := by kernel_rfl
 c213 := by kernel_rfl
 c232 := by kernel_rfl
 c233 := by kernel_rfl }
open Go.RowKit in
theorem Tryz.strconv_Atoi_ok (s : ByteArray) (hmax : s.size ≤ 9223372036854775806) (v : Int) (h : Lib.atoiAll s.data.toList = .ok v) (w : World) :
  Calls Tryz.prog 118 #[.string s] w fun e w' => e = .returned (.tuple #[.int .i64 v, .nilIface]) ∧ (w' = w ∨ ∃ t, w' = Lib.bytesWorld w 5 t) := Any.strconv_Atoi_ok Tryz.laysC172 s hmax v h w
open Go.RowKit in
theorem Tryz.strconv_Atoi_range_var (s : ByteArray) (hlim : s.size ≤ 281474976710656) (h : Lib.atoiAll s.data.toList = .range) (tp : TypeId) (p : Value) (w : World) (hvar : w.var? Tryz.prog "strconv.ErrRange" = some #[.iface tp p]) :
  Calls Tryz.prog 118 #[.string s] w fun e w' => ∃ N, e = .returned (.tuple #[.int .i64 (Lib.atoiSat s.data.toList), .iface 187 (.pointer (some ⟨N, 0, none⟩))]) ∧ w.heap.size ≤ N ∧ w'.heap[N]? = some (.cells #[.string ⟨#[65, 116, 111, 105]⟩, .string s, .iface tp p] 200 (0, 0)) ∧ Below w.heap.size w w' := Any.strconv_Atoi_range_var Tryz.laysC172 s hlim h tp p w hvar
def Tryz.lays145_ren : Go.Shelf.Ren := ⟨fun | 145 => 117 | 220 => 134 | 219 => 142 | 217 => 152 | 225 => 153 | 224 => 154 | 267 => 155 | 266 => 164 | 314 => 165 | n => n, fun | 9 => 9 | 4 => 4 | 59 => 159 | 3 => 3 | 5 => 5 | 46 => 60 | 146 => 205 | 51 => 118 | n => n, fun | 1 => 0 | n => n⟩
theorem Tryz.lays145 : Go.Proofs.Lays.n145 Tryz.prog Tryz.lays145_ren := {
 mixed := by kernel_rfl
 f145 := Tryz.func117.trans (congrArg some (by kernel_rfl))
 f217 := Tryz.func152.trans (congrArg some (by kernel_rfl))
 f219 := Tryz.func142.trans (congrArg some (by kernel_rfl))
 f220 := Tryz.func134.trans (congrArg some (by kernel_rfl))
 f224 := Tryz.func154.trans (congrArg some (by kernel_rfl))
 f225 := Tryz.func153.trans (congrArg some (by kernel_rfl))
 f266 := Tryz.func164.trans (congrArg some (by kernel_rfl))
 f267 := Tryz.func155.trans (congrArg some (by kernel_rfl))
 f314 := Tryz.func165.trans (congrArg some (by kernel_rfl))
 t3 := Tryz.underlying3
 a3 := Tryz.isAgg3
 z3 := Tryz.sizeOf3
 v3 := Tryz.zeroValue3
 t4 := Tryz.underlying4
 a4 := Tryz.isAgg4
 z4 := Tryz.sizeOf4
 v4 := Tryz.zeroValue4
 t5 := Tryz.underlying5
 a5 := Tryz.isAgg5
 z5 := Tryz.sizeOf5
 v5 := Tryz.zeroValue5
 t9 := Tryz.underlying9
 a9 := Tryz.isAgg9
 z9 := Tryz.sizeOf9
 v9 := Tryz.zeroValue9
 t46 := Tryz.underlying60
 a46 := Tryz.isAgg60
 z46 := Tryz.sizeOf60
 v46 := Tryz.zeroValue60
 t51 := Tryz.underlying118
 a51 := Tryz.isAgg118
 z51 := Tryz.sizeOf118
 v51 := Tryz.zeroValue118
 t59 := Tryz.underlying159
 a59 := Tryz.isAgg159
 z59 := Tryz.sizeOf159
 v59 := Tryz.zeroValue159
 t146 := Tryz.underlying205
 a146 := Tryz.isAgg205
 z146 := Tryz.sizeOf205
 v146 := Tryz.zeroValue205
 g1 := by kernel_rfl }
open Go.RowKit Go.Lib in
theorem Tryz.strings_Cut (s sep : ByteArray) (m : Int) (w : World) (hs : s.size < 4294967281) (hm : w.cell? ⟨0, 0, none⟩ = some (.int .i64 m)) :
  Calls Tryz.prog 117 #[.string s, .string sep] w fun e w' => e = .returned (.tuple #[.string ⟨(Lib.cut s.data.toList sep.data.toList).1.toArray⟩, .string ⟨(Lib.cut s.data.toList sep.data.toList).2.1.toArray⟩, .bool (Lib.cut s.data.toList sep.data.toList).2.2]) ∧ ∃ n, w' = w.drewN n := Any.strings_Cut Tryz.lays145 s sep m w hs hm
def Tryz.laysM145_ren : Go.Shelf.Ren := ⟨fun | 145 => 117 | 220 => 134 | 219 => 142 | 217 => 152 | 225 => 153 | 224 => 154 | 267 => 155 | 266 => 164 | 314 => 165 | n => n, fun | 9 => 9 | 4 => 4 | 59 => 159 | 3 => 3 | 5 => 5 | 46 => 60 | 146 => 205 | 51 => 118 | n => n, fun | 1 => 0 | n => n⟩
theorem Tryz.laysM145 : Go.Proofs.LaysM.n145 Tryz.prog Tryz.laysM145_ren := {
 mixed := by kernel_rfl
 f145 := Tryz.func117.trans (congrArg some (by kernel_rfl))
 f217 := Tryz.func152.trans (congrArg some (by kernel_rfl))
 f219 := Tryz.func142.trans (congrArg some (by kernel_rfl))
 f220 := Tryz.func134.trans (congrArg some (by kernel_rfl))
 f224 := Tryz.func154.trans (congrArg some (by kernel_rfl))
 f225 := Tryz.func153.trans (congrArg some (by kernel_rfl))
 f266 := Tryz.func164.trans (congrArg some (by kernel_rfl))
 f267 := Tryz.func155.trans (congrArg some (by kernel_rfl))
 f314 := Tryz.func165.trans (congrArg some (by kernel_rfl))
 t3 := Tryz.underlying3
 a3 := Tryz.isAgg3
 z3 := Tryz.sizeOf3
 v3 := Tryz.zeroValue3
 t4 := Tryz.underlying4
 a4 := Tryz.isAgg4
 z4 := Tryz.sizeOf4
 v4 := Tryz.zeroValue4
 t5 := Tryz.underlying5
 a5 := Tryz.isAgg5
 z5 := Tryz.sizeOf5
 v5 := Tryz.zeroValue5
 t9 := Tryz.underlying9
 a9 := Tryz.isAgg9
 z9 := Tryz.sizeOf9
 v9 := Tryz.zeroValue9
 t46 := Tryz.underlying60
 a46 := Tryz.isAgg60
 z46 := Tryz.sizeOf60
 v46 := Tryz.zeroValue60
 t51 := Tryz.underlying118
 a51 := Tryz.isAgg118
 z51 := Tryz.sizeOf118
 v51 := Tryz.zeroValue118
 t59 := Tryz.underlying159
 a59 := Tryz.isAgg159
 z59 := Tryz.sizeOf159
 v59 := Tryz.zeroValue159
 t146 := Tryz.underlying205
 a146 := Tryz.isAgg205
 z146 := Tryz.sizeOf205
 v146 := Tryz.zeroValue205
 g1 := by kernel_rfl
 i3 := by kernel_rfl
 i4 := by kernel_rfl
 i5 := by kernel_rfl
 i9 := by kernel_rfl
 i46 := by kernel_rfl
 i51 := by kernel_rfl
 i59 := by kernel_rfl
 i146 := by kernel_rfl
 m1 := by kernel_rfl
 s1_3 := fun w h => Go.Proofs.cell_of_shapedOpen_int (zero := #[.int .i64 0]) (t := 3) h (of_decide_eq_true (by kernel_rfl)) (by kernel_rfl) rfl (by kernel_rfl) (by kernel_rfl) Tryz.underlying3 }
open Go.RowKit Go.Lib in
theorem Tryz.strings_Cut_shaped (s sep : ByteArray) (w : World) (h : w.ShapedOpen Tryz.prog) (hs : s.size < 4294967281) :
  Calls Tryz.prog 117 #[.string s, .string sep] w fun e w' => e = .returned (.tuple #[.string ⟨(Lib.cut s.data.toList sep.data.toList).1.toArray⟩, .string ⟨(Lib.cut s.data.toList sep.data.toList).2.1.toArray⟩, .bool (Lib.cut s.data.toList sep.data.toList).2.2]) ∧ ∃ n, w' = w.drewN n := Any.strings_Cut_shaped Tryz.laysM145 s sep w h hs
end Go.Proofs
namespace Go.Proofs.YtbljbdjmgogknaaGreatDoor
open Go.RowKit
structure Lw (w : World) : Prop where
 tab : Lib.TabIs Tryz.prog w "internal/strconv.uint64pow10" .u64 Lib.pow10Tab
 syn : ∃ tp p,w.var? Tryz.prog "strconv.ErrSyntax" = some #[.iface tp p]
 rng : ∃ tp p,w.var? Tryz.prog "strconv.ErrRange" = some #[.iface tp p]
 mx : ∃ m,w.cell? ⟨0,0,none⟩ = some (.int .i64 m)
theorem gTab : Tryz.prog.globalNamed "internal/strconv.uint64pow10" = some 3 := by kernel_rfl
theorem gSyn : Tryz.prog.globalNamed "strconv.ErrSyntax" = some 1 := by kernel_rfl
theorem gRng : Tryz.prog.globalNamed "strconv.ErrRange" = some 2 := by kernel_rfl
theorem var_lt {P : Program} {w : World} {n : String} {g : Nat} {cs : Array Value} (hg : P.globalNamed n = some g) (h : w.var? P n = some cs) : g < w.heap.size := by
 unfold World.var? at h
 simp only [hg,Option.bind_some] at h
 rcases Nat.lt_or_ge g w.heap.size with hlt | hge
 ·exact hlt
 ·rw [Array.getElem?_eq_none hge] at h; cases h
theorem var_below {P : Program} {w w' : World} {n : String} {g : Nat} {cs : Array Value} (hg : P.globalNamed n = some g) (h : w.var? P n = some cs) (hb : Below w.heap.size w w') : w'.var? P n = some cs :=
 var?_below hb hg (var_lt hg h) h
theorem Lw.below {w w' : World} (h : Lw w) (hb : Below w.heap.size w w') : Lw w' := by
 obtain ⟨h1,⟨t2,p2,h2⟩,⟨t3,p3,h3⟩,⟨m,h4⟩⟩ := h
 refine ⟨var_below gTab h1 hb,⟨t2,p2,var_below gSyn h2 hb⟩,⟨t3,p3,var_below gRng h3 hb⟩,m,?_⟩
 rw [hb.cell (p := ⟨0,0,none⟩) (World.block_lt_of_cell? w _ h4)]
 exact h4
theorem Lw.drewN {w : World} (h : Lw w) (n : Nat) : Lw (w.drewN n) := h.below (below_drewN (Below.refl _ _) n)
/-! ### The library's functions over lists of bytes -/
theorem below_grow (w : World) (k : Nat) (os : Array Obj) : Below w.heap.size w (Go.Sort.grow (w.drewN k) os) :=
 ⟨rfl,rfl,rfl,by simp [Go.Sort.grow,World.drewN],fun j hj => by
  show (w.heap ++ os)[j]? = w.heap[j]?
  rw [Array.getElem?_append_left hj]⟩
theorem itoa_any (n : Int) (hn : Bd.inR n) (w : World) (hw : Lw w) : Calls Tryz.prog 112 #[.int .i64 n] w fun e w' => e = .returned (.string ⟨(Lib.itoa n).toArray⟩) ∧ Below w.heap.size w w' := by
 refine (Tryz.strconv_Itoa n hn.1 hn.2 w hw.tab).mono ?_
 rintro e w' ⟨he,k,os,rfl⟩
 exact ⟨he,below_grow w k os⟩
theorem join_flat (ls : List (List UInt8)) : Lib.join ls [] = ls.flatten := by
 cases ls with
 | nil => rfl
 | cons x r => rw [Lib.join_cons]; simp [Lib.joinTail]
def Strs (w : World) (v : Value) (ls : List (List UInt8)) : Prop :=
 (v = .slice none 0 0 ∧ ls = []) ∨ ∃ g o c,v = .slice (some ⟨g,o,none⟩) ls.length c ∧ g < w.heap.size ∧ ls.length ≤ c ∧ ∀ (j : Nat) x,ls[j]? = some x → w.cell? ⟨g,o + j,none⟩ = some (.string ⟨x.toArray⟩)
theorem join_any (v : Value) (ls : List (List UInt8)) (w : World) (h : Strs w v ls) (hl : ls.length ≤ 140737488355328) (hb : ls.flatten.length ≤ 140737488355328) :
  Calls Tryz.prog 79 #[v,.string ⟨#[]⟩] w fun e w' => e = .returned (.string ⟨ls.flatten.toArray⟩) ∧ Below w.heap.size w w' := by
 rcases h with ⟨rfl,rfl⟩ | ⟨g,o,c,rfl,hg,hc,hcell⟩
 ·refine (Tryz.strings_Join_none none 0 ⟨#[]⟩ w).mono ?_
  rintro e w' ⟨he,rfl⟩
  exact ⟨he,Below.refl _ _⟩
 ·have hm : (ls.map (fun x => (⟨x.toArray⟩ : ByteArray))).map (·.data.toList) = ls := by rw [List.map_map]; exact (List.map_congr_left fun x _ => rfl).trans (List.map_id _)
  have := Tryz.strings_Join g o c (ls.map fun x => ⟨x.toArray⟩) ⟨#[]⟩ w (fun j x hx => by
   rw [List.getElem?_map] at hx
   cases hj : ls[j]? with
   | none => rw [hj] at hx; cases hx
   | some y => rw [hj] at hx; injection hx with hx; subst hx; exact hcell j y hj) hg (by rw [List.length_map]; exact hl) (by rw [List.length_map]; exact hc) (by rw [hm]; exact (join_flat ls).symm ▸ hb)
  rw [hm,List.length_map] at this
  refine this.mono ?_
  rintro e w' ⟨he,hb'⟩
  refine ⟨?_,hb'⟩
  rw [he]
  exact congrArg (fun l : List UInt8 => Ending.returned (.string ⟨l.toArray⟩)) (join_flat ls)
/-! ### Bead's writers -/
theorem beadInt_any (n : Int) (hn : Bd.inR n) (w : World) (hw : Lw w) : Calls Tryz.prog 83 #[.int .i64 n] w fun e w' => e = .returned (.string ⟨(Bd.bInt n).toArray⟩) ∧ Below w.heap.size w w' := by
 have hl : (Lib.itoa n).length ≤ 21 := Lib.itoa_length_le n hn.1 hn.2
 have HI := hq' (itoa_any n hn w hw)
 have HE : Hid ([105] ++ Lib.itoa n ++ [101] = Bd.bInt n) := by simp [Hid,Bd.bInt]
 clear hw
 generalize Lib.itoa n = t at hl HI HE
 go_enter Tryz.func83,Tryz.ntmps83
 go_wp2_with fail
 refine HI.out.mono ?_
 rintro e w1 ⟨rfl,hb⟩
 have HB := hq' hb
 clear hb
 have e1 : ∀ l : List UInt8,(⟨#[105]⟩ : ByteArray) ++ ⟨l.toArray⟩ = ⟨([105] ++ l).toArray⟩ := fun l => bs_append [105] l
 have e2 : ∀ l : List UInt8,(⟨l.toArray⟩ : ByteArray) ++ ⟨#[101]⟩ = ⟨(l ++ [101]).toArray⟩ := fun l => bs_append l [101]
 go_wp2
 go_ret
 refine ⟨ret_str ?_,HB.out⟩
 rw [← HE.out]
 simp [bs_append,e1,e2]
theorem beadText_any (s : List UInt8) (hs : s.length ≤ 140737488355328) (w : World) (hw : Lw w) : Calls Tryz.prog 81 #[.string ⟨s.toArray⟩] w fun e w' => e = .returned (.string ⟨(Bd.bText s).toArray⟩) ∧ Below w.heap.size w w' := by
 have hn : Bd.inR (s.length : Int) := by unfold Bd.inR; omega
 have hl : (Lib.itoa (s.length : Int)).length ≤ 21 := Lib.itoa_length_le _ hn.1 hn.2
 have HI := hq' (itoa_any s.length hn w hw)
 have HE : Hid (Lib.itoa s.length ++ [58] ++ s = Bd.bText s) := by simp [Hid,Bd.bText]
 clear hw hn
 generalize Lib.itoa (s.length : Int) = t at hl HI HE
 go_enter Tryz.func81,Tryz.ntmps81
 go_wp2_with fail
 refine HI.out.mono ?_
 rintro e w1 ⟨rfl,hb1⟩
 have HB := hq' hb1
 clear hb1
 go_wp2
 go_ret
 refine ⟨ret_str ?_,HB.out⟩
 rw [← HE.out]
 simp [bs_append]
theorem beadList_any (v : Value) (ls : List (List UInt8)) (w : World) (h : Strs w v ls) (hl : ls.length ≤ 140737488355328) (hb : ls.flatten.length ≤ 140737488355328) :
  Calls Tryz.prog 46 #[v] w fun e w' => e = .returned (.string ⟨(108::(ls.flatten ++ [101])).toArray⟩) ∧ Below w.heap.size w w' := by
 have HI := hq' (join_any v ls w h hl hb)
 have HE : Hid ([108] ++ ls.flatten ++ [101] = 108::(ls.flatten ++ [101])) := by simp [Hid]
 clear h hl
 generalize ls.flatten = t at hb HI HE
 go_enter Tryz.func46,Tryz.ntmps46
 go_wp2_with fail
 refine HI.out.mono ?_
 rintro e w1 ⟨rfl,hb1⟩
 have HB := hq' hb1
 clear hb1
 go_wp2
 go_ret
 refine ⟨ret_str ?_,HB.out⟩
 rw [← HE.out]
 try simp [bs_append]
open Go.RowKit
def Rd (w : World) (p : Nat) (q : Bd.St) : Prop := w.heap[p]? = some (.cells #[.string ⟨q.1.toArray⟩,.bool q.2] 129 (0,0))
theorem Rd.cells {w : World} {p : Nat} {q : Bd.St} (h : Rd w p q) : w.cell? ⟨p,0,none⟩ = some (.string ⟨q.1.toArray⟩) ∧ w.cell? ⟨p,1,none⟩ = some (.bool q.2) := by
 unfold Rd at h
 simp [World.cell?,h]
theorem Rd.free {w : World} {p : Nat} {q : Bd.St} (h : Rd w p q) : w.frozen? ⟨p,0,none⟩ = false ∧ w.frozen? ⟨p,1,none⟩ = false := by
 unfold Rd at h
 simp [World.frozen?,h]
theorem Rd.lt {w : World} {p : Nat} {q : Bd.St} (h : Rd w p q) : p < w.heap.size := (Array.getElem?_eq_some_iff.1 h).1
theorem Rd.keep {S : Nat → Prop} {w w' : World} {p : Nat} {q : Bd.St} (h : Rd w p q) (k : Keeps S w w') (hs : ¬ S p) : Rd w' p q := (k.block p h.lt hs).trans h
theorem Rd.below {w w' : World} {p : Nat} {q : Bd.St} (h : Rd w p q) (hb : Below w.heap.size w w') : Rd w' p q := (hb.block p h.lt).trans h
theorem Rd.set0 {w : World} {p : Nat} {q : Bd.St} (h : Rd w p q) (l : List UInt8) : Rd (w.setCell ⟨p,0,none⟩ (.string ⟨l.toArray⟩)) p (l,q.2) := by
 unfold Rd at h ⊢
 simp [World.setCell,Array.getElem?_modify,h]
theorem Rd.set1 {w : World} {p : Nat} {q : Bd.St} (h : Rd w p q) (b : Bool) : Rd (w.setCell ⟨p,1,none⟩ (.bool b)) p (q.1,b) := by
 unfold Rd at h ⊢
 simp [World.setCell,Array.getElem?_modify,h]
theorem keepsP (w : World) (p o : Nat) (u : Value) : Keeps (fun k => k = p) w (w.setCell ⟨p,o,none⟩ u) := Keeps.setCell _ _ _ _ rfl
def Rds (w : World) (p : Nat) (q : Bd.St) (w' : World) : Prop := Rd w' p q ∧ Keeps (fun k => k = p) w w'
def RdV (v : Value) (w : World) (p : Nat) (q : Bd.St) (e : Ending) (w' : World) : Prop := e = .returned v ∧ Rds w p q w'
theorem new_any (s : List UInt8) (w : World) : Calls Tryz.prog 57 #[.string ⟨s.toArray⟩] w fun e w' => e = .returned (.pointer (some ⟨w.heap.size,0,none⟩)) ∧ w' = w.alloc (.cells #[.string ⟨s.toArray⟩,.bool false] 129) := by
 go_enter Tryz.func57,Tryz.ntmps57
 go_wp2
 go_ret
 exact ⟨rfl,rfl⟩
theorem Rd.new (s : List UInt8) (w : World) : Rd (w.alloc (.cells #[.string ⟨s.toArray⟩,.bool false] 129)) w.heap.size (s,false) := by
 unfold Rd
 rw [heap_alloc_new]
theorem ready_any (p : Nat) (q : Bd.St) (w : World) (h : Rd w p q) : Calls Tryz.prog 115 #[.pointer (some ⟨p,0,none⟩)] w fun e w' => e = .returned (.bool (!q.2)) ∧ w = w' := by
 obtain ⟨c0,c1⟩ := h.cells
 clear h
 go_enter Tryz.func115,Tryz.ntmps115
 go_wp2
 go_ret
 exact ⟨rfl,rfl⟩
theorem done_any (p : Nat) (q : Bd.St) (w : World) (h : Rd w p q) : Calls Tryz.prog 61 #[.pointer (some ⟨p,0,none⟩)] w fun e w' => e = .returned (.int .i64 (Bd.sDone q)) ∧ w = w' := by
 obtain ⟨c0,c1⟩ := h.cells
 clear h
 obtain ⟨s,b⟩ := q
 simp only at c0 c1
 cases b with
 | true =>
  go_enter Tryz.func61,Tryz.ntmps61
  go_wp2
  go_ret
  exact ⟨rfl,rfl⟩
 | false =>
  cases s with
  | nil =>
   go_enter Tryz.func61,Tryz.ntmps61
   go_wp2
   go_ret
   exact ⟨rfl,rfl⟩
  | cons x s =>
   go_enter Tryz.func61,Tryz.ntmps61
   go_wp2
   go_ret
   exact ⟨rfl,rfl⟩
theorem cutPrefix_any (l : List UInt8) (c : UInt8) (w : World) : Calls Tryz.prog 116 #[.string ⟨l.toArray⟩,.string ⟨#[c]⟩] w fun e w' =>
  e = .returned (.tuple #[.string ⟨(Lib.trimPrefix l [c]).toArray⟩,.bool (Lib.hasPrefix l [c])]) ∧ w = w' := by
 refine (Tryz.strings_CutPrefix ⟨l.toArray⟩ ⟨#[c]⟩ w).mono ?_
 rintro e w' ⟨he,hw⟩
 exact ⟨he,hw.symm⟩
theorem sign_any (p : Nat) (q : Bd.St) (c : UInt8) (w : World) (h : Rd w p q) : Calls Tryz.prog 91 #[.pointer (some ⟨p,0,none⟩),.string ⟨#[c]⟩] w fun e w' => e = .returned (.tuple #[]) ∧ Rds w p (Bd.sSign c q) w' := by
 have H := hq' h
 obtain ⟨c0,c1⟩ := h.cells
 obtain ⟨f0,f1⟩ := h.free
 clear h
 obtain ⟨s,b⟩ := q
 simp only at c0 c1
 cases b with
 | true =>
  go_enter Tryz.func91,Tryz.ntmps91
  go_wp2_with fail
  refine (ready_any _ _ _ H.out).mono ?_
  rintro e w1 ⟨rfl,rfl⟩
  go_wp2
  go_end0
  exact ⟨rfl,H.out,Keeps.refl _ _⟩
 | false =>
  have HE : Hid (Rds w p (Bd.sSign c (s,false)) ((w.setCell ⟨p,0,none⟩ (.string ⟨(Lib.trimPrefix s [c]).toArray⟩)).setCell ⟨p,1,none⟩ (.bool (!Lib.hasPrefix s [c])))) :=
   ⟨(H.out.set0 (Lib.trimPrefix s [c])).set1 (!Lib.hasPrefix s [c]),(keepsP w p 0 _).trans (keepsP _ p 1 _)⟩
  have HC := hq' (cutPrefix_any s c w)
  generalize Lib.trimPrefix s [c] = t at HE HC
  generalize Lib.hasPrefix s [c] = b at HE HC
  go_enter Tryz.func91,Tryz.ntmps91
  go_wp2_with fail
  refine (ready_any _ _ _ H.out).mono ?_
  rintro e w1 ⟨rfl,rfl⟩
  go_wp2_with fail
  refine HC.out.mono ?_
  rintro e w1 ⟨rfl,rfl⟩
  go_wp2
  go_end0
  exact ⟨rfl,HE.out⟩
theorem open_any (p : Nat) (q : Bd.St) (w : World) (h : Rd w p q) : Calls Tryz.prog 58 #[.pointer (some ⟨p,0,none⟩)] w fun e w' => e = .returned (.tuple #[]) ∧ Rds w p (Bd.sSign 108 q) w' := by
 have H := hq' h
 clear h
 go_enter Tryz.func58,Tryz.ntmps58
 go_wp2_with fail
 refine (sign_any _ _ _ _ H.out).mono ?_
 rintro e w1 ⟨rfl,h1⟩
 have H1 := hq' h1
 clear h1
 go_wp2
 go_end0
 exact ⟨rfl,H1.out⟩
theorem close_any (p : Nat) (q : Bd.St) (w : World) (h : Rd w p q) : Calls Tryz.prog 60 #[.pointer (some ⟨p,0,none⟩)] w fun e w' => e = .returned (.tuple #[]) ∧ Rds w p (Bd.sSign 101 q) w' := by
 have H := hq' h
 clear h
 go_enter Tryz.func60,Tryz.ntmps60
 go_wp2_with fail
 refine (sign_any _ _ _ _ H.out).mono ?_
 rintro e w1 ⟨rfl,h1⟩
 have H1 := hq' h1
 clear h1
 go_wp2
 go_end0
 exact ⟨rfl,H1.out⟩
theorem more_any (p : Nat) (q : Bd.St) (w : World) (h : Rd w p q) : Calls Tryz.prog 122 #[.pointer (some ⟨p,0,none⟩)] w fun e w' => e = .returned (.bool (Bd.sMore q)) ∧ w = w' := by
 have H := hq' h
 obtain ⟨c0,c1⟩ := h.cells
 clear h
 obtain ⟨s,b⟩ := q
 simp only at c0 c1
 cases b with
 | true =>
  go_enter Tryz.func122,Tryz.ntmps122
  go_wp2_with fail
  refine (ready_any _ _ _ H.out).mono ?_
  rintro e w1 ⟨rfl,rfl⟩
  go_wp2
  go_ret
  exact ⟨rfl,rfl⟩
 | false =>
  cases s with
  | nil =>
   go_enter Tryz.func122,Tryz.ntmps122
   go_wp2_with fail
   refine (ready_any _ _ _ H.out).mono ?_
   rintro e w1 ⟨rfl,rfl⟩
   go_wp2
   go_ret
   exact ⟨rfl,rfl⟩
  | cons x s =>
   have hix := str_at (P := Tryz.prog) (x::s) 0 0 rfl (by simp) 9 Tryz.underlying9
   simp only [List.getD_cons_zero] at hix
   have he : ((x.toNat : Int) != 101) = (!(x == 101)) := by
    by_cases hx : x = 101
    ·subst hx; rfl
    ·have : (x.toNat : Int) ≠ 101 := fun e => hx (UInt8.toNat_inj.1 (by have : (101 : UInt8).toNat = 101 := rfl; omega))
     rw [bne_iff_ne.2 this]
     simp [hx]
   have hm : Hid (Bd.sMore (x::s,false) = !(x == 101)) := by simp [Hid,Bd.sMore]
   go_enter Tryz.func122,Tryz.ntmps122
   go_wp2_with fail
   refine (ready_any _ _ _ H.out).mono ?_
   rintro e w1 ⟨rfl,rfl⟩
   go_wp2
   go_ret
   exact ⟨by rw [hm.out]; rfl,rfl⟩
end Go.Proofs.YtbljbdjmgogknaaGreatDoor
