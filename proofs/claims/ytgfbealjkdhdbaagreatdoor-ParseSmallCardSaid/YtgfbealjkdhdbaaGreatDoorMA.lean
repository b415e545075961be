/- Merged by program from smaller texts; what is proved stands in the last text of the claim. -/
import Derived.Shelf.Strings.OnBuilder
import Derived.Shelf.LaysM
import Derived.Shelf.Strconv.Itoa4
import Derived.Shelf.LaysC
import Derived.Shelf.Strconv.ParseIntPublic10
import Derived.Shelf.Strconv.ErrVarParseInt
import Derived.Test.YtgfbealjkdhdbaaGreatDoorProg
import Derived.WalkKit
import Derived.Deep.MidRow
import Derived.ChangeKeysEq
set_option linter.all false
namespace Go.Proofs
open Go.Shelf
def Tryz.lays159_ren : Go.Shelf.Ren := ⟨fun | 159 => 77 | 165 => 69 | 166 => 19 | 167 => 20 | 169 => 22 | 230 => 108 | 204 => 109 | 240 => 40 | 241 => 104 | 197 => 118 | 118 => 119 | 168 => 120 | 270 => 121 | 262 => 122 | 276 => 54 | 277 => 116 | 260 => 127 | 242 => 128 | 313 => 129 | 278 => 135 | 274 => 136 | 275 => 137 | n => n, fun | 9 => 9 | 4 => 4 | 3 => 3 | 5 => 5 | 72 => 56 | 0 => 0 | 76 => 59 | 75 => 58 | 107 => 175 | 70 => 54 | 20 => 20 | 37 => 34 | 127 => 105 | 21 => 21 | 105 => 185 | 164 => 125 | 162 => 198 | 203 => 196 | 119 => 205 | 46 => 167 | 139 => 208 | 138 => 207 | 51 => 164 | 160 => 209 | 208 => 219 | 206 => 217 | 80 => 63 | n => n, fun | 13 => 4 | 3 => 5 | 4 => 6 | n => n⟩
theorem Tryz.lays159 : Go.Proofs.Lays.n159 Tryz.prog Tryz.lays159_ren := {
  mixed := by kernel_rfl
  f118 := Tryz.func119.trans (congrArg some (by kernel_rfl))
  f159 := Tryz.func77.trans (congrArg some (by kernel_rfl))
  f165 := Tryz.func69.trans (congrArg some (by kernel_rfl))
  f166 := Tryz.func19.trans (congrArg some (by kernel_rfl))
  f167 := Tryz.func20.trans (congrArg some (by kernel_rfl))
  f168 := Tryz.func120.trans (congrArg some (by kernel_rfl))
  f169 := Tryz.func22.trans (congrArg some (by kernel_rfl))
  f197 := Tryz.func118.trans (congrArg some (by kernel_rfl))
  f204 := Tryz.func109.trans (congrArg some (by kernel_rfl))
  f230 := Tryz.func108.trans (congrArg some (by kernel_rfl))
  f240 := Tryz.func40.trans (congrArg some (by kernel_rfl))
  f241 := Tryz.func104.trans (congrArg some (by kernel_rfl))
  f242 := Tryz.func128.trans (congrArg some (by kernel_rfl))
  f260 := Tryz.func127.trans (congrArg some (by kernel_rfl))
  f262 := Tryz.func122.trans (congrArg some (by kernel_rfl))
  f270 := Tryz.func121.trans (congrArg some (by kernel_rfl))
  f274 := Tryz.func136.trans (congrArg some (by kernel_rfl))
  f275 := Tryz.func137.trans (congrArg some (by kernel_rfl))
  f276 := Tryz.func54.trans (congrArg some (by kernel_rfl))
  f277 := Tryz.func116.trans (congrArg some (by kernel_rfl))
  f278 := Tryz.func135.trans (congrArg some (by kernel_rfl))
  f313 := Tryz.func129.trans (congrArg some (by kernel_rfl))
  t0 := Tryz.underlying0
  a0 := Tryz.isAgg0
  z0 := Tryz.sizeOf0
  v0 := Tryz.zeroValue0
  t3 := Tryz.underlying3
  a3 := Tryz.isAgg3
  z3 := Tryz.sizeOf3
  v3 := Tryz.zeroValue3
  t4 := Tryz.underlying4
  a4 := Tryz.isAgg4
  z4 := Tryz.sizeOf4
  v4 := Tryz.zeroValue4
  t5 := Tryz.underlying5
  a5 := Tryz.isAgg5
  z5 := Tryz.sizeOf5
  v5 := Tryz.zeroValue5
  t9 := Tryz.underlying9
  a9 := Tryz.isAgg9
  z9 := Tryz.sizeOf9
  v9 := Tryz.zeroValue9
  t20 := Tryz.underlying20
  a20 := Tryz.isAgg20
  z20 := Tryz.sizeOf20
  v20 := Tryz.zeroValue20
  t21 := Tryz.underlying21
  a21 := Tryz.isAgg21
  z21 := Tryz.sizeOf21
  v21 := Tryz.zeroValue21
  t37 := Tryz.underlying34
  a37 := Tryz.isAgg34
  z37 := Tryz.sizeOf34
  v37 := Tryz.zeroValue34
  t46 := Tryz.underlying167
  a46 := Tryz.isAgg167
  z46 := Tryz.sizeOf167
  v46 := Tryz.zeroValue167
  t51 := Tryz.underlying164
  a51 := Tryz.isAgg164
  z51 := Tryz.sizeOf164
  v51 := Tryz.zeroValue164
  t70 := Tryz.underlying54
  a70 := Tryz.isAgg54
  z70 := Tryz.sizeOf54
  v70 := Tryz.zeroValue54
  t72 := Tryz.underlying56
  a72 := Tryz.isAgg56
  z72 := Tryz.sizeOf56
  v72 := Tryz.zeroValue56
  t75 := Tryz.underlying58
  a75 := Tryz.isAgg58
  z75 := Tryz.sizeOf58
  v75 := Tryz.zeroValue58
  t76 := Tryz.underlying59
  a76 := Tryz.isAgg59
  z76 := Tryz.sizeOf59
  v76 := Tryz.zeroValue59
  t105 := Tryz.underlying185
  a105 := Tryz.isAgg185
  z105 := Tryz.sizeOf185
  v105 := Tryz.zeroValue185
  t107 := Tryz.underlying175
  a107 := Tryz.isAgg175
  z107 := Tryz.sizeOf175
  v107 := Tryz.zeroValue175
  t119 := Tryz.underlying205
  a119 := Tryz.isAgg205
  z119 := Tryz.sizeOf205
  t127 := Tryz.underlying105
  a127 := Tryz.isAgg105
  z127 := Tryz.sizeOf105
  v127 := Tryz.zeroValue105
  t138 := Tryz.underlying207
  a138 := Tryz.isAgg207
  z138 := Tryz.sizeOf207
  v138 := Tryz.zeroValue207
  t139 := Tryz.underlying208
  a139 := Tryz.isAgg208
  z139 := Tryz.sizeOf208
  v139 := Tryz.zeroValue208
  t160 := Tryz.underlying209
  a160 := Tryz.isAgg209
  z160 := Tryz.sizeOf209
  v160 := Tryz.zeroValue209
  t162 := Tryz.underlying198
  a162 := Tryz.isAgg198
  z162 := Tryz.sizeOf198
  v162 := Tryz.zeroValue198
  t164 := Tryz.underlying125
  a164 := Tryz.isAgg125
  z164 := Tryz.sizeOf125
  v164 := Tryz.zeroValue125
  t203 := Tryz.underlying196
  a203 := Tryz.isAgg196
  z203 := Tryz.sizeOf196
  v203 := Tryz.zeroValue196
  t206 := Tryz.underlying217
  a206 := Tryz.isAgg217
  z206 := Tryz.sizeOf217
  v206 := Tryz.zeroValue217
  t208 := Tryz.underlying219
  a208 := Tryz.isAgg219
  z208 := Tryz.sizeOf219
  v208 := Tryz.zeroValue219
  g3 := by kernel_rfl
  g4 := by kernel_rfl
  g13 := by kernel_rfl }
theorem Tryz.Builder_Extra_159 : Builder.Extra Tryz.prog Tryz.lays159_ren := {
  sizeBuilder := by kernel_rfl
  liesBuilder := by kernel_rfl
  t5 := Tryz.underlying5
  a5 := Tryz.isAgg5
  z5 := Tryz.sizeOf5
  v5 := Tryz.zeroValue5
  infoByte := by kernel_rfl
  cellsByte := by kernel_rfl
  sizeByte := by kernel_rfl
  neB5 := by decide }
open Go.RowKit in
theorem Tryz.strings_ToLower_ascii (s : ByteArray) (w : World) (hs : s.size ≤ 140737488355328) (hascii : ∀ (j : Nat) (b : UInt8), s.data.toList[j]? = some b → b.toNat < 128) :
    Calls Tryz.prog 77 #[.string s] w fun e w' => e = .returned (.string ⟨(Lib.toLowerA s.data.toList).toArray⟩) ∧ Below w.heap.size w w' := Any.strings_ToLower_ascii Tryz.lays159 Tryz.Builder_Extra_159 s w hs hascii
def Tryz.lays156_ren : Go.Shelf.Ren := ⟨fun | 156 => 43 | 165 => 69 | 166 => 19 | 169 => 22 | 240 => 40 | 241 => 104 | 276 => 54 | 277 => 116 | n => n, fun | 31 => 39 | 9 => 9 | 3 => 3 | 4 => 4 | 0 => 0 | 20 => 20 | 72 => 56 | 76 => 59 | 70 => 54 | 37 => 34 | 75 => 58 | 127 => 105 | 164 => 125 | 5 => 5 | 80 => 63 | n => n, fun | n => n⟩
theorem Tryz.lays156 : Go.Proofs.Lays.n156 Tryz.prog Tryz.lays156_ren := {
  mixed := by kernel_rfl
  f156 := Tryz.func43.trans (congrArg some (by kernel_rfl))
  f165 := Tryz.func69.trans (congrArg some (by kernel_rfl))
  f166 := Tryz.func19.trans (congrArg some (by kernel_rfl))
  f169 := Tryz.func22.trans (congrArg some (by kernel_rfl))
  f240 := Tryz.func40.trans (congrArg some (by kernel_rfl))
  f241 := Tryz.func104.trans (congrArg some (by kernel_rfl))
  f276 := Tryz.func54.trans (congrArg some (by kernel_rfl))
  f277 := Tryz.func116.trans (congrArg some (by kernel_rfl))
  t0 := Tryz.underlying0
  a0 := Tryz.isAgg0
  z0 := Tryz.sizeOf0
  v0 := Tryz.zeroValue0
  t3 := Tryz.underlying3
  a3 := Tryz.isAgg3
  z3 := Tryz.sizeOf3
  v3 := Tryz.zeroValue3
  t4 := Tryz.underlying4
  a4 := Tryz.isAgg4
  z4 := Tryz.sizeOf4
  v4 := Tryz.zeroValue4
  t9 := Tryz.underlying9
  a9 := Tryz.isAgg9
  z9 := Tryz.sizeOf9
  v9 := Tryz.zeroValue9
  t20 := Tryz.underlying20
  a20 := Tryz.isAgg20
  z20 := Tryz.sizeOf20
  v20 := Tryz.zeroValue20
  t31 := Tryz.underlying39
  a31 := Tryz.isAgg39
  z31 := Tryz.sizeOf39
  v31 := Tryz.zeroValue39
  t37 := Tryz.underlying34
  a37 := Tryz.isAgg34
  z37 := Tryz.sizeOf34
  v37 := Tryz.zeroValue34
  t70 := Tryz.underlying54
  a70 := Tryz.isAgg54
  z70 := Tryz.sizeOf54
  v70 := Tryz.zeroValue54
  t72 := Tryz.underlying56
  a72 := Tryz.isAgg56
  z72 := Tryz.sizeOf56
  v72 := Tryz.zeroValue56
  t75 := Tryz.underlying58
  a75 := Tryz.isAgg58
  z75 := Tryz.sizeOf58
  v75 := Tryz.zeroValue58
  t76 := Tryz.underlying59
  a76 := Tryz.isAgg59
  z76 := Tryz.sizeOf59
  v76 := Tryz.zeroValue59
  t127 := Tryz.underlying105
  a127 := Tryz.isAgg105
  z127 := Tryz.sizeOf105
  v127 := Tryz.zeroValue105
  t164 := Tryz.underlying125
  a164 := Tryz.isAgg125
  z164 := Tryz.sizeOf125
  v164 := Tryz.zeroValue125 }
theorem Tryz.Builder_Extra_156 : Builder.Extra Tryz.prog Tryz.lays156_ren := {
  sizeBuilder := by kernel_rfl
  liesBuilder := by kernel_rfl
  t5 := Tryz.underlying5
  a5 := Tryz.isAgg5
  z5 := Tryz.sizeOf5
  v5 := Tryz.zeroValue5
  infoByte := by kernel_rfl
  cellsByte := by kernel_rfl
  sizeByte := by kernel_rfl
  neB5 := by decide }
open Go.RowKit in
theorem Tryz.strings_Join_none (a : Option Addr) (c : Nat) (sep : ByteArray) (w : World) :
    Calls Tryz.prog 43 #[.slice a 0 c, .string sep] w fun e w' => e = .returned (.string ⟨#[]⟩) ∧ w' = w := Any.strings_Join_none Tryz.lays156 Tryz.Builder_Extra_156 a c sep w
open Go.RowKit in
theorem Tryz.strings_Join (bk o c : Nat) (xs : List ByteArray) (sep : ByteArray) (w : World) (hcells : ∀ (j : Nat) x, xs[j]? = some x → w.cell? ⟨bk, o + j, none⟩ = some (.string x)) (hbk : bk < w.heap.size) (hN : xs.length ≤ 140737488355328) (hcap : xs.length ≤ c) (hlen : (Lib.join (xs.map (·.data.toList)) sep.data.toList).length ≤ 140737488355328) :
    Calls Tryz.prog 43 #[.slice (some ⟨bk, o, none⟩) xs.length c, .string sep] w fun e w' => e = .returned (.string ⟨(Lib.join (xs.map (·.data.toList)) sep.data.toList).toArray⟩) ∧ Below w.heap.size w w' := Any.strings_Join Tryz.lays156 Tryz.Builder_Extra_156 bk o c xs sep w hcells hbk hN hcap hlen
def Tryz.laysM173_ren : Go.Shelf.Ren := ⟨fun | 173 => 21 | 246 => 41 | 283 => 55 | 284 => 56 | 285 => 57 | 286 => 58 | 129 => 95 | 317 => 94 | 318 => 96 | 319 => 97 | 320 => 98 | 337 => 114 | 338 => 115 | n => n, fun | 2 => 2 | 3 => 3 | 9 => 9 | 4 => 4 | 171 => 127 | 0 => 0 | 53 => 70 | 37 => 34 | 5 => 5 | 173 => 130 | 212 => 163 | 51 => 164 | 20 => 20 | 213 => 165 | 46 => 167 | 232 => 193 | 233 => 194 | n => n, fun | 17 => 0 | 18 => 1 | 19 => 2 | n => n⟩
theorem Tryz.laysM173 : Go.Proofs.LaysM.n173 Tryz.prog Tryz.laysM173_ren := {
  mixed := by kernel_rfl
  f129 := Tryz.func95.trans (congrArg some (by kernel_rfl))
  f173 := Tryz.func21.trans (congrArg some (by kernel_rfl))
  f246 := Tryz.func41.trans (congrArg some (by kernel_rfl))
  f283 := Tryz.func55.trans (congrArg some (by kernel_rfl))
  f284 := Tryz.func56.trans (congrArg some (by kernel_rfl))
  f285 := Tryz.func57.trans (congrArg some (by kernel_rfl))
  f286 := Tryz.func58.trans (congrArg some (by kernel_rfl))
  f317 := Tryz.func94.trans (congrArg some (by kernel_rfl))
  f318 := Tryz.func96.trans (congrArg some (by kernel_rfl))
  f319 := Tryz.func97.trans (congrArg some (by kernel_rfl))
  f320 := Tryz.func98.trans (congrArg some (by kernel_rfl))
  f337 := Tryz.func114.trans (congrArg some (by kernel_rfl))
  f338 := Tryz.func115.trans (congrArg some (by kernel_rfl))
  t0 := Tryz.underlying0
  a0 := Tryz.isAgg0
  z0 := Tryz.sizeOf0
  v0 := Tryz.zeroValue0
  t2 := Tryz.underlying2
  a2 := Tryz.isAgg2
  z2 := Tryz.sizeOf2
  v2 := Tryz.zeroValue2
  t3 := Tryz.underlying3
  a3 := Tryz.isAgg3
  z3 := Tryz.sizeOf3
  v3 := Tryz.zeroValue3
  t4 := Tryz.underlying4
  a4 := Tryz.isAgg4
  z4 := Tryz.sizeOf4
  v4 := Tryz.zeroValue4
  t5 := Tryz.underlying5
  a5 := Tryz.isAgg5
  z5 := Tryz.sizeOf5
  v5 := Tryz.zeroValue5
  t9 := Tryz.underlying9
  a9 := Tryz.isAgg9
  z9 := Tryz.sizeOf9
  v9 := Tryz.zeroValue9
  t20 := Tryz.underlying20
  a20 := Tryz.isAgg20
  z20 := Tryz.sizeOf20
  v20 := Tryz.zeroValue20
  t37 := Tryz.underlying34
  a37 := Tryz.isAgg34
  z37 := Tryz.sizeOf34
  v37 := Tryz.zeroValue34
  t46 := Tryz.underlying167
  a46 := Tryz.isAgg167
  z46 := Tryz.sizeOf167
  v46 := Tryz.zeroValue167
  t51 := Tryz.underlying164
  a51 := Tryz.isAgg164
  z51 := Tryz.sizeOf164
  v51 := Tryz.zeroValue164
  t53 := Tryz.underlying70
  a53 := Tryz.isAgg70
  z53 := Tryz.sizeOf70
  v53 := Tryz.zeroValue70
  t171 := Tryz.underlying127
  a171 := Tryz.isAgg127
  z171 := Tryz.sizeOf127
  v171 := Tryz.zeroValue127
  t173 := Tryz.underlying130
  a173 := Tryz.isAgg130
  z173 := Tryz.sizeOf130
  v173 := Tryz.zeroValue130
  t212 := Tryz.underlying163
  a212 := Tryz.isAgg163
  z212 := Tryz.sizeOf163
  v212 := Tryz.zeroValue163
  t213 := Tryz.underlying165
  a213 := Tryz.isAgg165
  z213 := Tryz.sizeOf165
  t232 := Tryz.underlying193
  a232 := Tryz.isAgg193
  z232 := Tryz.sizeOf193
  v232 := Tryz.zeroValue193
  t233 := Tryz.underlying194
  a233 := Tryz.isAgg194
  z233 := Tryz.sizeOf194
  v233 := Tryz.zeroValue194
  g17 := by kernel_rfl
  g18 := by kernel_rfl
  g19 := by kernel_rfl
  i0 := by kernel_rfl
  i2 := by kernel_rfl
  i3 := by kernel_rfl
  i4 := by kernel_rfl
  i5 := by kernel_rfl
  i9 := by kernel_rfl
  i20 := by kernel_rfl
  i37 := by kernel_rfl
  i46 := by kernel_rfl
  i51 := by kernel_rfl
  i53 := by kernel_rfl
  i171 := by kernel_rfl
  i173 := by kernel_rfl
  i212 := by kernel_rfl
  i232 := by kernel_rfl
  i233 := by kernel_rfl
  m17 := by kernel_rfl
  m18 := by kernel_rfl
  m19 := by kernel_rfl }
open Go.RowKit Go.Sort Go.Lib in
theorem Tryz.strconv_FormatInt_10 (n : Int) (h0 : -9223372036854775808 ≤ n) (h1 : n ≤ 9223372036854775807) (w : World) (htab : Lib.TabIs Tryz.prog w "internal/strconv.uint64pow10" .u64 Lib.pow10Tab) :
    Calls Tryz.prog 21 #[.int .i64 n, .int .i64 10] w fun e w' => e = .returned (.string ⟨(Lib.itoa n).toArray⟩) ∧ ∃ k os, w' = grow (w.drewN k) os := Any.strconv_FormatInt_10 Tryz.laysM173 n h0 h1 w htab
def Tryz.laysC174_ren : Go.Shelf.Ren := ⟨fun | 174 => 111 | 247 => 124 | 245 => 125 | 287 => 130 | 279 => 131 | 280 => 132 | 281 => 133 | 282 => 134 | 321 => 138 | 322 => 139 | 316 => 140 | 171 => 18 | 205 => 141 | 243 => 39 | 246 => 41 | 283 => 55 | 284 => 56 | 285 => 57 | 286 => 58 | 129 => 95 | 317 => 94 | 318 => 96 | 319 => 97 | 320 => 98 | 337 => 114 | 338 => 115 | n => n, fun | 9 => 9 | 3 => 3 | 2 => 2 | 75 => 58 | 85 => 177 | 4 => 4 | 167 => 199 | 5 => 5 | 53 => 70 | 175 => 200 | 46 => 167 | 168 => 202 | 37 => 34 | 0 => 0 | 210 => 214 | 21 => 21 | 127 => 105 | 145 => 222 | 143 => 220 | 171 => 127 | 173 => 130 | 212 => 163 | 51 => 164 | 20 => 20 | 213 => 165 | 232 => 193 | 233 => 194 | 80 => 63 | n => n, fun | 15 => 7 | 16 => 8 | 17 => 0 | 18 => 1 | 19 => 2 | n => n⟩
theorem Tryz.laysC174 : Go.Proofs.LaysC.n174 Tryz.prog Tryz.laysC174_ren := {
  mixed := by kernel_rfl
  f129 := Tryz.func95.trans (congrArg some (by kernel_rfl))
  f171 := Tryz.func18.trans (congrArg some (by kernel_rfl))
  f174 := Tryz.func111.trans (congrArg some (by kernel_rfl))
  f205 := Tryz.func141.trans (congrArg some (by kernel_rfl))
  f243 := Tryz.func39.trans (congrArg some (by kernel_rfl))
  f245 := Tryz.func125.trans (congrArg some (by kernel_rfl))
  f246 := Tryz.func41.trans (congrArg some (by kernel_rfl))
  f247 := Tryz.func124.trans (congrArg some (by kernel_rfl))
  f279 := Tryz.func131.trans (congrArg some (by kernel_rfl))
  f280 := Tryz.func132.trans (congrArg some (by kernel_rfl))
  f281 := Tryz.func133.trans (congrArg some (by kernel_rfl))
  f282 := Tryz.func134.trans (congrArg some (by kernel_rfl))
  f283 := Tryz.func55.trans (congrArg some (by kernel_rfl))
  f284 := Tryz.func56.trans (congrArg some (by kernel_rfl))
  f285 := Tryz.func57.trans (congrArg some (by kernel_rfl))
  f286 := Tryz.func58.trans (congrArg some (by kernel_rfl))
  f287 := Tryz.func130.trans (congrArg some (by kernel_rfl))
  f316 := Tryz.func140.trans (congrArg some (by kernel_rfl))
  f317 := Tryz.func94.trans (congrArg some (by kernel_rfl))
  f318 := Tryz.func96.trans (congrArg some (by kernel_rfl))
  f319 := Tryz.func97.trans (congrArg some (by kernel_rfl))
  f320 := Tryz.func98.trans (congrArg some (by kernel_rfl))
  f321 := Tryz.func138.trans (congrArg some (by kernel_rfl))
  f322 := Tryz.func139.trans (congrArg some (by kernel_rfl))
  f337 := Tryz.func114.trans (congrArg some (by kernel_rfl))
  f338 := Tryz.func115.trans (congrArg some (by kernel_rfl))
  t0 := Tryz.underlying0
  a0 := Tryz.isAgg0
  z0 := Tryz.sizeOf0
  v0 := Tryz.zeroValue0
  t2 := Tryz.underlying2
  a2 := Tryz.isAgg2
  z2 := Tryz.sizeOf2
  v2 := Tryz.zeroValue2
  t3 := Tryz.underlying3
  a3 := Tryz.isAgg3
  z3 := Tryz.sizeOf3
  v3 := Tryz.zeroValue3
  t4 := Tryz.underlying4
  a4 := Tryz.isAgg4
  z4 := Tryz.sizeOf4
  v4 := Tryz.zeroValue4
  t5 := Tryz.underlying5
  a5 := Tryz.isAgg5
  z5 := Tryz.sizeOf5
  v5 := Tryz.zeroValue5
  t9 := Tryz.underlying9
  a9 := Tryz.isAgg9
  z9 := Tryz.sizeOf9
  v9 := Tryz.zeroValue9
  t20 := Tryz.underlying20
  a20 := Tryz.isAgg20
  z20 := Tryz.sizeOf20
  v20 := Tryz.zeroValue20
  t21 := Tryz.underlying21
  a21 := Tryz.isAgg21
  z21 := Tryz.sizeOf21
  v21 := Tryz.zeroValue21
  t37 := Tryz.underlying34
  a37 := Tryz.isAgg34
  z37 := Tryz.sizeOf34
  v37 := Tryz.zeroValue34
  t46 := Tryz.underlying167
  a46 := Tryz.isAgg167
  z46 := Tryz.sizeOf167
  v46 := Tryz.zeroValue167
  t51 := Tryz.underlying164
  a51 := Tryz.isAgg164
  z51 := Tryz.sizeOf164
  v51 := Tryz.zeroValue164
  t53 := Tryz.underlying70
  a53 := Tryz.isAgg70
  z53 := Tryz.sizeOf70
  v53 := Tryz.zeroValue70
  t75 := Tryz.underlying58
  a75 := Tryz.isAgg58
  z75 := Tryz.sizeOf58
  v75 := Tryz.zeroValue58
  t85 := Tryz.underlying177
  a85 := Tryz.isAgg177
  z85 := Tryz.sizeOf177
  v85 := Tryz.zeroValue177
  t127 := Tryz.underlying105
  a127 := Tryz.isAgg105
  z127 := Tryz.sizeOf105
  v127 := Tryz.zeroValue105
  t143 := Tryz.underlying220
  a143 := Tryz.isAgg220
  z143 := Tryz.sizeOf220
  v143 := Tryz.zeroValue220
  t145 := Tryz.underlying222
  a145 := Tryz.isAgg222
  z145 := Tryz.sizeOf222
  v145 := Tryz.zeroValue222
  t167 := Tryz.underlying199
  a167 := Tryz.isAgg199
  z167 := Tryz.sizeOf199
  v167 := Tryz.zeroValue199
  t168 := Tryz.underlying202
  a168 := Tryz.isAgg202
  z168 := Tryz.sizeOf202
  v168 := Tryz.zeroValue202
  t171 := Tryz.underlying127
  a171 := Tryz.isAgg127
  z171 := Tryz.sizeOf127
  v171 := Tryz.zeroValue127
  t173 := Tryz.underlying130
  a173 := Tryz.isAgg130
  z173 := Tryz.sizeOf130
  v173 := Tryz.zeroValue130
  t175 := Tryz.underlying200
  a175 := Tryz.isAgg200
  z175 := Tryz.sizeOf200
  v175 := Tryz.zeroValue200
  t210 := Tryz.underlying214
  a210 := Tryz.isAgg214
  z210 := Tryz.sizeOf214
  v210 := Tryz.zeroValue214
  t212 := Tryz.underlying163
  a212 := Tryz.isAgg163
  z212 := Tryz.sizeOf163
  v212 := Tryz.zeroValue163
  t213 := Tryz.underlying165
  a213 := Tryz.isAgg165
  z213 := Tryz.sizeOf165
  t232 := Tryz.underlying193
  a232 := Tryz.isAgg193
  z232 := Tryz.sizeOf193
  v232 := Tryz.zeroValue193
  t233 := Tryz.underlying194
  a233 := Tryz.isAgg194
  z233 := Tryz.sizeOf194
  v233 := Tryz.zeroValue194
  g15 := by kernel_rfl
  g16 := by kernel_rfl
  g17 := by kernel_rfl
  g18 := by kernel_rfl
  g19 := by kernel_rfl
  t80 := Tryz.underlying63
  a80 := Tryz.isAgg63
  z80 := Tryz.sizeOf63
  v80 := Tryz.zeroValue63
  i0 := by kernel_rfl
  i2 := by kernel_rfl
  i3 := by kernel_rfl
  i4 := by kernel_rfl
  i5 := by kernel_rfl
  i9 := by kernel_rfl
  i20 := by kernel_rfl
  i21 := by kernel_rfl
  i37 := by kernel_rfl
  i46 := by kernel_rfl
  i51 := by kernel_rfl
  i53 := by kernel_rfl
  i75 := by kernel_rfl
  i80 := by kernel_rfl
  i85 := by kernel_rfl
  i127 := by kernel_rfl
  i143 := by kernel_rfl
  i145 := by kernel_rfl
  i167 := by kernel_rfl
  i168 := by kernel_rfl
  i171 := by kernel_rfl
  i173 := by kernel_rfl
  i175 := by kernel_rfl
  i210 := by kernel_rfl
  i212 := by kernel_rfl
  i232 := by kernel_rfl
  i233 := by kernel_rfl
  m15 := by kernel_rfl
  m16 := by kernel_rfl
  m17 := by kernel_rfl
  m18 := by kernel_rfl
  m19 := by kernel_rfl
  c0 := by kernel_rfl
  c2 := by kernel_rfl
  c3 := by kernel_rfl
  c4 := by kernel_rfl
  c5 := by kernel_rfl
  c9 := by kernel_rfl
  c20 := by kernel_rfl
  c21 := by kernel_rfl
  c37 := by kernel_rfl
  c46 := by kernel_rfl
  c51 := by kernel_rfl
  c53 := by kernel_rfl
  c75 := by kernel_rfl
  c80 := by kernel_rfl
  c85 := by kernel_rfl
  c127 := by kernel_rfl
  c143 := by kernel_rfl
  c145 := by kernel_rfl
  c167 := by kernel_rfl
  c168 := by kernel_rfl
  c171 := by kernel_rfl
  c173 := by kernel_rfl
  c175 := by kernel_rfl
  c210 := by kernel_rfl
  c212 := by kernel_rfl
  c213 := by kernel_rfl
  c232 := by kernel_rfl
  c233 := by kernel_rfl }
open Go.RowKit in
theorem Tryz.strconv_ParseInt_10_at64_ok (s : ByteArray) (hmax : s.size ≤ 9223372036854775806) (v : Int) (h : Lib.parseIntB 64 s.data.toList = .ok v) (w : World) :
    Calls Tryz.prog 111 #[.string s, .int .i64 10, .int .i64 64] w fun e w' => e = .returned (.tuple #[.int .i64 v, .nilIface]) ∧ (w' = w ∨ ∃ t, w' = Lib.bytesWorld w 5 t) := Any.strconv_ParseInt_10_at64_ok Tryz.laysC174 s hmax v h w
open Go.RowKit in
theorem Tryz.strconv_ParseInt_10_at64_range_var (s : ByteArray) (hlim : s.size ≤ 281474976710656) (h : Lib.parseIntB 64 s.data.toList = .range) (tp : TypeId) (p : Value) (w : World) (hvar : w.var? Tryz.prog "strconv.ErrRange" = some #[.iface tp p]) :
    Calls Tryz.prog 111 #[.string s, .int .i64 10, .int .i64 64] w fun e w' => ∃ N, e = .returned (.tuple #[.int .i64 (Lib.intSat 64 s.data.toList), .iface 202 (.pointer (some ⟨N, 0, none⟩))]) ∧ w.heap.size ≤ N ∧ w'.heap[N]? = some (.cells #[.string ⟨#[80, 97, 114, 115, 101, 73, 110, 116]⟩, .string s, .iface tp p] 214 (0, 0)) ∧ Below w.heap.size w w' := Any.strconv_ParseInt_10_at64_range_var Tryz.laysC174 s hlim h tp p w hvar
end Go.Proofs
namespace Go.Av
open Go
inductive Own where
  | any
  | nil
  | zero
  | buf (g cap : Nat)
inductive AV where
  | v (x : Value)
  | ptr (l off : Nat)
  | rptr (cs : List AV)
  | sl (xs : List AV) (o : Own)
  | msl (l off len k : Nat)
  | mb (l n cap k : Nat)
  | agg (cs : List AV)
  | tup (vs : List AV)
  | iface (t : TypeId) (x : AV)
  | clo (f : Nat) (pre cap : List AV)
  | mapr (l : Nat)
def AV.cells : AV → List AV
  | .agg cs => cs
  | .tup _ => []
  | x => [x]
def AV.one : AV → Bool
  | .agg _ => false
  | .tup _ => false
  | _ => true
def flat (xs : List AV) : List AV := xs.flatMap AV.cells
abbrev PH := Nat → Nat → Option Value
def Own.ok (o : Own) (b off cap : Nat) : Prop :=
  match o with
  | .any => True
  | .buf g c => g = b ∧ off = 0 ∧ c = cap
  | _ => False
def Own.okEmpty (o : Own) (a : Option Addr) (cap : Nat) : Prop :=
  match o with
  | .any => True
  | .nil => a = none
  | .zero => cap = 0
  | .buf _ _ => False
inductive RV (H : PH) : Value → AV → Prop
  | v (x : Value) (h : x.oneCell' = true) : RV H x (.v x)
  | ptr (l off : Nat) : RV H (.pointer (some ⟨l, off, none⟩)) (.ptr l off)
  | rptr (b off : Nat) (vals : Nat → Value) (cs : List AV) (hone : ∀ c ∈ cs, c.one = true) (hH : ∀ j, j < cs.length → H b (off + j) = some (vals j))
      (hR : ∀ j u, cs[j]? = some u → RV H (vals j) u) : RV H (.pointer (some ⟨b, off, none⟩)) (.rptr cs)
  | slEmpty (a : Option Addr) (cap : Nat) (o : Own) (ha : a = none → cap = 0) (ho : o.okEmpty a cap) : RV H (.slice a 0 cap) (.sl [] o)
  | sl (b off len cap k : Nat) (vals : Nat → Value) (xs : List AV) (o : Own) (hk : 0 < k) (hlen : len = xs.length) (hcap : len ≤ cap) (hel : ∀ e ∈ xs, e.cells.length = k)
      (hone : ∀ c ∈ flat xs, c.one = true) (hH : ∀ j, j < len * k → H b (off + j) = some (vals j)) (hR : ∀ j u, (flat xs)[j]? = some u → RV H (vals j) u) (ho : o.ok b off cap) :
      RV H (.slice (some ⟨b, off, none⟩) len cap) (.sl xs o)
  | msl (l off len cap k : Nat) (hk : 0 < k) (hcap : len ≤ cap) : RV H (.slice (some ⟨l, off, none⟩) len cap) (.msl l off len k)
  | mb (l n cap k : Nat) (hk : 0 < k) (hcap : n ≤ cap) : RV H (.slice (some ⟨l, 0, none⟩) n cap) (.mb l n cap k)
  | agg (vs : Array Value) (cs : List AV) (hone : ∀ c ∈ cs, c.one = true) (hl : vs.size = cs.length) (hR : ∀ j u, cs[j]? = some u → RV H (vs.getD j undef) u) : RV H (.agg vs) (.agg cs)
  | tup (vs : Array Value) (cs : List AV) (hl : vs.size = cs.length) (hR : ∀ j u, cs[j]? = some u → RV H (vs.getD j undef) u) : RV H (.tuple vs) (.tup cs)
  | iface (t : TypeId) (x : Value) (y : AV) (h : RV H x y) : RV H (.iface t x) (.iface t y)
  | clo (f : Nat) (ws vs : Array Value) (ds cs : List AV) (hw : ws.size = ds.length) (hW : ∀ j u, ds[j]? = some u → RV H (ws.getD j undef) u) (hl : vs.size = cs.length) (hR : ∀ j u, cs[j]? = some u → RV H (vs.getD j undef) u) : RV H (.func (.func f) ws vs) (.clo f ds cs)
  | mapr (l : Nat) : RV H (.map (some l)) (.mapr l)
def RVA (H : PH) (vs : Array Value) (cs : List AV) : Prop := vs.size = cs.length ∧ ∀ j u, cs[j]? = some u → RV H (vs.getD j undef) u
def PH.le (H H' : PH) : Prop := ∀ b o v, H b o = some v → H' b o = some v
theorem PH.le.refl (H : PH) : H.le H := fun _ _ _ h => h
theorem PH.le.trans {A B C : PH} (h : A.le B) (k : B.le C) : A.le C := fun b o v hv => k b o v (h b o v hv)
theorem RV.mono {H H' : PH} (hle : H.le H') {x : Value} {a : AV} (h : RV H x a) : RV H' x a := by
  induction h with
  | v x h => exact .v x h
  | ptr l off => exact .ptr l off
  | rptr b off vals cs hone hH _ ih => exact .rptr b off vals cs hone (fun j hj => hle _ _ _ (hH j hj)) ih
  | slEmpty a cap o ha ho => exact .slEmpty a cap o ha ho
  | sl b off len cap k vals xs o hk hlen hcap hel hone hH _ ho ih => exact .sl b off len cap k vals xs o hk hlen hcap hel hone (fun j hj => hle _ _ _ (hH j hj)) ih ho
  | msl l off len cap k hk hcap => exact .msl l off len cap k hk hcap
  | mb l n cap k hk hcap => exact .mb l n cap k hk hcap
  | agg vs cs hone hl _ ih => exact .agg vs cs hone hl ih
  | tup vs cs hl _ ih => exact .tup vs cs hl ih
  | iface t x y _ ih => exact .iface t x y ih
  | clo f ws vs ds cs hw _ hl _ ihW ih => exact .clo f ws vs ds cs hw ihW hl ih
  | mapr l => exact .mapr l
theorem RVA.mono {H H' : PH} (hle : H.le H') {vs : Array Value} {cs : List AV} (h : RVA H vs cs) : RVA H' vs cs := ⟨h.1, fun j u hu => (h.2 j u hu).mono hle⟩
theorem RV.oneCell {H : PH} {x : Value} {a : AV} (h : RV H x a) (ha : a.one = true) : x.oneCell' = true := by
  cases h <;> first | assumption | rfl | (simp [AV.one] at ha)
theorem RV.undef (H : PH) : RV H Go.undef (.tup []) := .tup #[] [] rfl (fun j u h => by simp at h)
theorem RV.cells {H : PH} {x : Value} {a : AV} (h : RV H x a) (hn : 0 < a.cells.length) : RVA H x.cells a.cells ∧ ∀ c ∈ a.cells, c.one = true := by
  have h0 := h
  cases h with
  | agg vs cs hone hl hR => exact ⟨⟨hl, hR⟩, hone⟩
  | tup vs cs hl hR => simp [AV.cells] at hn
  | v x hx =>
    refine ⟨⟨?_, ?_⟩, by intro c hc; simp [AV.cells] at hc; subst hc; rfl⟩
    · cases x <;> simp_all [Value.cells, AV.cells, Value.oneCell']
    · intro j u hu
      match j, hu with
      | 0, hu =>
        simp [AV.cells] at hu; subst hu
        cases x <;> simp_all [Value.cells, Value.oneCell']
      | j + 1, hu => simp [AV.cells] at hu
  | _ =>
    refine ⟨⟨rfl, ?_⟩, by intro c hc; simp [AV.cells] at hc; subst hc; rfl⟩
    intro j u hu
    match j, hu with
    | 0, hu => simp [AV.cells] at hu; subst hu; exact h0
    | j + 1, hu => simp [AV.cells] at hu
inductive Ob where
  | cells (cs : List AV)
  | ro (cs : List AV)
  | buf (k n cap : Nat)
  | it (t : ByteArray) (pos : Nat)
  | mp (es : List (AV × AV × Nat)) (clock : Nat)
  | mi (m : Option Nat) (since : Nat) (seen : List Nat) (stepped : Nat)
  | tc (T : TypeId) (cs : List AV)
  | sc (cs : List AV)
abbrev Hp := Nat → Option Ob
def Hp.set (s : Hp) (l : Nat) (o : Ob) : Hp := fun l' => if l' = l then some o else s l'
def Hp.del (s : Hp) (l : Nat) : Hp := fun l' => if l' = l then none else s l'
def Hp.emp : Hp := fun _ => none
def Hp.sub (s t : Hp) : Prop := ∀ l o, s l = some o → t l = some o
def EntOk (H : PH) (e : MapEntry) (u : AV × AV × Nat) : Prop := RV H e.key u.1 ∧ RV H e.val u.2.1 ∧ e.born = u.2.2
def EntsOk (H : PH) (es : Array MapEntry) (us : List (AV × AV × Nat)) : Prop := es.size = us.length ∧ ∀ (j : Nat) (e : MapEntry) (u : AV × AV × Nat), es[j]? = some e → us[j]? = some u → EntOk H e u
theorem EntsOk.mono {H H' : PH} (hle : H.le H') {es : Array MapEntry} {us : List (AV × AV × Nat)} (h : EntsOk H es us) : EntsOk H' es us :=
  ⟨h.1, fun j e u he hu => ⟨(h.2 j e u he hu).1.mono hle, (h.2 j e u he hu).2.1.mono hle, (h.2 j e u he hu).2.2⟩⟩
def ObOk (H : PH) (w : World) (l : Nat) : Ob → Prop
  | .cells cs => (∀ c ∈ cs, c.one = true) ∧ ∃ vs T, w.heap[l]? = some (.cells vs T (0, 0)) ∧ RVA H vs cs ∧ ∀ o, H l o = none
  | .ro cs => (∀ c ∈ cs, c.one = true) ∧ ∃ vs T fz, w.heap[l]? = some (.cells vs T fz) ∧ RVA H vs cs ∧ ∀ o, o < vs.size → H l o = some (vs.getD o undef)
  | .buf k n cap => 0 < k ∧ n ≤ cap ∧ cap ≤ maxLen ∧ ∃ vs T, w.heap[l]? = some (.cells vs T (0, 0)) ∧ vs.size = cap * k ∧ ∀ o, n * k ≤ o → H l o = none
  | .it t pos => w.heap[l]? = some (.stringIter t pos)
  | .mp us clock => ∃ es, w.heap[l]? = some (.map es clock) ∧ EntsOk H es us
  | .mi m since seen stepped => w.heap[l]? = some (.mapIter m since seen.toArray stepped)
  | .sc cs => (∀ c ∈ cs, c.one = true) ∧ ∃ vs T, w.heap[l]? = some (.cells vs T (vs.size, vs.size + 1)) ∧ RVA H vs cs ∧ ∀ o, H l o = none
  | .tc T cs => (∀ c ∈ cs, c.one = true) ∧ ∃ vs, w.heap[l]? = some (.cells vs T (0, 0)) ∧ RVA H vs cs ∧ ∀ o, H l o = none
structure Holds (H : PH) (s : Hp) (w : World) : Prop where
  ro : ∀ b o v, H b o = some v → w.cell? ⟨b, o, none⟩ = some v
  ob : ∀ l o, s l = some o → ObOk H w l o
structure Step (H : PH) (s : Hp) (w : World) (H' : PH) (s' : Hp) (w' : World) : Prop where
  holds : Holds H' s' w'
  le : H.le H'
  os : w'.os = w.os
  tape : w'.tape = w.tape
  output : w'.output = w.output
  size : w.heap.size ≤ w'.heap.size
  block : ∀ b, b < w.heap.size → s b = none → w'.heap[b]? = w.heap[b]?
  newS : ∀ b, s' b ≠ none → s b ≠ none ∨ w.heap.size ≤ b
  newH : ∀ b o, H' b o ≠ none → H b o ≠ none ∨ s b ≠ none ∨ w.heap.size ≤ b
  roB : ∀ b cs, b < w.heap.size → s b = some (.ro cs) → w'.heap[b]? = w.heap[b]? ∧ (s' b = none ∨ ∃ cs', s' b = some (.ro cs'))
theorem Step.refl {H : PH} {s : Hp} {w : World} (h : Holds H s w) : Step H s w H s w :=
  ⟨h, .refl H, rfl, rfl, rfl, Nat.le_refl _, fun _ _ _ => rfl, fun _ h => .inl h, fun _ _ h => .inl h, fun _ _ _ h => ⟨rfl, .inr ⟨_, h⟩⟩⟩
theorem Step.trans {H H1 H2 : PH} {s s1 s2 : Hp} {w w1 w2 : World} (a : Step H s w H1 s1 w1) (b : Step H1 s1 w1 H2 s2 w2) : Step H s w H2 s2 w2 where
  holds := b.holds
  le := a.le.trans b.le
  os := b.os.trans a.os
  tape := b.tape.trans a.tape
  output := b.output.trans a.output
  size := Nat.le_trans a.size b.size
  block := fun k hk hs => by
    have h1 : s1 k = none := by
      cases h : s1 k with
      | none => rfl
      | some o => rcases a.newS k (by simp [h]) with h' | h'
                  · exact absurd hs h'
                  · omega
    rw [b.block k (Nat.lt_of_lt_of_le hk a.size) h1, a.block k hk hs]
  newS := fun k hk => by
    rcases b.newS k hk with h | h
    · exact a.newS k h
    · exact .inr (Nat.le_trans a.size h)
  newH := fun k o hk => by
    rcases b.newH k o hk with h | h | h
    · exact a.newH k o h
    · exact .inr (a.newS k h)
    · exact .inr (.inr (Nat.le_trans a.size h))
  roB := fun k cs hk hs => by
    obtain ⟨h1, h2⟩ := a.roB k cs hk hs
    have hk1 := Nat.lt_of_lt_of_le hk a.size
    rcases h2 with h2 | ⟨cs', h2⟩
    · refine ⟨by rw [b.block k hk1 h2, h1], .inl ?_⟩
      cases h : s2 k with
      | none => rfl
      | some o => rcases b.newS k (by simp [h]) with h' | h'
                  · exact absurd h2 h'
                  · omega
    · obtain ⟨h3, h4⟩ := b.roB k cs' hk1 h2
      exact ⟨by rw [h3, h1], h4⟩
theorem Holds.lt {H : PH} {s : Hp} {w : World} (h : Holds H s w) {b o : Nat} {v : Value} (hv : H b o = some v) : b < w.heap.size :=
  World.block_lt_of_cell? w _ (h.ro b o v hv)
theorem Holds.newNone {H : PH} {s : Hp} {w : World} (h : Holds H s w) (o : Nat) : H w.heap.size o = none := by
  cases hv : H w.heap.size o with
  | none => rfl
  | some v => have := h.lt hv; omega
theorem ObOk.lt {H : PH} {w : World} {l : Nat} {o : Ob} (h : ObOk H w l o) : l < w.heap.size := by
  cases o with
  | cells cs => obtain ⟨_, vs, T, hh, _⟩ := h; exact (Array.getElem?_eq_some_iff.1 hh).1
  | ro cs => obtain ⟨_, vs, T, fz, hh, _⟩ := h; exact (Array.getElem?_eq_some_iff.1 hh).1
  | buf k n cap => obtain ⟨_, _, _, vs, T, hh, _⟩ := h; exact (Array.getElem?_eq_some_iff.1 hh).1
  | it t pos => exact (Array.getElem?_eq_some_iff.1 h).1
  | mp us clock => obtain ⟨es, hh, _⟩ := h; exact (Array.getElem?_eq_some_iff.1 hh).1
  | mi m since seen stepped => exact (Array.getElem?_eq_some_iff.1 h).1
  | tc T cs => obtain ⟨_, vs, hh, _⟩ := h; exact (Array.getElem?_eq_some_iff.1 hh).1
  | sc cs => obtain ⟨_, vs, T, hh, _⟩ := h; exact (Array.getElem?_eq_some_iff.1 hh).1
theorem Holds.newS {H : PH} {s : Hp} {w : World} (h : Holds H s w) : s w.heap.size = none := by
  cases hv : s w.heap.size with
  | none => rfl
  | some v => have := (h.ob _ _ hv).lt; omega
theorem ObOk.kept {H H' : PH} {w w' : World} {l : Nat} {o : Ob} (h : ObOk H w l o) (hle : H.le H') (hb : w'.heap[l]? = w.heap[l]?) (hn : ∀ i, H' l i ≠ none → H l i ≠ none) : ObOk H' w' l o := by
  have hnone : ∀ i, H l i = none → H' l i = none := fun i hi => by
    cases h' : H' l i with
    | none => rfl
    | some v => exact absurd hi (hn i (by simp [h']))
  cases o with
  | cells cs =>
    obtain ⟨h0, vs, T, hh, hr, hx⟩ := h
    exact ⟨h0, vs, T, by rw [hb]; exact hh, hr.mono hle, fun i => hnone i (hx i)⟩
  | ro cs =>
    obtain ⟨h0, vs, T, fz, hh, hr, hx⟩ := h
    exact ⟨h0, vs, T, fz, by rw [hb]; exact hh, hr.mono hle, fun i hi => hle _ _ _ (hx i hi)⟩
  | buf k n cap =>
    obtain ⟨h0, h1, h2, vs, T, hh, hr, hx⟩ := h
    exact ⟨h0, h1, h2, vs, T, by rw [hb]; exact hh, hr, fun i hi => hnone i (hx i hi)⟩
  | it t pos => exact by show w'.heap[l]? = _; rw [hb]; exact h
  | mp us clock =>
    obtain ⟨es, hh, he⟩ := h
    exact ⟨es, by rw [hb]; exact hh, he.mono hle⟩
  | mi m since seen stepped => exact by show w'.heap[l]? = _; rw [hb]; exact h
  | tc T cs =>
    obtain ⟨h0, vs, hh, hr, hx⟩ := h
    exact ⟨h0, vs, by rw [hb]; exact hh, hr.mono hle, fun i => hnone i (hx i)⟩
  | sc cs =>
    obtain ⟨h0, vs, T, hh, hr, hx⟩ := h
    exact ⟨h0, vs, T, by rw [hb]; exact hh, hr.mono hle, fun i => hnone i (hx i)⟩
theorem Holds.drop {H : PH} {s s' : Hp} {w : World} (h : Holds H s w) (hs : s'.sub s) : Holds H s' w := ⟨h.ro, fun l o hl => h.ob l o (hs l o hl)⟩
theorem Step.drop {H H' : PH} {s s' s'' : Hp} {w w' : World} (h : Step H s w H' s' w') (hs : s''.sub s') : Step H s w H' s'' w' where
  holds := h.holds.drop hs
  le := h.le
  os := h.os
  tape := h.tape
  output := h.output
  size := h.size
  block := h.block
  newS := fun b hb => h.newS b (by
    cases hx : s'' b with
    | none => exact absurd hx hb
    | some o => simp [hs b o hx])
  newH := h.newH
  roB := fun b cs hb hx => by
    obtain ⟨h1, h2⟩ := h.roB b cs hb hx
    refine ⟨h1, ?_⟩
    cases h3 : s'' b with
    | none => exact .inl rfl
    | some o =>
      have h4 := hs b o h3
      rcases h2 with h2 | ⟨cs', h2⟩
      · rw [h2] at h4; cases h4
      · rw [h2] at h4; cases h4; exact .inr ⟨_, rfl⟩
theorem Holds.drew {H : PH} {s : Hp} {w : World} (h : Holds H s w) : Holds H s w.drew := ⟨h.ro, fun l o hl => by
  have := h.ob l o hl
  cases o <;> exact this⟩
theorem Step.drew {H : PH} {s : Hp} {w : World} (h : Holds H s w) : Step H s w H s w.drew :=
  ⟨h.drew, .refl H, rfl, rfl, rfl, Nat.le_refl _, fun _ _ _ => rfl, fun _ h => .inl h, fun _ _ h => .inl h, fun _ _ _ h => ⟨rfl, .inr ⟨_, h⟩⟩⟩
def up (k : AV → Hp → Prop) : AV → Hp → Prop := fun v s => ∃ s2, s2.sub s ∧ k v s2
theorem Hp.sub_rfl (s : Hp) : s.sub s := fun _ _ h => h
theorem up_of {k : AV → Hp → Prop} {v : AV} {s : Hp} (h : k v s) : up k v s := ⟨s, Hp.sub_rfl s, h⟩
theorem up_mono {k k' : AV → Hp → Prop} (h : ∀ v s, k v s → k' v s) {v : AV} {s : Hp} (hu : up k v s) : up k' v s := by
  obtain ⟨s2, h1, h2⟩ := hu
  exact ⟨s2, h1, h _ _ h2⟩
def ACp (P : Program) (f : FuncId) (args : List AV) (s : Hp) (R Rp : AV → Hp → Prop) : Prop :=
  ∀ (vs : Array Value) (w : World) (H : PH), RVA H vs args → Holds H s w →
    Calls P f vs w fun e w' => (∃ v r H' s', e = .returned v ∧ Step H s w H' s' w' ∧ RV H' v r ∧ R r s') ∨
      (∃ v r H' s', e = .panicked [{ v, recovered := false }] ∧ Step H s w H' s' w' ∧ RV H' v r ∧ Rp r s')
theorem ACp.mono {P : Program} {f : FuncId} {args : List AV} {s : Hp} {R R' Rp Rp' : AV → Hp → Prop} (h : ACp P f args s R Rp) (hr : ∀ r s', R r s' → R' r s') (hp : ∀ r s', Rp r s' → Rp' r s') : ACp P f args s R' Rp' :=
  fun vs w H ha hs => (h vs w H ha hs).mono fun _ _ hh => by
    rcases hh with ⟨v, r, H', s', he, hst, hv, hR⟩ | ⟨v, r, H', s', he, hst, hv, hR⟩
    · exact .inl ⟨v, r, H', s', he, hst, hv, hr _ _ hR⟩
    · exact .inr ⟨v, r, H', s', he, hst, hv, hp _ _ hR⟩
def AC (P : Program) (f : FuncId) (args : List AV) (s : Hp) (R : AV → Hp → Prop) : Prop :=
  ∀ (vs : Array Value) (w : World) (H : PH), RVA H vs args → Holds H s w →
    Calls P f vs w fun e w' => ∃ v r H' s', e = .returned v ∧ Step H s w H' s' w' ∧ RV H' v r ∧ R r s'
theorem AC.p {P : Program} {f : FuncId} {args : List AV} {s : Hp} {R Rp : AV → Hp → Prop} (h : AC P f args s R) : ACp P f args s R Rp :=
  fun vs w H ha hs => (h vs w H ha hs).mono fun _ _ hh => .inl hh
theorem ACp.np {P : Program} {f : FuncId} {args : List AV} {s : Hp} {R : AV → Hp → Prop} (h : ACp P f args s R (up fun _ _ => False)) : AC P f args s R :=
  fun vs w H ha hs => (h vs w H ha hs).mono fun _ _ hh => by
    rcases hh with hh | ⟨v, r, H', s', he, hst, hv, _, _, hR⟩
    · exact hh
    · exact hR.elim
theorem AC.mono {P : Program} {f : FuncId} {args : List AV} {s : Hp} {R R' : AV → Hp → Prop} (h : AC P f args s R) (hr : ∀ r s', R r s' → R' r s') : AC P f args s R' :=
  fun vs w H ha hs => (h vs w H ha hs).mono fun _ _ ⟨v, r, H', s', he, hst, hv, hR⟩ => ⟨v, r, H', s', he, hst, hv, hr _ _ hR⟩
def Shift (args : List AV) (s : Hp) (args' : List AV) (s' : Hp) : Prop :=
  ∀ (vs : Array Value) (w : World) (H : PH), RVA H vs args → Holds H s w → ∃ H', RVA H' vs args' ∧ Step H s w H' s' w
theorem AC.pre {P : Program} {f : FuncId} {args args' : List AV} {s s' : Hp} {R : AV → Hp → Prop} (h : AC P f args' s' R) (hs : Shift args s args' s') : AC P f args s R :=
  fun vs w H ha hh => by
    obtain ⟨H1, ha1, hst⟩ := hs vs w H ha hh
    exact (h vs w H1 ha1 hst.holds).mono fun _ _ ⟨v, r, H', s', he, hst', hv, hR⟩ => ⟨v, r, H', s', he, hst.trans hst', hv, hR⟩
theorem Shift.drop {args : List AV} {s s' : Hp} (h : s'.sub s) : Shift args s args s' := fun _ _ H ha hh => ⟨H, ha, (Step.refl hh).drop h⟩
def Hp.disj (s t : Hp) : Prop := ∀ l, s l = none ∨ t l = none
def Hp.join (s t : Hp) : Hp := fun l => (s l).or (t l)
theorem Hp.join_left {s t : Hp} {l : Nat} {o : Ob} (h : s l = some o) : (s.join t) l = some o := by simp [Hp.join, h]
theorem Hp.join_right {s t : Hp} {l : Nat} (h : s l = none) : (s.join t) l = t l := by simp [Hp.join, h]
theorem Step.frame {H H' : PH} {s s' t : Hp} {w w' : World} (h : Step H s w H' s' w') (hd : s.disj t) (ht : Holds H (s.join t) w) :
    Step H (s.join t) w H' (s'.join t) w' ∧ s'.disj t := by
  have hlt : ∀ l o, t l = some o → s l = none ∧ ObOk H w l o := fun l o hl => by
    have hs : s l = none := (hd l).resolve_right (by simp [hl])
    exact ⟨hs, ht.ob l o (by rw [Hp.join_right hs]; exact hl)⟩
  have hd' : s'.disj t := fun l => by
    cases hl : t l with
    | none => exact .inr rfl
    | some o =>
      left
      obtain ⟨h1, h2⟩ := hlt l o hl
      cases hs : s' l with
      | none => rfl
      | some o' => rcases h.newS l (by simp [hs]) with h' | h'
                   · exact absurd h1 h'
                   · have := h2.lt; omega
  refine ⟨⟨⟨h.holds.ro, fun l o hl => ?_⟩, h.le, h.os, h.tape, h.output, h.size, fun b hb hs => ?_, fun b hb => ?_, fun b o hb => ?_, fun b cs hb hs => ?_⟩, hd'⟩
  · cases hs : s' l with
    | some o' => rw [Hp.join_left hs] at hl; obtain rfl := Option.some.inj hl; exact h.holds.ob l o' hs
    | none =>
      rw [Hp.join_right hs] at hl
      obtain ⟨h1, h2⟩ := hlt l o hl
      refine h2.kept h.le (h.block l h2.lt h1) fun i hi => ?_
      rcases h.newH l i hi with h' | h' | h'
      · exact h'
      · exact absurd h1 h'
      · have := h2.lt; omega
  · exact h.block b hb (by
      cases hx : s b with
      | none => rfl
      | some o => rw [Hp.join_left hx] at hs; cases hs)
  · cases hs : s' b with
    | some o =>
      rcases h.newS b (by simp [hs]) with h' | h'
      · left
        cases hx : s b with
        | none => exact absurd hx h'
        | some o => simp [Hp.join_left hx]
      · exact .inr h'
    | none =>
      rw [Hp.join_right hs] at hb
      left
      cases hx : s b with
      | some o => simp [Hp.join_left hx]
      | none => rw [Hp.join_right hx]; exact hb
  · rcases h.newH b o hb with h' | h' | h'
    · exact .inl h'
    · right; left
      cases hx : s b with
      | none => exact absurd hx h'
      | some o => simp [Hp.join_left hx]
    · exact .inr (.inr h')
  · cases hx : s b with
    | some o =>
      rw [Hp.join_left hx] at hs; obtain rfl := Option.some.inj hs
      obtain ⟨h1, h2⟩ := h.roB b cs hb hx
      refine ⟨h1, ?_⟩
      rcases h2 with h2 | ⟨cs', h2⟩
      · rw [Hp.join_right h2]; left; exact (hd b).resolve_left (by simp [hx])
      · exact .inr ⟨cs', Hp.join_left h2⟩
    | none =>
      rw [Hp.join_right hx] at hs
      refine ⟨h.block b hb hx, .inr ⟨cs, ?_⟩⟩
      rw [Hp.join_right ((hd' b).resolve_right (by simp [hs]))]; exact hs
theorem Hp.sub_join_left (s t : Hp) : s.sub (s.join t) := fun _ _ h => Hp.join_left h
theorem AC.frame {P : Program} {f : FuncId} {args : List AV} {s t : Hp} {R : AV → Hp → Prop} (h : AC P f args s R) (hd : s.disj t) :
    AC P f args (s.join t) fun r u => ∃ s', R r s' ∧ s'.disj t ∧ u = s'.join t :=
  fun vs w H ha hh => (h vs w H ha (hh.drop (Hp.sub_join_left s t))).mono fun _ _ ⟨v, r, H', s', he, hst, hv, hR⟩ =>
    ⟨v, r, H', s'.join t, he, (hst.frame hd hh).1, hv, s', hR, (hst.frame hd hh).2, rfl⟩
theorem ACp.frame {P : Program} {f : FuncId} {args : List AV} {s t : Hp} {R k : AV → Hp → Prop} (h : ACp P f args s R (up k)) (hd : s.disj t) :
    ACp P f args (s.join t) (fun r u => ∃ s', R r s' ∧ s'.disj t ∧ u = s'.join t) (up k) :=
  fun vs w H ha hh => (h vs w H ha (hh.drop (Hp.sub_join_left s t))).mono fun _ _ hq => by
    rcases hq with ⟨v, r, H', s', he, hst, hv, hR⟩ | ⟨v, r, H', s', he, hst, hv, s2, h2, hR⟩
    · exact .inl ⟨v, r, H', s'.join t, he, (hst.frame hd hh).1, hv, s', hR, (hst.frame hd hh).2, rfl⟩
    · exact .inr ⟨v, r, H', s'.join t, he, (hst.frame hd hh).1, hv, s2, fun l o hl => Hp.join_left (h2 l o hl), hR⟩
theorem ACp.pre {P : Program} {f : FuncId} {args args' : List AV} {s s' : Hp} {R Rp : AV → Hp → Prop} (h : ACp P f args' s' R Rp) (hs : Shift args s args' s') : ACp P f args s R Rp :=
  fun vs w H ha hh => by
    obtain ⟨H1, ha1, hst⟩ := hs vs w H ha hh
    exact (h vs w H1 ha1 hst.holds).mono fun _ _ hq => by
      rcases hq with ⟨v, r, H', s', he, hst', hv, hR⟩ | ⟨v, r, H', s', he, hst', hv, hR⟩
      · exact .inl ⟨v, r, H', s', he, hst.trans hst', hv, hR⟩
      · exact .inr ⟨v, r, H', s', he, hst.trans hst', hv, hR⟩
end Go.Av
namespace Go.Av
open Go
theorem heap_alloc_ne (w : World) (o : Obj) (b : Nat) (h : b ≠ w.heap.size) : (w.alloc o).heap[b]? = w.heap[b]? := by
  show (w.heap.push o)[b]? = _
  rw [Array.getElem?_push, if_neg h]
theorem Hp.set_same (s : Hp) (l : Nat) (o : Ob) : (s.set l o) l = some o := by simp [Hp.set]
theorem Hp.set_ne (s : Hp) {l l' : Nat} (o : Ob) (h : l' ≠ l) : (s.set l o) l' = s l' := by simp [Hp.set, h]
theorem Hp.del_same (s : Hp) (l : Nat) : (s.del l) l = none := by simp [Hp.del]
theorem Hp.del_ne (s : Hp) {l l' : Nat} (h : l' ≠ l) : (s.del l) l' = s l' := by simp [Hp.del, h]
def PH.ext (H : PH) (g n : Nat) (vs : Array Value) : PH := fun b o => if b = g ∧ o < n then vs[o]? else H b o
theorem PH.ext_at (H : PH) (g n : Nat) (vs : Array Value) {o : Nat} (h : o < n) : (H.ext g n vs) g o = vs[o]? := by simp [PH.ext, h]
theorem PH.ext_out (H : PH) (g n : Nat) (vs : Array Value) {b o : Nat} (h : ¬ (b = g ∧ o < n)) : (H.ext g n vs) b o = H b o := by simp [PH.ext, h]
theorem Step.write {H : PH} {s : Hp} {w w' : World} {fr : Nat × Nat} (h : Holds H s w) (g n : Nat) (vs : Array Value) (T : TypeId) (s' : Hp)
    (hos : w'.os = w.os) (htape : w'.tape = w.tape) (hout : w'.output = w.output) (hsize : w.heap.size ≤ w'.heap.size)
    (hg : w'.heap[g]? = some (.cells vs T fr)) (hne : ∀ b, b < w.heap.size → b ≠ g → w'.heap[b]? = w.heap[b]?)
    (hfree : g = w.heap.size ∨ (s g ≠ none ∧ ∀ cs, s g ≠ some (.ro cs)))
    (hn : n ≤ vs.size) (hold : ∀ o v, H g o = some v → vs[o]? = some v)
    (hs' : ∀ l o, l ≠ g → s' l = some o → s l = some o)
    (hob : ∀ o, s' g = some o → ObOk (H.ext g n vs) w' g o) : Step H s w (H.ext g n vs) s' w' := by
  have hle : H.le (H.ext g n vs) := fun b o v hv => by
    by_cases hb : b = g ∧ o < n
    · obtain ⟨rfl, ho⟩ := hb
      rw [PH.ext_at _ _ _ _ ho]; exact hold o v hv
    · rw [PH.ext_out _ _ _ _ hb]; exact hv
  have hne' : ∀ b, b ≠ g → ∀ i, (H.ext g n vs) b i = H b i := fun b hb i => PH.ext_out _ _ _ _ (fun hh => hb hh.1)
  refine ⟨⟨fun b o v hv => ?_, fun l o hl => ?_⟩, hle, hos, htape, hout, hsize, fun b hb hs => ?_, fun b hb => ?_, fun b o hb => ?_, fun b cs hb hs => ?_⟩
  · by_cases hb : b = g
    · subst hb
      simp only [World.cell?, hg, Option.isSome_none, Bool.false_eq_true, if_false]
      by_cases ho : o < n
      · rw [PH.ext_at _ _ _ _ ho] at hv; exact hv
      · rw [PH.ext_out _ _ _ _ (fun hh => ho hh.2)] at hv; exact hold o v hv
    · rw [hne' b hb] at hv
      have := h.ro b o v hv
      have hlt := h.lt hv
      rw [← this]
      exact World.cell?_of_block (hne b hlt hb)
  · by_cases hb : l = g
    · subst hb; exact hob o hl
    · have h1 := h.ob l o (hs' l o hb hl)
      exact h1.kept hle (hne l h1.lt hb) (fun i hi => by rw [hne' l hb] at hi; exact hi)
  · refine hne b hb fun hbg => ?_
    subst hbg
    rcases hfree with rfl | hf
    · omega
    · exact hf.1 hs
  · by_cases hbg : b = g
    · subst hbg
      rcases hfree with rfl | hf
      · exact .inr (Nat.le_refl _)
      · exact .inl hf.1
    · left
      cases hx : s' b with
      | none => exact absurd hx hb
      | some o => simp [hs' b o hbg hx]
  · by_cases hbg : b = g ∧ o < n
    · right
      obtain ⟨rfl, _⟩ := hbg
      rcases hfree with rfl | hf
      · exact .inr (Nat.le_refl _)
      · exact .inl hf.1
    · rw [PH.ext_out _ _ _ _ hbg] at hb; exact .inl hb
  · have hbg : b ≠ g := by
      rintro rfl
      rcases hfree with rfl | hf
      · omega
      · exact hf.2 cs hs
    refine ⟨hne b hb hbg, ?_⟩
    cases hx : s' b with
    | none => exact .inl rfl
    | some o =>
      have := hs' b o hbg hx
      rw [hs] at this; cases this; exact .inr ⟨_, rfl⟩
theorem PH.ext_zero (H : PH) (g : Nat) (vs : Array Value) : H.ext g 0 vs = H := by
  funext b o; simp [PH.ext]
theorem Step.new {H : PH} {s : Hp} {w : World} (h : Holds H s w) (vs : Array Value) (T : TypeId) (cs : List AV) (hone : ∀ c ∈ cs, c.one = true) (hr : RVA H vs cs) :
    Step H s w H (s.set w.heap.size (.cells cs)) (w.alloc (.cells vs T)) := by
  have := Step.write (w' := w.alloc (.cells vs T)) h w.heap.size 0 vs T (s.set w.heap.size (.cells cs)) rfl rfl rfl (by simp) (heap_alloc_new w _) (fun b _ hb => heap_alloc_ne w _ b hb) (.inl rfl)
    (Nat.zero_le _) (fun o v hv => by rw [h.newNone] at hv; cases hv) (fun l o hl hs => by rw [Hp.set_ne _ _ hl] at hs; exact hs)
    (fun o ho => by
      rw [Hp.set_same] at ho; obtain rfl := Option.some.inj ho
      rw [PH.ext_zero]
      exact ⟨hone, vs, T, heap_alloc_new w _, hr, h.newNone⟩)
  rwa [PH.ext_zero] at this
theorem Step.newT {H : PH} {s : Hp} {w : World} (h : Holds H s w) (vs : Array Value) (T : TypeId) (cs : List AV) (hone : ∀ c ∈ cs, c.one = true) (hr : RVA H vs cs) :
    Step H s w H (s.set w.heap.size (.tc T cs)) (w.alloc (.cells vs T)) := by
  have := Step.write (w' := w.alloc (.cells vs T)) h w.heap.size 0 vs T (s.set w.heap.size (.tc T cs)) rfl rfl rfl (by simp) (heap_alloc_new w _) (fun b _ hb => heap_alloc_ne w _ b hb) (.inl rfl)
    (Nat.zero_le _) (fun o v hv => by rw [h.newNone] at hv; cases hv) (fun l o hl hs => by rw [Hp.set_ne _ _ hl] at hs; exact hs)
    (fun o ho => by
      rw [Hp.set_same] at ho; obtain rfl := Option.some.inj ho
      rw [PH.ext_zero]
      exact ⟨hone, vs, heap_alloc_new w _, hr, h.newNone⟩)
  rwa [PH.ext_zero] at this
def putAt (cs : List AV) (off : Nat) (xs : List AV) : List AV := cs.take off ++ xs ++ cs.drop (off + xs.length)
theorem putAt_length (cs : List AV) (off : Nat) (xs : List AV) (h : off + xs.length ≤ cs.length) : (putAt cs off xs).length = cs.length := by
  simp [putAt]; omega
def vput (vs : Array Value) (off : Nat) (xs : List Value) : Array Value := (vs.toList.take off ++ xs ++ vs.toList.drop (off + xs.length)).toArray
theorem RVA.get {H : PH} {vs : Array Value} {cs : List AV} (h : RVA H vs cs) {j : Nat} (hj : j < cs.length) : RV H (vs.getD j undef) cs[j] := h.2 j _ (List.getElem?_eq_getElem hj)
theorem RVA.iff_list {H : PH} {vs : Array Value} {cs : List AV} : RVA H vs cs ↔ vs.toList.length = cs.length ∧ ∀ (j : Nat) (x : Value) (u : AV), vs.toList[j]? = some x → cs[j]? = some u → RV H x u := by
  constructor
  · rintro ⟨h1, h2⟩
    refine ⟨by simpa using h1, fun j x u hx hu => ?_⟩
    have := h2 j u hu
    have hj : vs[j]? = some x := by simpa using hx
    rw [Array.getD_eq_getD_getElem?, hj] at this
    exact this
  · rintro ⟨h1, h2⟩
    refine ⟨by simpa using h1, fun j u hu => ?_⟩
    have hj : j < cs.length := (List.getElem?_eq_some_iff.1 hu).1
    have hj' : j < vs.size := by simp at h1; omega
    refine h2 j _ u ?_ hu
    simp [hj']
theorem RVA.putAt {H : PH} {vs : Array Value} {cs xs : List AV} {ys : Array Value} (h : RVA H vs cs) (hx : RVA H ys xs) (off : Nat) (hoff : off + xs.length ≤ cs.length) :
    RVA H (vput vs off ys.toList) (putAt cs off xs) := by
  rw [RVA.iff_list] at h hx ⊢
  obtain ⟨h1, h2⟩ := h
  obtain ⟨h3, h4⟩ := hx
  refine ⟨by simp only [vput, Go.Av.putAt, List.length_append, List.length_take, List.length_drop]; omega, fun j x u hj hu => ?_⟩
  simp only [vput, Go.Av.putAt] at hj hu
  by_cases ha : j < off
  · rw [List.append_assoc, List.getElem?_append_left (by simp only [List.length_take]; omega), List.getElem?_take_of_lt ha] at hj
    rw [List.append_assoc, List.getElem?_append_left (by simp only [List.length_take]; omega), List.getElem?_take_of_lt ha] at hu
    exact h2 j x u hj hu
  · by_cases hb : j < off + xs.length
    · rw [List.append_assoc, List.getElem?_append_right (by simp only [List.length_take]; omega), List.getElem?_append_left (by simp only [List.length_take]; omega)] at hj
      rw [List.append_assoc, List.getElem?_append_right (by simp only [List.length_take]; omega), List.getElem?_append_left (by simp only [List.length_take]; omega)] at hu
      rw [show (vs.toList.take off).length = (cs.take off).length by simp only [List.length_take]; omega] at hj
      exact h4 _ x u hj hu
    · rw [List.getElem?_append_right (by simp only [List.length_append, List.length_take]; omega), List.getElem?_drop] at hj hu
      have e1 : off + ys.toList.length + (j - (vs.toList.take off ++ ys.toList).length) = j := by simp only [List.length_append, List.length_take]; omega
      have e2 : off + xs.length + (j - (cs.take off ++ xs).length) = j := by simp only [List.length_append, List.length_take]; omega
      rw [e1] at hj
      rw [e2] at hu
      exact h2 j x u hj hu
theorem putAt_one {cs xs : List AV} (h : ∀ c ∈ cs, c.one = true) (hx : ∀ c ∈ xs, c.one = true) (off : Nat) : ∀ c ∈ putAt cs off xs, c.one = true := by
  intro c hc
  simp only [putAt, List.mem_append] at hc
  rcases hc with (hc | hc) | hc
  · exact h c (List.mem_of_mem_take hc)
  · exact hx c hc
  · exact h c (List.mem_of_mem_drop hc)
theorem RVA.oneCell {H : PH} {vs : Array Value} {cs : List AV} (h : RVA H vs cs) (hone : ∀ c ∈ cs, c.one = true) : ∀ x ∈ vs.toList, x.oneCell' = true := by
  intro x hx
  obtain ⟨j, hj⟩ := List.getElem?_of_mem hx
  obtain ⟨h1, h2⟩ := RVA.iff_list.1 h
  have hlt : j < cs.length := by rw [← h1]; exact (List.getElem?_eq_some_iff.1 hj).1
  exact (h2 j x _ hj (List.getElem?_eq_getElem hlt)).oneCell (hone _ (List.getElem_mem hlt))
theorem Step.store {H : PH} {s : Hp} {w : World} (h : Holds H s w) {l : Nat} {cs : List AV} (hl : s l = some (.cells cs)) (off : Nat) (xs : List AV) (ys : Array Value) (hx : RVA H ys xs)
    (hone : ∀ c ∈ xs, c.one = true) (hoff : off + xs.length ≤ cs.length) :
    ∃ vs T, w.heap[l]? = some (.cells vs T (0, 0)) ∧ vs.size = cs.length ∧ Step H s w H (s.set l (.cells (putAt cs off xs))) (w.setRow l (vput vs off ys.toList)) := by
  obtain ⟨h1, vs, T, hh, hr, hn⟩ := h.ob l _ hl
  refine ⟨vs, T, hh, hr.1, ?_⟩
  have := Step.write (w' := w.setRow l (vput vs off ys.toList)) h l 0 (vput vs off ys.toList) T (s.set l (.cells (putAt cs off xs))) rfl rfl rfl (by simp) (setRow_heap w l vs _ T _ hh)
    (fun b _ hb => setRow_other w l b _ hb) (.inr (by simp [hl])) (Nat.zero_le _) (fun o v hv => by rw [hn] at hv; cases hv) (fun l' o hl' hs => by rw [Hp.set_ne _ _ hl'] at hs; exact hs)
    (fun o ho => by
      rw [Hp.set_same] at ho; obtain rfl := Option.some.inj ho
      rw [PH.ext_zero]
      exact ⟨putAt_one h1 hone off, _, T, setRow_heap w l vs _ T _ hh, hr.putAt hx off hoff, hn⟩)
  rwa [PH.ext_zero] at this
theorem Step.storeT {H : PH} {s : Hp} {w : World} (h : Holds H s w) {l : Nat} {T : TypeId} {cs : List AV} (hl : s l = some (.tc T cs)) (off : Nat) (xs : List AV) (ys : Array Value) (hx : RVA H ys xs)
    (hone : ∀ c ∈ xs, c.one = true) (hoff : off + xs.length ≤ cs.length) :
    ∃ vs, w.heap[l]? = some (.cells vs T (0, 0)) ∧ vs.size = cs.length ∧ Step H s w H (s.set l (.tc T (putAt cs off xs))) (w.setRow l (vput vs off ys.toList)) := by
  obtain ⟨h1, vs, hh, hr, hn⟩ := h.ob l _ hl
  refine ⟨vs, hh, hr.1, ?_⟩
  have := Step.write (w' := w.setRow l (vput vs off ys.toList)) h l 0 (vput vs off ys.toList) T (s.set l (.tc T (putAt cs off xs))) rfl rfl rfl (by simp) (setRow_heap w l vs _ T _ hh)
    (fun b _ hb => setRow_other w l b _ hb) (.inr (by simp [hl])) (Nat.zero_le _) (fun o v hv => by rw [hn] at hv; cases hv) (fun l' o hl' hs => by rw [Hp.set_ne _ _ hl'] at hs; exact hs)
    (fun o ho => by
      rw [Hp.set_same] at ho; obtain rfl := Option.some.inj ho
      rw [PH.ext_zero]
      exact ⟨putAt_one h1 hone off, _, setRow_heap w l vs _ T _ hh, hr.putAt hx off hoff, hn⟩)
  rwa [PH.ext_zero] at this
theorem vput_size (vs : Array Value) (off : Nat) (xs : List Value) (h : off + xs.length ≤ vs.size) : (vput vs off xs).size = vs.size := by
  simp [vput]; omega
theorem Step.storeS {H : PH} {s : Hp} {w : World} (h : Holds H s w) {l : Nat} {cs : List AV} (hl : s l = some (.sc cs)) (off : Nat) (xs : List AV) (ys : Array Value) (hx : RVA H ys xs)
    (hone : ∀ c ∈ xs, c.one = true) (hoff : off + xs.length ≤ cs.length) :
    ∃ vs T, w.heap[l]? = some (.cells vs T (vs.size, vs.size + 1)) ∧ vs.size = cs.length ∧ Step H s w H (s.set l (.sc (putAt cs off xs))) (w.setRow l (vput vs off ys.toList)) := by
  obtain ⟨h1, vs, T, hh, hr, hn⟩ := h.ob l _ hl
  refine ⟨vs, T, hh, hr.1, ?_⟩
  have hys : ys.toList.length = xs.length := by have := hx.1; simpa using this
  have hsz : (vput vs off ys.toList).size = vs.size := vput_size _ _ _ (by rw [hys, hr.1]; exact hoff)
  have := Step.write (w' := w.setRow l (vput vs off ys.toList)) h l 0 (vput vs off ys.toList) T (s.set l (.sc (putAt cs off xs))) rfl rfl rfl (by simp) (setRow_heap w l vs _ T _ hh)
    (fun b _ hb => setRow_other w l b _ hb) (.inr (by simp [hl])) (Nat.zero_le _) (fun o v hv => by rw [hn] at hv; cases hv) (fun l' o hl' hs => by rw [Hp.set_ne _ _ hl'] at hs; exact hs)
    (fun o ho => by
      rw [Hp.set_same] at ho; obtain rfl := Option.some.inj ho
      rw [PH.ext_zero]
      exact ⟨putAt_one h1 hone off, _, T, by rw [hsz]; exact setRow_heap w l vs _ T _ hh, hr.putAt hx off hoff, hn⟩)
  rwa [PH.ext_zero] at this
theorem Step.del {H : PH} {s : Hp} {w : World} (h : Holds H s w) (l : Nat) : Step H s w H (s.del l) w :=
  (Step.refl h).drop (fun l' o ho => by
    by_cases hl : l' = l
    · subst hl; rw [Hp.del_same] at ho; cases ho
    · rwa [Hp.del_ne _ hl] at ho)
theorem Step.freezeT {H : PH} {s : Hp} {w : World} (h : Holds H s w) {l : Nat} {cs : List AV} (hl : s l = some (.cells cs) ∨ (∃ T, s l = some (.tc T cs)) ∨ s l = some (.sc cs)) :
    ∃ H', Step H s w H' (s.set l (.ro cs)) w := by
  obtain ⟨hs, h1, vs, T, fz, hh, hr, hn⟩ : (s l ≠ none ∧ ∀ cs, s l ≠ some (.ro cs)) ∧ (∀ c ∈ cs, c.one = true) ∧ ∃ vs T fz, w.heap[l]? = some (.cells vs T fz) ∧ RVA H vs cs ∧ ∀ o, H l o = none := by
    rcases hl with hl | ⟨T, hl⟩ | hl
    · obtain ⟨h1, vs, T, hh, hr, hn⟩ := h.ob l _ hl; exact ⟨by simp [hl], h1, vs, T, _, hh, hr, hn⟩
    · obtain ⟨h1, vs, hh, hr, hn⟩ := h.ob l _ hl; exact ⟨by simp [hl], h1, vs, T, _, hh, hr, hn⟩
    · obtain ⟨h1, vs, T, hh, hr, hn⟩ := h.ob l _ hl; exact ⟨by simp [hl], h1, vs, T, _, hh, hr, hn⟩
  refine ⟨H.ext l vs.size vs, Step.write (w' := w) h l vs.size vs T _ rfl rfl rfl (Nat.le_refl _) hh (fun _ _ _ => rfl) (.inr hs) (Nat.le_refl _) (fun o v hv => by rw [hn] at hv; cases hv)
    (fun l' o hl' hs => by rw [Hp.set_ne _ _ hl'] at hs; exact hs) (fun o ho => ?_)⟩
  rw [Hp.set_same] at ho; obtain rfl := Option.some.inj ho
  have hle : H.le (H.ext l vs.size vs) := fun b o v hv => by
    rw [PH.ext_out _ _ _ _ (fun hh => by obtain ⟨rfl, _⟩ := hh; rw [hn] at hv; cases hv)]; exact hv
  refine ⟨h1, vs, T, fz, hh, hr.mono hle, fun o ho => ?_⟩
  rw [PH.ext_at _ _ _ _ ho]
  simp [ho]
theorem Step.freeze {H : PH} {s : Hp} {w : World} (h : Holds H s w) {l : Nat} {cs : List AV} (hl : s l = some (.cells cs)) : ∃ H', Step H s w H' (s.set l (.ro cs)) w := Step.freezeT h (.inl hl)
theorem RVA.sub {H : PH} {vs : Array Value} {cs : List AV} (h : RVA H vs cs) (off n : Nat) (hn : off + n ≤ cs.length) : RVA H (vs.extract off (off + n)) ((cs.drop off).take n) := by
  rw [RVA.iff_list] at h ⊢
  obtain ⟨h1, h2⟩ := h
  have hs : vs.size = cs.length := by simpa using h1
  refine ⟨by simp; omega, fun j x u hx hu => ?_⟩
  have hj : j < n := by
    have := (List.getElem?_eq_some_iff.1 hu).1
    simp at this; omega
  rw [List.getElem?_take_of_lt hj, List.getElem?_drop] at hu
  refine h2 (off + j) x u ?_ hu
  rw [Array.getElem?_toList] at hx
  rw [Array.getElem?_extract] at hx
  split at hx
  · simpa using hx
  · cases hx
theorem Step.other {H : PH} {s : Hp} {w w' : World} (h : Holds H s w) (g : Nat) (ob : Ob)
    (hos : w'.os = w.os) (htape : w'.tape = w.tape) (hout : w'.output = w.output) (hsize : w.heap.size ≤ w'.heap.size)
    (hne : ∀ b, b < w.heap.size → b ≠ g → w'.heap[b]? = w.heap[b]?) (hfree : g = w.heap.size ∨ (s g ≠ none ∧ ∀ cs, s g ≠ some (.ro cs))) (hH : ∀ o, H g o = none)
    (hob : ObOk H w' g ob) : Step H s w H (s.set g ob) w' := by
  refine ⟨⟨fun b o v hv => ?_, fun l o hl => ?_⟩, .refl H, hos, htape, hout, hsize, fun b hb hs => ?_, fun b hb => ?_, fun b o hb => .inl hb, fun b cs hb hs => ?_⟩
  · have hb : b ≠ g := by rintro rfl; rw [hH] at hv; cases hv
    have hlt := h.lt hv
    rw [← h.ro b o v hv]
    exact World.cell?_of_block (hne b hlt hb)
  · by_cases hb : l = g
    · subst hb; rw [Hp.set_same] at hl; obtain rfl := Option.some.inj hl; exact hob
    · rw [Hp.set_ne _ _ hb] at hl
      have h1 := h.ob l o hl
      exact h1.kept (.refl H) (hne l h1.lt hb) (fun i hi => hi)
  · refine hne b hb fun hbg => ?_
    subst hbg
    rcases hfree with rfl | hf
    · omega
    · exact hf.1 hs
  · by_cases hbg : b = g
    · subst hbg
      rcases hfree with rfl | hf
      · exact .inr (Nat.le_refl _)
      · exact .inl hf.1
    · rw [Hp.set_ne _ _ hbg] at hb; exact .inl hb
  · have hbg : b ≠ g := by
      rintro rfl
      rcases hfree with rfl | hf
      · omega
      · exact hf.2 cs hs
    exact ⟨hne b hb hbg, .inr ⟨cs, by rw [Hp.set_ne _ _ hbg]; exact hs⟩⟩
theorem Step.newOther {H : PH} {s : Hp} {w : World} (h : Holds H s w) (o : Obj) (ob : Ob) (hob : ObOk H (w.alloc o) w.heap.size ob) : Step H s w H (s.set w.heap.size ob) (w.alloc o) :=
  .other h _ ob rfl rfl rfl (by simp) (fun b _ hb => heap_alloc_ne w _ b hb) (.inl rfl) h.newNone hob
theorem Holds.objNone {H : PH} {s : Hp} {w : World} (h : Holds H s w) {l : Nat} {o : Obj} (hl : w.heap[l]? = some o) (hc : ∀ c e f, o ≠ .cells c e f) (i : Nat) : H l i = none := by
  cases hv : H l i with
  | none => rfl
  | some v =>
    exfalso
    have := h.ro l i v hv
    simp only [World.cell?, hl] at this
    split at this
    · rename_i c e f heq; exact hc c e f (Option.some.inj heq)
    · cases this
theorem Step.setOther {H : PH} {s : Hp} {w : World} (h : Holds H s w) {l : Nat} {o o' : Obj} {ob : Ob} (hs : s l ≠ none ∧ ∀ cs, s l ≠ some (.ro cs)) (hl : w.heap[l]? = some o) (hc : ∀ c e f, o ≠ .cells c e f) (hob : ObOk H { w with heap := w.heap.setIfInBounds l o' } l ob) :
    Step H s w H (s.set l ob) { w with heap := w.heap.setIfInBounds l o' } :=
  .other h l ob rfl rfl rfl (by simp) (fun b _ hb => Array.getElem?_setIfInBounds_ne (Ne.symm hb)) (.inr hs) (h.objNone hl hc) hob
theorem run_storeCells_free (P : Program) (g o : Nat) (t : TypeId) (fz : Nat × Nat) : ∀ (vs : List Value) (i : Nat) (cur : Array Value) (w : World), w.heap[g]? = some (.cells cur t fz) → (∀ j, j < cur.size → ¬ (fz.1 ≤ j ∧ j < fz.2)) → o + i + vs.length ≤ cur.size → (∀ v ∈ vs, v.oneCell' = true) →
    (storeCells ⟨g, o, none⟩ vs i).run P w = .ok () (w.setRow g (cur.toList.take (o + i) ++ vs ++ cur.toList.drop (o + i + vs.length)).toArray)
  | [], i, cur, w, hg, _, _, _ => by
    simp only [storeCells, List.append_nil, List.length_nil, Nat.add_zero, List.take_append_drop, Array.toArray_toList]
    rw [setRow_self w g cur t fz hg]
    rfl
  | v :: rest, i, cur, w, hg, hfz, hl, h1 => by
    have hi : o + i < cur.size := by simp at hl; omega
    have hadd : (⟨g, o, none⟩ : Addr).add i = ⟨g, o + i, none⟩ := by unfold Addr.add; split <;> simp_all
    have hcell : w.cell? ⟨g, o + i, none⟩ = some cur[o + i] := by simp [World.cell?, hg, hi]
    have hfro : w.frozen? ⟨g, o + i, none⟩ = false := by
      have := hfz (o + i) hi
      obtain ⟨lo, hi'⟩ := fz
      simp only [World.frozen?, hg, Bool.and_eq_false_iff, decide_eq_false_iff_not]
      simp only at this
      omega
    have hst : (store ((⟨g, o, none⟩ : Addr).add i) v).run P w = .ok () (w.setRow g (cur.setIfInBounds (o + i) v)) := by
      rw [hadd, run_store P w _ v _ (h1 v (by simp)), hcell]
      simp [hfro, setCell_eq_setRow w g (o + i) cur t fz v hg]
    have ih := run_storeCells_free P g o t fz rest (i + 1) (cur.setIfInBounds (o + i) v) (w.setRow g (cur.setIfInBounds (o + i) v)) (setRow_heap w g cur _ t _ hg) (fun j hj => hfz j (by simpa using hj)) (by simp at hl ⊢; omega) (fun x hx => h1 x (by simp [hx]))
    simp only [storeCells, Sem.run_bind, hst, Result.andThen_ok, ih, setRow_setRow]
    congr 3
    have e := list_seg_step cur.toList (o + i) v rest (by simp at hl ⊢; omega)
    simpa [Array.toList_setIfInBounds, Nat.add_assoc] using e
theorem free0 (n : Nat) : ∀ j, j < n → ¬ (((0, 0) : Nat × Nat).1 ≤ j ∧ j < ((0, 0) : Nat × Nat).2) := fun j _ => by simp
theorem freeS (n : Nat) : ∀ j, j < n → ¬ (((n, n + 1) : Nat × Nat).1 ≤ j ∧ j < ((n, n + 1) : Nat × Nat).2) := fun j hj => by simp only; omega
section
variable {P : Program}
structure Src (P : Program) (w : World) (k m : Nat) (x : Value) (news : List Value) : Prop where
  len : (Builtin.lenOf x).run P w = .ok m w
  cells : (Builtin.firstCells k m x).run P w = .ok news.toArray w
  cellsD : (Builtin.firstCells k m x).run P w.drew = .ok news.toArray w.drew
  size : news.length = m * k
theorem run_app_room (w : World) (t xt ty e : TypeId) (i : TypeInfo) (ht : P.underlying t = some (.slice e)) (d : TypeDesc) (hxt : P.underlying xt = some d) (hd : (∃ e', d = .slice e') ∨ d = .string)
    (hi : P.info? e = some i) (g n cap : Nat) (cur : Array Value) (T : TypeId) (fz : Nat × Nat) (hg : w.heap[g]? = some (.cells cur T fz)) (hfz : ∀ j, j < cur.size → ¬ (fz.1 ≤ j ∧ j < fz.2))
    (m : Nat) (x : Value) (news : List Value) (hs : Src P w i.size m x news) (h1 : ∀ u ∈ news, u.oneCell' = true) (hroom : n + m ≤ cap) (hfit : n * i.size + news.length ≤ cur.size) :
    (Builtin.append_ #[t, xt] ty #[.slice (some ⟨g, 0, none⟩) n cap, x]).run P w = .ok (.slice (some ⟨g, 0, none⟩) (n + m) cap) (w.setRow g (vput cur (n * i.size) news)) := by
  have hst := run_storeCells_free P g (n * i.size) T fz news 0 cur w hg hfz (by simpa using hfit) h1
  simp only [Nat.add_zero] at hst
  have hst' : (storeCells ⟨g, n * i.size, none⟩ news).run P w = .ok () (w.setRow g (vput cur (n * i.size) news)) := by rw [hst]; rfl
  have hx : ∀ w' : World, (underlying xt).run P w' = .ok d w' := fun w' => run_underlying hxt w'
  rcases hd with ⟨e', rfl⟩ | rfl <;> simp [Builtin.append_, run_underlying ht, hx, sizeOf, typeInfo, hi, hs.len, hroom, hs.cells, Addr.add_lit, hst']
theorem run_app_grow (w : World) (t xt ty e : TypeId) (i : TypeInfo) (z : Value) (ht : P.underlying t = some (.slice e)) (d : TypeDesc) (hxt : P.underlying xt = some d) (hd : (∃ e', d = .slice e') ∨ d = .string)
    (hi : P.info? e = some i) (hz : i.zero = some z) (base : Option Addr) (n cap : Nat) (olds : List Value) (hol : olds.length = n * i.size)
    (ho : (Builtin.firstCells i.size n (.slice base n cap)).run P w.drew = .ok olds.toArray w.drew)
    (m : Nat) (x : Value) (news : List Value) (hs : Src P w i.size m x news) (hg : cap < n + m) (h63 : ((n + m : Nat) : Int) ≤ 9223372036854775807) (hfit : (n + m) * i.bytes ≤ 140737488355328) :
    (Builtin.append_ #[t, xt] ty #[.slice base n cap, x]).run P w =
      .ok (.slice (some ⟨w.heap.size, 0, none⟩) (n + m) (grownCap w (n + m) cap e))
        (w.drew.alloc (.cells (olds.toArray ++ news.toArray ++ Builtin.zeroCells z.cells (grownCap w (n + m) cap e - (n + m))) e)) := by
  have hn : ¬ (n + m ≤ cap) := by omega
  have h63' : ¬ (9223372036854775807 < ((n : Int) + (m : Int))) := by omega
  have h48' : ¬ (281474976710656 < Builtin.nextslicecap (n + m) cap * i.bytes) := by have := growslice_fits hg hfit; omega
  have hx : ∀ w' : World, (underlying xt).run P w' = .ok d w' := fun w' => run_underlying hxt w'
  rcases hd with ⟨e', rfl⟩ | rfl
  all_goals
    simp [Builtin.append_, run_underlying ht, hx, sizeOf, typeInfo, zeroValue, hi, hz, hs.len, hn, h63', h48', Question.forced, hs.cellsD, ho, newRow, grownCap]
    try (congr 2; apply Array.ext'; simp [List.append_assoc])
end
end Go.Av
namespace Go.Av
open Go
abbrev Fr := Nat → AV
def upd (f : Fr) (d : Nat) (a : AV) : Fr := fun t => if t = d then a else f t
def putF (f : Fr) (d : Option Nat) (a : AV) : Fr :=
  match d with
  | some d => upd f d a
  | none => f
def ofCell : Value → AV
  | .slice none 0 0 => .sl [] .nil
  | x => .v x
def ofConst : Value → AV
  | .agg cs => .agg (cs.toList.map ofCell)
  | .tuple cs => .tup (cs.toList.map ofCell)
  | x => ofCell x
def constOk : Value → Bool
  | .agg cs => cs.toList.all (·.oneCell')
  | .tuple cs => cs.toList.all (·.oneCell')
  | x => x.oneCell'
def opOk : Operand → Bool
  | .const v => constOk v
  | _ => true
def ev (f : Fr) : Operand → AV
  | .tmp t => f t
  | .const v => ofConst v
  | .global g => .ptr g 0
  | .func n => .clo n [] []
theorem RV.ofCell (H : PH) (x : Value) (h : x.oneCell' = true) : RV H x (ofCell x) := by
  unfold Go.Av.ofCell
  split
  · exact .slEmpty _ _ _ (fun _ => rfl) rfl
  · exact .v x h
theorem ofCell_one (x : Value) : (ofCell x).one = true := by
  unfold ofCell; split <;> rfl
theorem RVA.ofCells (H : PH) (cs : Array Value) (h : ∀ x ∈ cs.toList, x.oneCell' = true) : RVA H cs (cs.toList.map Go.Av.ofCell) := by
  refine RVA.iff_list.2 ⟨by simp, fun j x u hx hu => ?_⟩
  rw [List.getElem?_map, hx] at hu
  obtain rfl : ofCell x = u := by simpa using hu
  exact RV.ofCell H x (h x (List.mem_of_getElem? hx))
theorem RV.ofConst (H : PH) (x : Value) (h : constOk x = true) : RV H x (ofConst x) := by
  cases x <;> first
    | exact RV.ofCell H _ h
    | skip
  case agg cs =>
    have h' : ∀ x ∈ cs.toList, x.oneCell' = true := by simp only [constOk, List.all_eq_true] at h; exact h
    obtain ⟨h1, h2⟩ := RVA.ofCells H cs h'
    refine .agg cs _ (fun c hc => ?_) h1 h2
    obtain ⟨x, _, rfl⟩ := List.mem_map.1 hc
    exact ofCell_one x
  case tuple cs =>
    have h' : ∀ x ∈ cs.toList, x.oneCell' = true := by simp only [constOk, List.all_eq_true] at h; exact h
    obtain ⟨h1, h2⟩ := RVA.ofCells H cs h'
    exact .tup cs _ h1 h2
def FRel (H : PH) (a : Act) (f : Fr) : Prop := ∀ t, RV H (a.tmps.getD t undef) (f t)
theorem FRel.ev {H : PH} {a : Act} {f : Fr} (h : FRel H a f) (x : Operand) (hx : opOk x = true) : RV H (a.eval x) (ev f x) := by
  cases x with
  | tmp t => exact h t
  | const v => exact RV.ofConst H v hx
  | global g => exact .ptr g 0
  | func n => exact .clo n #[] #[] [] [] rfl (fun j u h => by simp at h) rfl (fun j u h => by simp at h)
theorem FRel.mono {H H' : PH} {a : Act} {f : Fr} (h : FRel H a f) (hle : H.le H') : FRel H' a f := fun t => (h t).mono hle
theorem FRel.put {H : PH} {a : Act} {f : Fr} (h : FRel H a f) (d : Option Nat) (hd : ∀ t, d = some t → t < a.tmps.size) {v : Value} {r : AV} (hv : RV H v r) : FRel H (a.put d v) (putF f d r) := by
  cases d with
  | none => exact h
  | some d =>
    intro t
    have hlt := hd d rfl
    by_cases ht : t = d
    · subst ht
      simp only [putF, upd, if_true, Act.put]
      rw [Array.getD_eq_getD_getElem?, Array.getElem?_setIfInBounds_self_of_lt hlt]
      exact hv
    · simp only [putF, upd, if_neg ht, Act.put]
      rw [Array.getD_eq_getD_getElem?, Array.getElem?_setIfInBounds_ne (Ne.symm ht), ← Array.getD_eq_getD_getElem?]
      exact h t
def mkv (agg : Bool) (n : Nat) (cs : List AV) : AV := if agg then .agg (cs.take n) else cs.headD (.tup [])
def Hp.read (s : Hp) (l : Nat) : Option (List AV) :=
  match s l with
  | some (.cells cs) => some cs
  | some (.ro cs) => some cs
  | some (.tc _ cs) => some cs
  | some (.sc cs) => some cs
  | _ => none
def elemsOf (k n : Nat) (cs : List AV) : List AV := if k = 1 then cs.take n else (List.range n).map fun i => .agg ((cs.drop (i * k)).take k)
def binInt (op : BinOp) (k : IntKind) (a b : Int) : Option Value :=
  match op with
  | .add => some (.int k (k.wrap (a + b)))
  | .sub => some (.int k (k.wrap (a - b)))
  | .mul => some (.int k (k.wrap (a * b)))
  | .quo => if b = 0 then none else some (.int k (k.wrap (a.tdiv b)))
  | .rem => if b = 0 then none else some (.int k (a.tmod b))
  | .and => some (.int k (k.wrap (BitVec.ofInt k.bits a &&& BitVec.ofInt k.bits b).toNat))
  | .or => some (.int k (k.wrap (BitVec.ofInt k.bits a ||| BitVec.ofInt k.bits b).toNat))
  | .xor => some (.int k (k.wrap (BitVec.ofInt k.bits a ^^^ BitVec.ofInt k.bits b).toNat))
  | .andNot => some (.int k (k.wrap (BitVec.ofInt k.bits a &&& ~~~(BitVec.ofInt k.bits b)).toNat))
  | .eql => some (.bool (decide (a = b)))
  | .neq => some (.bool (decide (a ≠ b)))
  | .lss => some (.bool (decide (a < b)))
  | .leq => some (.bool (decide (a ≤ b)))
  | .gtr => some (.bool (decide (b < a)))
  | .geq => some (.bool (decide (b ≤ a)))
  | _ => none
def shiftInt (op : BinOp) (k : IntKind) (x y : Int) : Option Value :=
  if y < 0 then none else
  match op with
  | .shl => some (.int k (k.wrap (x * 2 ^ (min y.toNat k.bits))))
  | .shr => some (.int k (x.fdiv (2 ^ (min y.toNat k.bits))))
  | _ => none
def isShift : BinOp → Bool
  | .shl | .shr => true
  | _ => false
def binStr (op : BinOp) (x y : ByteArray) : Option Value :=
  match op with
  | .add => if x.size + y.size ≤ 9223372036854775807 then some (.string (x ++ y)) else none
  | .eql => some (.bool (x.toList == y.toList))
  | .neq => some (.bool (!(x.toList == y.toList)))
  | .lss => some (.bool (Op.bytesLess x.toList y.toList))
  | .leq => some (.bool (Op.bytesLess x.toList y.toList || x.toList == y.toList))
  | .gtr => some (.bool (!(Op.bytesLess x.toList y.toList || x.toList == y.toList)))
  | .geq => some (.bool (!(Op.bytesLess x.toList y.toList)))
  | _ => none
def binV (op : BinOp) : Value → Value → Option Value
  | .int k a, .int k' b => if isShift op then shiftInt op k a b else if k = k' then binInt op k a b else none
  | .string x, .string y => binStr op x y
  | _, _ => none
def unV (op : UnOp) : Value → Option Value
  | .bool b => match op with | .not => some (.bool !b) | _ => none
  | .int k n => match op with
    | .neg => some (.int k (k.wrap (0 - n)))
    | .xor => some (.int k (k.wrap (BitVec.ofInt k.bits (if k.signed then -1 else k.max) ^^^ BitVec.ofInt k.bits n).toNat))
    | _ => none
  | _ => none
noncomputable def peq (a b : AV) : Bool := @decide (a = b) (Classical.propDecidable _)
theorem peq_iff (a b : AV) : peq a b = true ↔ a = b := by simp [peq]
theorem peq_self (a : AV) : peq a a = true := by simp [peq]
inductive CK where
  | int (k : IntKind)
  | bool
  | str
  deriving DecidableEq
def CK.fit : CK → Value → Prop
  | .int k, .int k' _ => k = k'
  | .bool, .bool _ => True
  | .str, .string _ => True
  | _, _ => False
def CK.fitA : CK → AV → Prop
  | .int k, .v (.int k' _) => k = k'
  | .bool, .v (.bool _) => True
  | .str, .v (.string _) => True
  | _, _ => False
def fitR : List (Nat × CK) → List AV → Prop
  | [], cs => cs = []
  | (n, k) :: r, cs => n ≤ cs.length ∧ (∀ c ∈ cs.take n, k.fitA c) ∧ fitR r (cs.drop n)
noncomputable def findM : List (AV × AV × Nat) → AV → Nat → Option (Nat × AV)
  | [], _, _ => none
  | u :: us, k, i => if peq k u.1 then some (i, u.2.1) else findM us k (i + 1)
noncomputable def updM (us : List (AV × AV × Nat)) (k v : AV) (clock : Nat) : List (AV × AV × Nat) × Nat :=
  match findM us k 0 with
  | some (j, _) => (us.modify j fun u => (u.1, v, u.2.2), clock)
  | none => (us ++ [(k, v, clock)], clock + 1)
noncomputable def entM (us : List (AV × AV × Nat)) (k z : AV) (clock : Nat) : AV × Nat × List (AV × AV × Nat) × Nat :=
  match findM us k 0 with
  | some (j, v) => (v, ((us[j]?).map (·.2.2)).getD 0, us, clock)
  | none => (z, clock, us ++ [(k, z, clock)], clock + 1)
def bornM (us : List (AV × AV × Nat)) (b : Int) : Option Nat := us.findIdx? fun u => (u.2.2 : Int) == b
def keysOk (rs : List (Nat × CK)) (us : List (AV × AV × Nat)) : Prop := ∀ u ∈ us, ∃ ds, u.1 = .agg ds ∧ fitR rs ds
inductive AOp where
  | mv (x : Operand)
  | pick (c a b : Operand)
  | alloc (T : TypeId) (zero : List AV)
  | box (T : TypeId) (x : Operand)
  | boxR (T : TypeId) (x : Operand)
  | load (agg : Bool) (n : Nat) (x : Operand)
  | store (n : Nat) (x y : Operand)
  | nilc (x : Operand)
  | fa (off : Nat) (x : Operand)
  | iaA (k len : Nat) (x i : Operand)
  | iaS (k : Nat) (x i : Operand)
  | fld (agg : Bool) (off n : Nat) (x : Operand)
  | idxA (agg : Bool) (k len : Nat) (x i : Operand)
  | idxS (x i : Operand)
  | bld (zero : List AV) (parts : List (Nat × Nat × Operand))
  | bsl (k : Nat) (xs : List Operand)
  | slc (k : Nat) (x : Operand) (lo hi : Option Operand)
  | slc0 (x : Operand)
  | slcA (k n : Nat) (x : Operand) (lo hi : Option Operand) (ro : Bool)
  | slcR (k n : Nat) (x : Operand) (lo hi : Option Operand)
  | slcS (x : Operand) (lo hi : Option Operand)
  | len (x : Operand)
  | lenT (x : Operand)
  | lenA (n : Nat)
  | bin (op : BinOp) (x y : Operand)
  | eqv (neg : Bool) (ks : List (Nat × CK)) (x y : Operand)
  | eqb (neg : Bool) (x y : Operand)
  | eqp (neg : Bool) (x y : Operand)
  | un (op : UnOp) (x : Operand)
  | cvt (k : IntKind) (x : Operand)
  | app (k bytes : Nat) (x y : Operand)
  | callF (fn : FuncId) (args : List Operand)
  | ext (x : Operand) (i : Nat)
  | mm (mx : Bool) (k : IntKind) (x y : Operand)
  | b2s (x : Operand)
  | mks (k bytes : Nat) (z : List AV) (x y : Operand)
  | cpy (k : Nat) (x y : Operand)
  | eqn (neg : Bool) (x : Operand)
  | bslM (k : Nat) (xs : List Operand)
  | appM (k bytes : Nat) (x y : Operand)
  | b2sM (x : Operand)
  | s2b (x : Operand)
  | s2bM (x : Operand)
  | clo (fn : FuncId) (first cap : List Operand)
  | callV (x : Operand) (args : List Operand)
  | mki (t : TypeId) (x : Operand)
  | asrt (t : TypeId) (ok : Bool) (z : AV) (x : Operand)
  | eqi (neg : Bool) (x : Operand)
  | eqfn (neg : Bool) (x : Operand)
  | eqpp (neg : Bool) (x y : Operand)
  | pan (x : Operand)
  | rngS (x : Operand)
  | nxtS (x : Operand)
  | allocT (T : TypeId) (zero : List AV)
  | mkM
  | lkp (ok : Bool) (rs : List (Nat × CK)) (z : AV) (x k : Operand)
  | mup (rs : List (Nat × CK)) (x k v : Operand)
  | ment (rs : List (Nat × CK)) (z : AV) (x k : Operand)
  | mst (x i v : Operand)
  | storeX (n : Nat) (x y : Operand)
  | appT (e : TypeId) (x y : Operand)
  | toU (x : Operand)
  | frU (T : TypeId) (n : Nat) (x : Operand)
  | sdat (x : Operand)
  | ustr (e : TypeId) (x y : Operand)
def callOk (P : Program) (g : FuncId) : Bool :=
  match P.funcs[g]? with
  | some fn => fn.body.isSome && fn.name != "runtime.NumGoroutine"
  | none => false
structure Ctx where
  p : Program
  k : AV → Hp → Prop
@[reducible] def Ctx.of (p : Program) : Ctx := ⟨p, fun _ _ => False⟩
def fillG (f : Fr) (cells : List AV) : List (Nat × Nat × Operand) → (List AV → Prop) → Prop
  | [], Kc => Kc cells
  | (off, sz, x) :: r, Kc => (ev f x).cells.length = sz ∧ off + sz ≤ cells.length ∧ fillG f (putAt cells off (ev f x).cells) r Kc
def byteAV (b : UInt8) : AV := .v (.int .u8 b.toNat)
def byteOf : AV → Option UInt8
  | .v (.int .u8 n) => if 0 ≤ n ∧ n < 256 then some (UInt8.ofNat n.toNat) else none
  | _ => none
def bytesOf : List AV → Option (List UInt8)
  | [] => some []
  | x :: r => match byteOf x, bytesOf r with
    | some b, some bs => some (b :: bs)
    | _, _ => none
theorem byteOf_byteAV (b : UInt8) : byteOf (byteAV b) = some b := by
  have h := b.toNat_lt
  have h' : (0 : Int) ≤ (b.toNat : Int) ∧ (b.toNat : Int) < 256 := by omega
  simp [byteOf, byteAV, h']
theorem bytesOf_map : ∀ l : List UInt8, bytesOf (l.map byteAV) = some l
  | [] => rfl
  | b :: l => by simp [bytesOf, byteOf_byteAV, bytesOf_map l]
def bnd (f : Fr) (x : Option Operand) (d : Nat) : Option Int :=
  match x with
  | none => some d
  | some x => match ev f x with
    | .v (.int _ n) => some n
    | _ => none
def SlKeep (o : Own) (lo hi : Option Operand) : Own :=
  match lo, hi with
  | none, none => o
  | _, _ => .any
def mbCut (lo : Bool) (l a b cap k : Nat) : AV := if lo = true then .msl l (a * k) (b - a) k else .mb l b cap k
def srcF (s : Hp) (k : Nat) (y : AV) : Option (Nat × List AV) :=
  match y with
  | .sl ys _ => if ys.all (fun e => decide (e.cells.length = k)) = true then some (ys.length, flat ys) else none
  | .mb l n _ k' => match s.read l with
    | some cs => if k' = k ∧ n * k ≤ cs.length then some (n, cs.take (n * k)) else none
    | none => none
  | .msl l off n k' => match s.read l with
    | some cs => if k' = k ∧ off + n * k ≤ cs.length then some (n, (cs.drop off).take (n * k)) else none
    | none => none
  | _ => none
def srcS (s : Hp) (k : Nat) (y : AV) : Option (Nat × List AV) :=
  match y with
  | .v (.string t) => if k = 1 then some (t.size, t.data.toList.map byteAV) else none
  | y => srcF s k y
def isCells (s : Hp) (l : Nat) : Bool :=
  match s l with
  | some (.cells _) => true
  | some (.tc _ _) => true
  | _ => false
def G (P : Ctx) (op : AOp) (f : Fr) (s : Hp) (K : AV → Hp → Prop) : Prop :=
  match op with
  | .mv x => K (ev f x) s
  | .pick c a b => match ev f c with
    | .v (.bool t) => K (if t then ev f a else ev f b) s
    | _ => False
  | .alloc _ zero => ∀ l, s l = none → K (.ptr l 0) (s.set l (.cells zero))
  | .box _ x => 0 < (ev f x).cells.length ∧ ∀ l, s l = none → K (.ptr l 0) (s.set l (.cells (ev f x).cells))
  | .boxR _ x => 0 < (ev f x).cells.length ∧ ∀ l, s l = none → K (.ptr l 0) (s.set l (.ro (ev f x).cells))
  | .load agg n x => match ev f x with
    | .ptr l off => match s.read l with
      | some cs => off + n ≤ cs.length ∧ K (mkv agg n (cs.drop off)) s
      | none => False
    | .rptr cs => n ≤ cs.length ∧ K (mkv agg n cs) s
    | _ => False
  | .store n x y => match ev f x with
    | .ptr l off => match s l with
      | some (.cells cs) => (ev f y).cells.length = n ∧ off + n ≤ cs.length ∧ K (.tup []) (s.set l (.cells (putAt cs off (ev f y).cells)))
      | _ => False
    | _ => False
  | .nilc x => match ev f x with
    | .ptr l off => K (.ptr l off) s
    | .rptr cs => K (.rptr cs) s
    | .clo n ds cs => K (.clo n ds cs) s
    | _ => False
  | .fa off x => match ev f x with
    | .ptr l o => K (.ptr l (o + off)) s
    | .rptr cs => K (.rptr (cs.drop off)) s
    | _ => False
  | .iaA k len x i => match ev f x, ev f i with
    | .ptr l o, .v (.int _ n) => 0 ≤ n ∧ n < len ∧ K (.ptr l (o + n.toNat * k)) s
    | .rptr cs, .v (.int _ n) => 0 ≤ n ∧ n < len ∧ K (.rptr (cs.drop (n.toNat * k))) s
    | _, _ => False
  | .iaS k x i => match ev f x, ev f i with
    | .sl xs _, .v (.int _ n) => 0 ≤ n ∧ match xs[n.toNat]? with
      | some e => e.cells.length = k ∧ K (.rptr e.cells) s
      | none => False
    | .msl l off len k', .v (.int _ n) => k' = k ∧ 0 ≤ n ∧ n < len ∧ K (.ptr l (off + n.toNat * k)) s
    | .mb l len _ k', .v (.int _ n) => k' = k ∧ 0 ≤ n ∧ n < len ∧ K (.ptr l (n.toNat * k)) s
    | _, _ => False
  | .fld agg off n x => match ev f x with
    | .agg cs => off + n ≤ cs.length ∧ K (mkv agg n (cs.drop off)) s
    | _ => False
  | .idxA agg k len x i => match ev f x, ev f i with
    | .agg cs, .v (.int _ n) => 0 ≤ n ∧ n < len ∧ n.toNat * k + k ≤ cs.length ∧ K (mkv agg k (cs.drop (n.toNat * k))) s
    | _, _ => False
  | .idxS x i => match ev f x, ev f i with
    | .v (.string t), .v (.int _ n) => 0 ≤ n ∧ match t.data[n.toNat]? with
      | some b => K (.v (.int .u8 b.toNat)) s
      | none => False
    | _, _ => False
  | .bld zero parts => fillG f zero parts fun cs => K (.agg cs) s
  | .bsl k xs => (∀ e ∈ xs.map (ev f), e.cells.length = k) ∧
      (if xs.length = 0 then K (.sl [] .zero) s else ∀ g, s g = none → K (.sl (xs.map (ev f)) (.buf g xs.length)) (s.set g (.buf k xs.length xs.length)))
  | .slc k x lo hi => match ev f x with
    | .sl xs o => match bnd f lo 0, bnd f hi xs.length with
      | some a, some b => 0 ≤ a ∧ a ≤ b ∧ b ≤ xs.length ∧ (∀ e ∈ xs, e.cells.length = k) ∧ K (.sl ((xs.take b.toNat).drop a.toNat) (SlKeep o lo hi)) s
      | _, _ => False
    | .msl l off len k' => match bnd f lo 0, bnd f hi len with
      | some a, some b => k' = k ∧ 0 ≤ a ∧ a ≤ b ∧ b ≤ len ∧ a < len ∧ K (.msl l (off + a.toNat * k) (b.toNat - a.toNat) k) s
      | _, _ => False
    | .mb l len cap k' => match bnd f lo 0, bnd f hi len with
      | some a, some b => k' = k ∧ 0 ≤ a ∧ a ≤ b ∧ b ≤ len ∧ (lo.isSome = true → a < len) ∧ K (mbCut lo.isSome l a.toNat b.toNat cap k) s
      | _, _ => False
    | _ => False
  | .slc0 x => match ev f x with
    | .sl _ _ => K (.sl [] .zero) s
    | _ => False
  | .slcA k n x lo hi ro => match ev f x with
    | .ptr l off => match bnd f lo 0, bnd f hi n with
      | some a, some b => 0 ≤ a ∧ a ≤ b ∧ b ≤ n ∧ match s.read l with
        | some cs => off + n * k ≤ cs.length ∧
          (if ro then K (.sl (elemsOf k (b.toNat - a.toNat) (cs.drop (off + a.toNat * k))) .any) (s.set l (.ro cs)) else a < n ∧ K (.msl l (off + a.toNat * k) (b.toNat - a.toNat) k) s)
        | none => False
      | _, _ => False
    | _ => False
  | .slcR k n x lo hi => match ev f x with
    | .ptr l off => match bnd f lo 0, bnd f hi n with
      | some a, some b => 0 ≤ a ∧ a ≤ b ∧ b ≤ n ∧ match s l with
        | some (.ro cs) => off + n * k ≤ cs.length ∧ K (.sl (elemsOf k (b.toNat - a.toNat) (cs.drop (off + a.toNat * k))) .any) s
        | _ => False
      | _, _ => False
    | _ => False
  | .slcS x lo hi => match ev f x with
    | .v (.string t) => match bnd f lo 0, bnd f hi t.size with
      | some a, some b => 0 ≤ a ∧ a ≤ b ∧ b ≤ t.size ∧ K (.v (.string (t.extract a.toNat b.toNat))) s
      | _, _ => False
    | _ => False
  | .len x => match ev f x with
    | .sl xs _ => K (.v (.int .i64 xs.length)) s
    | .msl _ _ n _ => K (.v (.int .i64 n)) s
    | .mb _ n _ _ => K (.v (.int .i64 n)) s
    | _ => False
  | .lenT x => match ev f x with
    | .v (.string t) => K (.v (.int .i64 t.size)) s
    | _ => False
  | .lenA n => K (.v (.int .i64 n)) s
  | .bin op x y => match ev f x, ev f y with
    | .v a, .v b => match binV op a b with
      | some r => K (.v r) s
      | none => False
    | _, _ => False
  | .eqv neg ks x y => match ev f x, ev f y with
    | .agg cs, .agg ds => fitR ks cs ∧ fitR ks ds ∧ K (.v (.bool (xor neg (peq (.agg cs) (.agg ds))))) s
    | _, _ => False
  | .eqb neg x y => match ev f x, ev f y with
    | .v (.bool a), .v (.bool b) => K (.v (.bool (xor neg (a == b)))) s
    | _, _ => False
  | .eqp neg x y => match ev f x, ev f y with
    | .ptr _ _, .v (.pointer none) => K (.v (.bool neg)) s
    | .rptr _, .v (.pointer none) => K (.v (.bool neg)) s
    | .v (.pointer none), .v (.pointer none) => K (.v (.bool (!neg))) s
    | _, _ => False
  | .un op x => match ev f x with
    | .v a => match unV op a with
      | some r => K (.v r) s
      | none => False
    | _ => False
  | .cvt k x => match ev f x with
    | .v (.int _ n) => K (.v (.int k (k.wrap n))) s
    | _ => False
  | .app k bytes x y => match ev f x, ev f y with
    | .sl xs o, .sl ys _ => (∀ e ∈ xs, e.cells.length = k) ∧ (∀ e ∈ ys, e.cells.length = k) ∧ (xs.length + ys.length) * bytes ≤ 140737488355328 ∧ xs.length + ys.length ≤ 9223372036854775807 ∧
      match o with
      | .buf g c => s g = some (.buf k xs.length c) ∧ ∀ g' c', (g' = g ∨ s g' = none) → K (.sl (xs ++ ys) (.buf g' c')) ((s.del g).set g' (.buf k (xs.length + ys.length) c'))
      | .any => False
      | _ => xs = [] ∧ (if ys = [] then K (.sl [] o) s else ∀ g' c', s g' = none → K (.sl ys (.buf g' c')) (s.set g' (.buf k ys.length c')))
    | _, _ => False
  | .callF fn args => ACp P.p fn (args.map (ev f)) s K (up P.k)
  | .ext x i => match ev f x with
    | .tup vs => match vs[i]? with
      | some r => K r s
      | none => False
    | _ => False
  | .mm mx _ x y => match ev f x, ev f y with
    | .v (.int k a), .v (.int k' b) => k = k' ∧ K (.v (.int k (if mx then max a b else min a b))) s
    | _, _ => False
  | .b2s x => match ev f x with
    | .sl xs _ => match bytesOf xs with
      | some l => K (.v (.string ⟨l.toArray⟩)) s
      | none => False
    | _ => False
  | .mks k bytes z x y => match ev f x, ev f y with
    | .v (.int _ n), .v (.int _ m) => n = m ∧ 0 ≤ n ∧ n ≤ 9223372036854775807 ∧ n * bytes ≤ 281474976710656 ∧ ∀ g, s g = none → K (.mb g n.toNat n.toNat k) (s.set g (.cells (List.replicate n.toNat z).flatten))
    | _, _ => False
  | .cpy k x y => match ev f x, ev f y with
    | .msl l off n k', .sl ys _ => k' = k ∧ (∀ e ∈ ys, e.cells.length = k) ∧ match s l with
      | some (.cells cs) => off + n * k ≤ cs.length ∧ K (.v (.int .i64 (min ys.length n))) (s.set l (.cells (putAt cs off (flat (ys.take n)))))
      | _ => False
    | .mb l n _ k', .sl ys _ => k' = k ∧ (∀ e ∈ ys, e.cells.length = k) ∧ match s l with
      | some (.cells cs) => n * k ≤ cs.length ∧ K (.v (.int .i64 (min ys.length n))) (s.set l (.cells (putAt cs 0 (flat (ys.take n)))))
      | _ => False
    | _, _ => False
  | .bslM k xs => (∀ e ∈ xs.map (ev f), e.cells.length = k) ∧
      (if xs.length = 0 then K (.sl [] .zero) s else ∀ g, s g = none → K (.mb g xs.length xs.length k) (s.set g (.cells (flat (xs.map (ev f))))))
  | .appM k bytes x y => match srcS s k (ev f y) with
    | some (m, ys) => match ev f x with
      | .sl xs o => xs = [] ∧ (o = .nil ∨ o = .zero) ∧ m * bytes ≤ 140737488355328 ∧ m ≤ 9223372036854775807 ∧
        (if m = 0 then K (.sl [] o) s else ∀ g cap sp, s g = none → m ≤ cap → cap ≤ maxLen → sp.length = (cap - m) * k → K (.mb g m cap k) (s.set g (.cells (ys ++ sp))))
      | .mb l n cap k' => match s l with
        | some (.cells cs) => k' = k ∧ cs.length = cap * k ∧ (n + m) * bytes ≤ 140737488355328 ∧ n + m ≤ 9223372036854775807 ∧
          (if n + m ≤ cap then K (.mb l (n + m) cap k) (s.set l (.cells (putAt cs (n * k) ys)))
           else ∀ g cap' sp, s g = none → n + m ≤ cap' → cap' ≤ maxLen → sp.length = (cap' - (n + m)) * k → K (.mb g (n + m) cap' k) (s.set g (.cells (cs.take (n * k) ++ ys ++ sp))))
        | some (.sc cs) => k' = k ∧ cs.length = cap * k ∧ (n + m) * bytes ≤ 140737488355328 ∧ n + m ≤ 9223372036854775807 ∧
          (if n + m ≤ cap then K (.mb l (n + m) cap k) (s.set l (.sc (putAt cs (n * k) ys)))
           else ∀ g cap' sp, s g = none → n + m ≤ cap' → cap' ≤ maxLen → sp.length = (cap' - (n + m)) * k → K (.mb g (n + m) cap' k) (s.set g (.cells (cs.take (n * k) ++ ys ++ sp))))
        | _ => False
      | _ => False
    | none => False
  | .b2sM x => match srcF s 1 (ev f x) with
    | some (_, xs) => match bytesOf xs with
      | some l => K (.v (.string ⟨l.toArray⟩)) s
      | none => False
    | none => False
  | .s2b x => match ev f x with
    | .v (.string t) => K (.sl (t.data.toList.map byteAV) .any) s
    | _ => False
  | .s2bM x => match ev f x with
    | .v (.string t) => t.size ≤ 140737488355328 ∧ ∀ g cap sp, s g = none → t.size ≤ cap → cap ≤ maxLen → sp.length = cap - t.size → K (.mb g t.size cap 1) (s.set g (.sc (t.data.toList.map byteAV ++ sp)))
    | _ => False
  | .clo fn first cap => K (.clo fn (first.map (ev f)) (cap.map (ev f))) s
  | .callV x args => match ev f x with
    | .clo fn ds cs => callOk P.p fn = true ∧ ACp P.p fn (ds ++ args.map (ev f) ++ cs) s K (up P.k)
    | _ => False
  | .mki t x => K (.iface t (ev f x)) s
  | .asrt t ok z x => match ev f x with
    | .iface d y => if d = t then K (if ok then .tup [y, .v (.bool true)] else y) s else ok = true ∧ K (.tup [z, .v (.bool false)]) s
    | .v .nilIface => ok = true ∧ K (.tup [z, .v (.bool false)]) s
    | _ => False
  | .eqi neg x => match ev f x with
    | .iface _ _ => K (.v (.bool neg)) s
    | .v .nilIface => K (.v (.bool (!neg))) s
    | _ => False
  | .eqfn neg x => match ev f x with
    | .clo _ _ _ => K (.v (.bool neg)) s
    | .v .nilFunc => K (.v (.bool (!neg))) s
    | _ => False
  | .eqpp neg x y => match ev f x, ev f y with
    | .ptr _ _, .v (.pointer none) => K (.v (.bool neg)) s
    | .v (.pointer none), .ptr _ _ => K (.v (.bool neg)) s
    | .v (.pointer none), .v (.pointer none) => K (.v (.bool (!neg))) s
    | .ptr l o, .ptr l' o' => (isCells s l = true ∧ isCells s l' = true) ∧ K (.v (.bool (xor neg (decide (l = l' ∧ o = o'))))) s
    | _, _ => False
  | .pan x => match ev f x with
    | .iface t y => up P.k (.iface t y) s
    | _ => False
  | .rngS x => match ev f x with
    | .v (.string t) => ∀ l, s l = none → K (.ptr l 0) (s.set l (.it t 0))
    | _ => False
  | .nxtS x => match ev f x with
    | .ptr l off => off = 0 ∧ match s l with
      | some (.it t pos) => if pos < t.size then K (.tup [.v (.bool true), .v (.int .i64 pos), .v (.int .i32 (Utf8.decode t pos).1)]) (s.set l (.it t (pos + (Utf8.decode t pos).2))) else K (.tup [.v (.bool false)]) s
      | _ => False
    | _ => False
  | .storeX n x y => match ev f x with
    | .ptr l off => match s l with
      | some (.cells cs) => (ev f y).cells.length = n ∧ off + n ≤ cs.length ∧ K (.tup []) (s.set l (.cells (putAt cs off (ev f y).cells)))
      | some (.tc T cs) => (ev f y).cells.length = n ∧ off + n ≤ cs.length ∧ K (.tup []) (s.set l (.tc T (putAt cs off (ev f y).cells)))
      | some (.sc cs) => (ev f y).cells.length = n ∧ off + n ≤ cs.length ∧ K (.tup []) (s.set l (.sc (putAt cs off (ev f y).cells)))
      | _ => False
    | _ => False
  | .allocT T zero => ∀ l, s l = none → K (.ptr l 0) (s.set l (.tc T zero))
  | .mkM => ∀ l, s l = none → K (.mapr l) (s.set l (.mp [] 0))
  | .lkp ok rs z x k => match ev f x, ev f k with
    | .mapr l, .agg cs => match s l with
      | some (.mp us _) => fitR rs cs ∧ keysOk rs us ∧ (match findM us (.agg cs) 0 with
        | some (_, v) => K (if ok then .tup [v, .v (.bool true)] else v) s
        | none => K (if ok then .tup [z, .v (.bool false)] else z) s)
      | _ => False
    | _, _ => False
  | .mup rs x k v => match ev f x, ev f k with
    | .mapr l, .agg cs => match s l with
      | some (.mp us clock) => fitR rs cs ∧ keysOk rs us ∧ K (.tup []) (s.set l (.mp (updM us (.agg cs) (ev f v) clock).1 (updM us (.agg cs) (ev f v) clock).2))
      | _ => False
    | _, _ => False
  | .ment rs z x k => match ev f x, ev f k with
    | .mapr l, .agg cs => match s l with
      | some (.mp us clock) => fitR rs cs ∧ keysOk rs us ∧ K (.tup [(entM us (.agg cs) z clock).1, .v (.int .i64 ((entM us (.agg cs) z clock).2.1 : Nat))]) (s.set l (.mp (entM us (.agg cs) z clock).2.2.1 (entM us (.agg cs) z clock).2.2.2))
      | _ => False
    | _, _ => False
  | .mst x i v => match ev f x, ev f i with
    | .mapr l, .v (.int _ b) => match s l with
      | some (.mp us clock) => match bornM us b with
        | some j => K (.tup []) (s.set l (.mp (us.modify j fun u => (u.1, ev f v, u.2.2)) clock))
        | none => False
      | _ => False
    | _, _ => False
  | .appT e x y => match srcS s 1 (ev f y) with
    | some (m, ys) => match ev f x with
      | .sl xs o => xs = [] ∧ (o = .nil ∨ o = .zero) ∧ m ≤ 140737488355328 ∧
        (if m = 0 then K (.sl [] o) s else ∀ g cap sp, s g = none → m ≤ cap → cap ≤ maxLen → sp.length = (cap - m) * 1 → K (.mb g m cap 1) (s.set g (.tc e (ys ++ sp))))
      | .mb l n cap k' => match s l with
        | some (.tc T cs) => T = e ∧ k' = 1 ∧ cs.length = cap * 1 ∧ n + m ≤ 140737488355328 ∧
          (if n + m ≤ cap then K (.mb l (n + m) cap 1) (s.set l (.tc T (putAt cs (n * 1) ys)))
           else ∀ g cap' sp, s g = none → n + m ≤ cap' → cap' ≤ maxLen → sp.length = (cap' - (n + m)) * 1 → K (.mb g (n + m) cap' 1) (s.set g (.tc e (cs.take (n * 1) ++ ys ++ sp))))
        | _ => False
      | _ => False
    | none => False
  | .toU x => match ev f x with
    | .ptr l off => match s.read l with
      | some cs => off < cs.length ∧ K (.ptr l off) s
      | none => False
    | _ => False
  | .frU T n x => match ev f x with
    | .ptr l off => off = 0 ∧ match s l with
      | some (.tc T' cs) => T' = T ∧ cs.length = n ∧ K (.ptr l off) s
      | _ => False
    | _ => False
  | .sdat x => match ev f x with
    | .sl xs o => xs = [] ∧ o = .nil ∧ K (.v (.pointer none)) s
    | .mb l _ cap _ => 0 < cap ∧ K (.ptr l 0) s
    | _ => False
  | .ustr e x y => match ev f x, ev f y with
    | .v (.pointer none), .v (.int k n) => k = .i64 ∧ n = 0 ∧ K (.v (.string ⟨#[]⟩)) s
    | .ptr l off, .v (.int k n) => k = .i64 ∧ off = 0 ∧ 0 < n ∧ match s l with
      | some (.tc T cs) => T = e ∧ n ≤ cs.length ∧ n ≤ 9223372036854775807 ∧ match bytesOf (cs.take n.toNat) with
        | some bs => K (.v (.string ⟨bs.toArray⟩)) (s.del l)
        | none => False
      | _ => False
    | _, _ => False
  | .eqn neg x => match ev f x with
    | .sl xs o => match o with
      | .nil => K (.v (.bool (!neg))) s
      | .buf _ _ => K (.v (.bool neg)) s
      | _ => (xs = [] → K (.v (.bool (!neg))) s) ∧ K (.v (.bool neg)) s
    | .mb _ _ _ _ => K (.v (.bool neg)) s
    | _ => False
theorem fillG_mono {f : Fr} {Kc Kc' : List AV → Prop} (h : ∀ cs, Kc cs → Kc' cs) : ∀ (parts : List (Nat × Nat × Operand)) (cells : List AV), fillG f cells parts Kc → fillG f cells parts Kc'
  | [], cells, hh => h _ hh
  | (_, _, _) :: r, _, hh => ⟨hh.1, hh.2.1, fillG_mono h r _ hh.2.2⟩
theorem G_mono {P : Ctx} {op : AOp} {f : Fr} {s : Hp} {K K' : AV → Hp → Prop} (hk : ∀ r s', K r s' → K' r s') (h : G P op f s K) : G P op f s K' := by
  cases op <;> simp only [G] at h ⊢
  case callF fn args => exact h.mono hk (fun _ _ h => h)
  case callV x args => split at h; (exact ⟨h.1, h.2.mono hk (fun _ _ h => h)⟩); (exact h.elim)
  case s2bM => split at h; (exact ⟨h.1, fun g cap sp h1 h2 h3 h4 => hk _ _ (h.2 g cap sp h1 h2 h3 h4)⟩); (exact h.elim)
  case pan => exact h
  case rngS => split at h; (exact fun l hl => hk _ _ (h l hl)); (exact h.elim)
  case allocT => exact fun l hl => hk _ _ (h l hl)
  case mkM => exact fun l hl => hk _ _ (h l hl)
  case lkp ok rs z x k =>
    split at h
    case h_2 => exact h.elim
    split at h
    case h_2 => exact h.elim
    refine ⟨h.1, h.2.1, ?_⟩
    have h2 := h.2.2
    split at h2
    · exact hk _ _ h2
    · exact hk _ _ h2
  case mup rs x k v =>
    split at h
    case h_2 => exact h.elim
    split at h
    case h_2 => exact h.elim
    exact ⟨h.1, h.2.1, hk _ _ h.2.2⟩
  case ment rs z x k =>
    split at h
    case h_2 => exact h.elim
    split at h
    case h_2 => exact h.elim
    exact ⟨h.1, h.2.1, hk _ _ h.2.2⟩
  case mst x i v =>
    split at h
    case h_2 => exact h.elim
    split at h
    case h_2 => exact h.elim
    split at h
    · exact hk _ _ h
    · exact h.elim
  case asrt t ok z x =>
    split at h
    · split
      · next hd => rw [if_pos hd] at h; exact hk _ _ h
      · next hd => rw [if_neg hd] at h; exact ⟨h.1, hk _ _ h.2⟩
    · exact ⟨h.1, hk _ _ h.2⟩
    · exact h.elim
  case nxtS x =>
    split at h
    case h_2 => exact h.elim
    refine ⟨h.1, ?_⟩
    have h2 := h.2
    split at h2
    case h_2 => exact h2.elim
    split
    · next hp => rw [if_pos hp] at h2; exact hk _ _ h2
    · next hp => rw [if_neg hp] at h2; exact hk _ _ h2
  case appT e x y =>
    split at h
    case h_2 => exact h.elim
    split at h
    · refine ⟨h.1, h.2.1, h.2.2.1, ?_⟩
      have h3 := h.2.2.2
      split
      · next hn => rw [if_pos hn] at h3; exact hk _ _ h3
      · next hn => rw [if_neg hn] at h3; exact fun g cap sp h1 h2 h4 h5 => hk _ _ (h3 g cap sp h1 h2 h4 h5)
    · split at h
      case h_2 => exact h.elim
      refine ⟨h.1, h.2.1, h.2.2.1, h.2.2.2.1, ?_⟩
      have h3 := h.2.2.2.2
      split
      · next hn => rw [if_pos hn] at h3; exact hk _ _ h3
      · next hn => rw [if_neg hn] at h3; exact fun g cap sp h1 h2 h4 h5 => hk _ _ (h3 g cap sp h1 h2 h4 h5)
    · exact h.elim
  case toU x => (repeat' split at h) <;> first | exact h.elim | exact ⟨h.1, hk _ _ h.2⟩
  case frU T n x =>
    split at h
    case h_2 => exact h.elim
    refine ⟨h.1, ?_⟩
    have h2 := h.2
    split at h2
    · exact ⟨h2.1, h2.2.1, hk _ _ h2.2.2⟩
    · exact h2.elim
  case ustr e x y =>
    split at h
    · exact ⟨h.1, h.2.1, hk _ _ h.2.2⟩
    · refine ⟨h.1, h.2.1, h.2.2.1, ?_⟩
      have h3 := h.2.2.2
      split at h3
      case h_2 => exact h3.elim
      refine ⟨h3.1, h3.2.1, h3.2.2.1, ?_⟩
      have h4 := h3.2.2.2
      split at h4
      · exact hk _ _ h4
      · exact h4.elim
    · exact h.elim
  case pick => split at h; (exact hk _ _ h); (exact h.elim)
  case bld zero parts => exact fillG_mono (fun _ h => hk _ _ h) _ _ h
  case alloc => exact fun l hl => hk _ _ (h l hl)
  case box => exact ⟨h.1, fun l hl => hk _ _ (h.2 l hl)⟩
  case boxR => exact ⟨h.1, fun l hl => hk _ _ (h.2 l hl)⟩
  case mks => split at h; (exact ⟨h.1, h.2.1, h.2.2.1, h.2.2.2.1, fun l hl => hk _ _ (h.2.2.2.2 l hl)⟩); (exact h.elim)
  case mm => split at h; (exact ⟨h.1, hk _ _ h.2⟩); (exact h.elim)
  case slcR k n x lo hi =>
    (repeat' split at h) <;> first
      | exact h.elim
      | exact ⟨h.1, h.2.1, h.2.2.1, h.2.2.2.1, hk _ _ h.2.2.2.2⟩
      | exact h.2.2.2.elim
  case cpy k x y =>
    (repeat' split at h) <;> first
      | exact h.elim
      | exact ⟨h.1, h.2.1, h.2.2.1, hk _ _ h.2.2.2⟩
      | exact h.2.2.elim
  case eqn neg x =>
    split at h
    · split at h
      · exact hk _ _ h
      · exact hk _ _ h
      · exact ⟨fun hx => hk _ _ (h.1 hx), hk _ _ h.2⟩
    · exact hk _ _ h
    · exact h.elim
  case bslM => refine ⟨h.1, ?_⟩; split; (next hn => simp only [hn, if_true] at h; exact hk _ _ h.2); (next hn => simp only [hn, if_false] at h; exact fun g hg => hk _ _ (h.2 g hg))
  case appM k bytes x y =>
    split at h
    case h_2 => exact h.elim
    split at h
    · refine ⟨h.1, h.2.1, h.2.2.1, h.2.2.2.1, ?_⟩
      have h3 := h.2.2.2.2
      split
      · next hn => rw [if_pos hn] at h3; exact hk _ _ h3
      · next hn => rw [if_neg hn] at h3; exact fun g cap sp h1 h2 h4 h5 => hk _ _ (h3 g cap sp h1 h2 h4 h5)
    · split at h
      case h_3 => exact h.elim
      all_goals
        refine ⟨h.1, h.2.1, h.2.2.1, h.2.2.2.1, ?_⟩
        have h3 := h.2.2.2.2
        split
        · next hn => rw [if_pos hn] at h3; exact hk _ _ h3
        · next hn => rw [if_neg hn] at h3; exact fun g cap sp h1 h2 h4 h5 => hk _ _ (h3 g cap sp h1 h2 h4 h5)
    · exact h.elim
  case bsl => refine ⟨h.1, ?_⟩; split; (next hn => simp only [hn, if_true] at h; exact hk _ _ h.2); (next hn => simp only [hn, if_false] at h; exact fun g hg => hk _ _ (h.2 g hg))
  case app k bytes x y =>
    split at h <;> try exact h.elim
    rename_i xs o ys o' _ _
    refine ⟨h.1, h.2.1, h.2.2.1, h.2.2.2.1, ?_⟩
    have h3 := h.2.2.2.2
    cases o <;> simp only at h3 ⊢
    case nil => refine ⟨h3.1, ?_⟩; split; (next hn => simp only [hn, if_true] at h3; exact hk _ _ h3.2); (next hn => simp only [hn, if_false] at h3; exact fun g c hg => hk _ _ (h3.2 g c hg))
    case zero => refine ⟨h3.1, ?_⟩; split; (next hn => simp only [hn, if_true] at h3; exact hk _ _ h3.2); (next hn => simp only [hn, if_false] at h3; exact fun g c hg => hk _ _ (h3.2 g c hg))
    case buf => exact ⟨h3.1, fun g c hg => hk _ _ (h3.2 g c hg)⟩
  case slcA k n x lo hi ro =>
    (repeat' split at h) <;> first
      | exact h.elim
      | (rename_i hro; exact ⟨h.1, h.2.1, h.2.2.1, h.2.2.2.1, by rw [if_pos hro]; exact hk _ _ h.2.2.2.2⟩)
      | (rename_i hro; exact ⟨h.1, h.2.1, h.2.2.1, h.2.2.2.1, by rw [if_neg hro]; exact ⟨h.2.2.2.2.1, hk _ _ h.2.2.2.2.2⟩⟩)
      | exact h.2.2.2.elim
  case iaS k x i =>
    split at h
    · refine ⟨h.1, ?_⟩
      have h2 := h.2
      split at h2
      · exact ⟨h2.1, hk _ _ h2.2⟩
      · exact h2.elim
    · exact ⟨h.1, h.2.1, h.2.2.1, hk _ _ h.2.2.2⟩
    · exact ⟨h.1, h.2.1, h.2.2.1, hk _ _ h.2.2.2⟩
    · exact h.elim
  case idxS x i =>
    split at h
    · refine ⟨h.1, ?_⟩
      have h2 := h.2
      split at h2
      · exact hk _ _ h2
      · exact h2.elim
    · exact h.elim
  all_goals
    (repeat' split at h) <;> first
      | exact h.elim
      | exact hk _ _ h
      | exact ⟨h.1, hk _ _ h.2⟩
      | exact ⟨h.1, h.2.1, hk _ _ h.2.2⟩
      | exact ⟨h.1, h.2.1, h.2.2.1, hk _ _ h.2.2.2⟩
      | exact ⟨h.1, h.2.1, h.2.2.1, h.2.2.2.1, hk _ _ h.2.2.2.2⟩
      | exact ⟨h.1, h.2.1, h.2.2.1, h.2.2.2.1, h.2.2.2.2.1, hk _ _ h.2.2.2.2.2⟩
end Go.Av
namespace Go.Av
open Go
def fitL : List CK → List Value → Prop
  | [], [] => True
  | k :: ks, x :: xs => k.fit x ∧ fitL ks xs
  | _, _ => False
def flatF (P : Program) (g : TypeId → Option (List CK)) : List Field → Nat → Option (List CK)
  | [], _ => some []
  | f :: fs, off =>
    if f.offset = off ∧ f.name ≠ "_" then
      match g f.type, flatF P g fs (off + P.cellsOf f.type) with
      | some l, some r => if P.cellsOf f.type = l.length ∧ (P.info? f.type).isSome then some (l ++ r) else none
      | _, _ => none
    else none
def flatK (P : Program) : Nat → TypeId → Option (List CK)
  | 0, _ => none
  | d + 1, t =>
    match P.underlying t with
    | some (.int k) => some [.int k]
    | some .bool => some [.bool]
    | some .string => some [.str]
    | some (.array n e) => match flatK P d e with
      | some l => if P.cellsOf e = l.length ∧ (P.info? e).isSome then some (List.replicate n l).flatten else none
      | none => none
    | some (.struct fs) => if P.stoodInHeld t then none else flatF P (flatK P d) fs.toList 0
    | _ => none
theorem fitL_length : ∀ {ks : List CK} {xs : List Value}, fitL ks xs → xs.length = ks.length
  | [], [], _ => rfl
  | _ :: _, _ :: _, h => by simp [fitL_length h.2]
theorem fitL_append : ∀ {ks ls : List CK} {xs : List Value}, fitL (ks ++ ls) xs → fitL ks (xs.take ks.length) ∧ fitL ls (xs.drop ks.length)
  | [], _, _, h => by simp [fitL]; simpa using h
  | _ :: _, _, [], h => by simp [fitL] at h
  | _ :: _, _, _ :: _, h => by
    obtain ⟨h1, h2⟩ := h
    obtain ⟨h3, h4⟩ := fitL_append h2
    exact ⟨⟨h1, h3⟩, h4⟩
section
variable {P : Program}
def EqT (P : Program) (d : Nat) (t : TypeId) (ks : List CK) : Prop :=
  ∀ (D : Nat) (w : World) (xs ys : Array Value) (off : Nat), fitL ks ((xs.toList.drop off).take ks.length) → fitL ks ((ys.toList.drop off).take ks.length) →
    ∃ a b r, (part t xs off).run P w = .ok a w ∧ (part t ys off).run P w = .ok b w ∧ (Op.equalIn (D + d) t a b).run P w = .ok r w ∧
      (r = true ↔ (xs.toList.drop off).take ks.length = (ys.toList.drop off).take ks.length)
theorem run_isAgg {t : TypeId} {d : TypeDesc} (h : P.underlying t = some d) (w : World) : (isAgg t).run P w = .ok d.isRow w := by
  unfold isAgg
  rw [Sem.run_bind, run_underlying h w]
  cases d <;> rfl
theorem part_agg {t : TypeId} {d : TypeDesc} (h : P.underlying t = some d) (hd : d.isRow = true) {i : TypeInfo} (hi : P.info? t = some i) (xs : Array Value) (off : Nat) (w : World) :
    (part t xs off).run P w = .ok (.agg (xs.extract off (off + i.size))) w := by
  simp [part, run_isAgg h, hd, sizeOf, typeInfo, hi]
theorem part_one {t : TypeId} {d : TypeDesc} (h : P.underlying t = some d) (hd : d.isRow = false) (xs : Array Value) (off : Nat) (x : Value) (hx : xs[off]? = some x) (w : World) :
    (part t xs off).run P w = .ok x w := by
  simp [part, run_isAgg h, hd, hx]
theorem one_cell {xs : Array Value} {off : Nat} {k : CK} (h : fitL [k] ((xs.toList.drop off).take 1)) : ∃ x, xs[off]? = some x ∧ k.fit x ∧ (xs.toList.drop off).take 1 = [x] := by
  cases hx : (xs.toList.drop off) with
  | nil => simp [hx, fitL] at h
  | cons x r =>
    refine ⟨x, ?_, ?_, by simp⟩
    · have : (xs.toList.drop off)[0]? = some x := by simp [hx]
      simpa using this
    · rw [hx] at h; exact h.1
theorem bytes_toList_inj (a b : ByteArray) : a.toList = b.toList ↔ a = b := by
  constructor
  · intro h
    rw [ByteArray.toList_eq, ByteArray.toList_eq] at h
    cases a; cases b
    simp only [ByteArray.mk.injEq]
    exact Array.toList_inj.1 h
  · rintro rfl; rfl
theorem EqT_int {d : Nat} {t : TypeId} {k : IntKind} (h : P.underlying t = some (.int k)) : EqT P (d + 1) t [.int k] := by
  intro D w xs ys off hx hy
  obtain ⟨x, hx1, hx2, hx3⟩ := one_cell hx
  obtain ⟨y, hy1, hy2, hy3⟩ := one_cell hy
  rw [List.length_singleton, hx3, hy3, show D + (d + 1) = (D + d) + 1 by omega]
  cases x <;> first | exact hx2.elim | skip
  cases y <;> first | exact hy2.elim | skip
  simp only [CK.fit] at hx2 hy2
  subst hx2; subst hy2
  exact ⟨_, _, _, part_one h rfl _ _ _ hx1 w, part_one h rfl _ _ _ hy1 w, run_equalIn_int w _ t _ _ _ _ h, by simp⟩
theorem EqT_bool {d : Nat} {t : TypeId} (h : P.underlying t = some .bool) : EqT P (d + 1) t [.bool] := by
  intro D w xs ys off hx hy
  obtain ⟨x, hx1, hx2, hx3⟩ := one_cell hx
  obtain ⟨y, hy1, hy2, hy3⟩ := one_cell hy
  rw [List.length_singleton, hx3, hy3, show D + (d + 1) = (D + d) + 1 by omega]
  cases x <;> first | exact hx2.elim | skip
  cases y <;> first | exact hy2.elim | skip
  exact ⟨_, _, _, part_one h rfl _ _ _ hx1 w, part_one h rfl _ _ _ hy1 w, run_equalIn_bool' w _ t _ _ h, by simp⟩
theorem EqT_str {d : Nat} {t : TypeId} (h : P.underlying t = some .string) : EqT P (d + 1) t [.str] := by
  intro D w xs ys off hx hy
  obtain ⟨x, hx1, hx2, hx3⟩ := one_cell hx
  obtain ⟨y, hy1, hy2, hy3⟩ := one_cell hy
  rw [List.length_singleton, hx3, hy3, show D + (d + 1) = (D + d) + 1 by omega]
  cases x <;> first | exact hx2.elim | skip
  cases y <;> first | exact hy2.elim | skip
  exact ⟨_, _, _, part_one h rfl _ _ _ hx1 w, part_one h rfl _ _ _ hy1 w, run_equalIn_string w _ t _ _ h, by rw [beq_iff_eq, bytes_toList_inj]; simp⟩
theorem EqT_items {d : Nat} {e : TypeId} {l : List CK} (h : EqT P d e l) (hsz : P.cellsOf e = l.length) (D : Nat) (w : World) (xs ys : Array Value) : ∀ (n i : Nat),
    fitL (List.replicate n l).flatten ((xs.toList.drop (i * l.length)).take (List.replicate n l).flatten.length) → fitL (List.replicate n l).flatten ((ys.toList.drop (i * l.length)).take (List.replicate n l).flatten.length) →
    ∃ r, (Op.eqItems (D + d) e (P.cellsOf e) xs ys (List.range' i n)).run P w = .ok r w ∧
      (r = true ↔ (xs.toList.drop (i * l.length)).take (List.replicate n l).flatten.length = (ys.toList.drop (i * l.length)).take (List.replicate n l).flatten.length)
  | 0, i, _, _ => ⟨true, by simp [Op.eqItems], by simp⟩
  | n + 1, i, hx, hy => by
    simp only [List.replicate_succ, List.flatten_cons] at hx hy ⊢
    obtain ⟨hx1, hx2⟩ := fitL_append hx
    obtain ⟨hy1, hy2⟩ := fitL_append hy
    have hmin : min l.length (l ++ (List.replicate n l).flatten).length = l.length := by simp
    have hsub : (l ++ (List.replicate n l).flatten).length - l.length = (List.replicate n l).flatten.length := by simp
    rw [List.take_take, hmin] at hx1 hy1
    rw [List.drop_take, List.drop_drop, hsub, show i * l.length + l.length = (i + 1) * l.length by rw [Nat.add_mul, Nat.one_mul]] at hx2 hy2
    obtain ⟨a, b, r, p1, p2, p3, hr⟩ := h D w xs ys (i * l.length) hx1 hy1
    obtain ⟨r', q, hr'⟩ := EqT_items h hsz D w xs ys n (i + 1) hx2 hy2
    have hsplit : ∀ zs : List Value, zs.take (l ++ (List.replicate n l).flatten).length = zs.take l.length ++ (zs.drop l.length).take (List.replicate n l).flatten.length := fun zs => by
      rw [List.length_append, List.take_add]
    rw [List.range'_succ]
    rw [← hsz] at p1 p2
    simp only [Op.eqItems, Sem.run_bind, p1, p2, p3, Result.andThen_ok]
    have hfin : ((xs.toList.drop (i * l.length)).take (l ++ (List.replicate n l).flatten).length = (ys.toList.drop (i * l.length)).take (l ++ (List.replicate n l).flatten).length) ↔ (r = true ∧ r' = true) := by
      rw [hsplit, hsplit, List.drop_drop, List.drop_drop, show i * l.length + l.length = (i + 1) * l.length by rw [Nat.add_mul, Nat.one_mul], hr, hr']
      constructor
      · intro hh
        exact List.append_inj hh (by rw [fitL_length hx1, fitL_length hy1])
      · rintro ⟨h1, h2⟩; rw [h1, h2]
    cases r
    · exact ⟨false, by simp, by rw [hfin]; simp⟩
    · exact ⟨r', by simpa using q, by rw [hfin]; simp⟩
theorem EqT_fields {d : Nat} {g : TypeId → Option (List CK)} (h : ∀ t l, g t = some l → P.cellsOf t = l.length → (P.info? t).isSome → EqT P d t l) (D : Nat) (w : World) (xs ys : Array Value) : ∀ (fs : List Field) (off : Nat) (ks : List CK),
    flatF P g fs off = some ks → fitL ks ((xs.toList.drop off).take ks.length) → fitL ks ((ys.toList.drop off).take ks.length) →
    ∃ r, (Op.eqFields (D + d) xs ys fs).run P w = .ok r w ∧ (r = true ↔ (xs.toList.drop off).take ks.length = (ys.toList.drop off).take ks.length)
  | [], off, ks, hk, _, _ => by
    simp [flatF] at hk; subst hk
    exact ⟨true, by simp [Op.eqFields], by simp⟩
  | f :: fs, off, ks, hk, hx, hy => by
    simp only [flatF] at hk
    split at hk
    case isFalse => cases hk
    rename_i hf
    split at hk
    case h_2 => cases hk
    rename_i l r hl hr
    split at hk
    case isFalse => cases hk
    rename_i hc
    obtain rfl := Option.some.inj hk
    obtain ⟨hx1, hx2⟩ := fitL_append hx
    obtain ⟨hy1, hy2⟩ := fitL_append hy
    have hmin : min l.length (l ++ r).length = l.length := by simp
    have hsub : (l ++ r).length - l.length = r.length := by simp
    rw [List.take_take, hmin] at hx1 hy1
    rw [List.drop_take, List.drop_drop, hsub, ← hc.1] at hx2 hy2
    obtain ⟨a, b, r1, p1, p2, p3, hr1⟩ := h _ _ hl hc.1 hc.2 D w xs ys off hx1 hy1
    obtain ⟨r2, q, hr2⟩ := EqT_fields h D w xs ys fs _ _ hr hx2 hy2
    have hsplit : ∀ zs : List Value, zs.take (l ++ r).length = zs.take l.length ++ (zs.drop l.length).take r.length := fun zs => by
      rw [List.length_append, List.take_add]
    rw [← hf.1] at p1 p2
    simp only [Op.eqFields, if_pos hf.2, Sem.run_bind, p1, p2, p3, Result.andThen_ok]
    have hfin : ((xs.toList.drop off).take (l ++ r).length = (ys.toList.drop off).take (l ++ r).length) ↔ (r1 = true ∧ r2 = true) := by
      rw [hsplit, hsplit, List.drop_drop, List.drop_drop, hr1, hr2, hc.1]
      constructor
      · intro hh
        exact List.append_inj hh (by rw [fitL_length hx1, fitL_length hy1])
      · rintro ⟨h1, h2⟩; rw [h1, h2]
    cases r1
    · exact ⟨false, by simp, by rw [hfin]; simp⟩
    · exact ⟨r2, by simpa using q, by rw [hfin]; simp⟩
theorem cut_list (xs : Array Value) (off n : Nat) : (xs.extract off (off + n)).toList = (xs.toList.drop off).take n := by
  rw [Array.toList_extract]
  simp [List.extract]
theorem flatK_sound : ∀ (d : Nat) (t : TypeId) (ks : List CK), flatK P d t = some ks → P.cellsOf t = ks.length → (P.info? t).isSome → EqT P d t ks
  | 0, t, ks, h, _, _ => by simp [flatK] at h
  | d + 1, t, ks, h, hsz, hin => by
    simp only [flatK] at h
    cases hu : P.underlying t with
    | none => simp [hu] at h
    | some desc =>
      simp only [hu] at h
      cases desc <;> simp only [] at h <;> first
        | (cases h; done)
        | skip
      case int k => obtain rfl := Option.some.inj h; exact EqT_int hu
      case bool => obtain rfl := Option.some.inj h; exact EqT_bool hu
      case string => obtain rfl := Option.some.inj h; exact EqT_str hu
      case array n e =>
        split at h
        case h_2 => cases h
        rename_i l hl
        split at h
        case isFalse => cases h
        rename_i hc
        obtain rfl := Option.some.inj h
        have ih := flatK_sound d e l hl hc.1 hc.2
        obtain ⟨i, hi⟩ := Option.isSome_iff_exists.1 hin
        obtain ⟨ie, hie⟩ := Option.isSome_iff_exists.1 hc.2
        have hs : i.size = (List.replicate n l).flatten.length := by simpa [Program.cellsOf, hi] using hsz
        intro D w xs ys off hx hy
        have key := EqT_items ih hc.1 D w (xs.extract off (off + i.size)) (ys.extract off (off + i.size)) n 0
        simp only [Nat.zero_mul, List.drop_zero, cut_list, hs] at key
        rw [List.take_take, Nat.min_self, List.take_take, Nat.min_self] at key
        obtain ⟨r, hr, hiff⟩ := key hx hy
        refine ⟨_, _, r, part_agg hu rfl hi xs off w, part_agg hu rfl hi ys off w, ?_, hiff⟩
        rw [show D + (d + 1) = (D + d) + 1 by omega, run_equalIn_array w (D + d) _ _ hu hie, List.range_eq_range', hs]
        exact hr
      case struct fs =>
        split at h
        case isTrue => cases h
        rename_i hst
        obtain ⟨i, hi⟩ := Option.isSome_iff_exists.1 hin
        have hs : i.size = ks.length := by simpa [Program.cellsOf, hi] using hsz
        have hfo : P.fieldsOf t = fs := by simp [Program.fieldsOf, hu]
        intro D w xs ys off hx hy
        have key : ∀ (xs ys : Array Value), fitL ks ((xs.toList.drop 0).take ks.length) → fitL ks ((ys.toList.drop 0).take ks.length) →
            ∃ r, (Op.eqFields (D + d) xs ys fs.toList).run P w = .ok r w ∧ (r = true ↔ (xs.toList.drop 0).take ks.length = (ys.toList.drop 0).take ks.length) := fun xs ys hx hy =>
          EqT_fields (fun t l h1 h2 h3 => flatK_sound d t l h1 h2 h3) D w xs ys fs.toList 0 ks h hx hy
        have k2 := key (xs.extract off (off + i.size)) (ys.extract off (off + i.size))
        simp only [List.drop_zero, cut_list, hs] at k2
        rw [List.take_take, Nat.min_self, List.take_take, Nat.min_self] at k2
        obtain ⟨r, hr, hiff⟩ := k2 hx hy
        refine ⟨_, _, r, part_agg hu rfl hi xs off w, part_agg hu rfl hi ys off w, ?_, hiff⟩
        rw [show D + (d + 1) = (D + d) + 1 by omega, run_equalIn_struct w (D + d) t _ _ (by rw [hfo]; exact hu) (by simpa using hst), hfo, hs]
        exact hr
end
def expandR (rs : List (Nat × CK)) : List CK := rs.flatMap fun p => List.replicate p.1 p.2
def runsOf : List CK → List (Nat × CK)
  | [] => []
  | k :: ks => match runsOf ks with
    | (n, k') :: r => if k = k' then (n + 1, k') :: r else (1, k) :: (n, k') :: r
    | [] => [(1, k)]
theorem expand_runs : ∀ ks : List CK, expandR (runsOf ks) = ks
  | [] => rfl
  | k :: ks => by
    have ih := expand_runs ks
    simp only [runsOf]
    split
    · rename_i n k' r h
      rw [h] at ih
      split
      · rename_i hk; subst hk; simp [expandR, List.replicate_succ] at ih ⊢; exact ih
      · simp [expandR] at ih ⊢; exact ih
    · rename_i h
      rw [h] at ih
      simp [expandR] at ih ⊢; exact ih
theorem fitR_sound {H : PH} : ∀ (rs : List (Nat × CK)) (cs : List AV) (vs : List Value), fitR rs cs → vs.length = cs.length → (∀ (j : Nat) (x : Value) (u : AV), vs[j]? = some x → cs[j]? = some u → RV H x u) →
    fitL (expandR rs) vs ∧ cs = vs.map AV.v
  | [], cs, vs, h, hl, _ => by
    simp only [fitR] at h; subst h
    have : vs = [] := List.eq_nil_of_length_eq_zero (by simpa using hl)
    subst this; exact ⟨trivial, rfl⟩
  | (n, k) :: rs, cs, vs, h, hl, hr => by
    obtain ⟨h1, h2, h3⟩ := h
    obtain ⟨ih1, ih2⟩ := fitR_sound rs (cs.drop n) (vs.drop n) h3 (by simp [hl]) (fun j x u hx hu => hr (n + j) x u (by simpa using hx) (by simpa using hu))
    have key : ∀ (m : Nat) (cs : List AV) (vs : List Value), vs.length = cs.length → cs.length = m → (∀ c ∈ cs, k.fitA c) → (∀ (j : Nat) (x : Value) (u : AV), vs[j]? = some x → cs[j]? = some u → RV H x u) →
        (∀ zs ls, fitL ls zs → fitL (List.replicate m k ++ ls) (vs ++ zs)) ∧ cs = vs.map AV.v := by
      intro m
      induction m with
      | zero =>
        intro cs vs hl hm _ _
        have e1 : cs = [] := List.eq_nil_of_length_eq_zero hm
        subst e1
        have e2 : vs = [] := List.eq_nil_of_length_eq_zero (by simpa using hl)
        subst e2
        exact ⟨fun zs ls h => h, rfl⟩
      | succ m ih =>
        intro cs vs hl hm hf hr
        match cs, vs, hl, hm with
        | c :: cs, v :: vs, hl, hm =>
          obtain ⟨a1, a2⟩ := ih cs vs (by simpa using hl) (by simpa using hm) (fun c hc => hf c (List.mem_cons_of_mem _ hc)) (fun j x u hx hu => hr (j + 1) x u (by simpa using hx) (by simpa using hu))
          have hc := hf c List.mem_cons_self
          have hv := hr 0 v c rfl rfl
          have hcv : c = .v v ∧ k.fit v := by
            cases c <;> first
              | (cases k <;> exact hc.elim)
              | skip
            cases hv
            refine ⟨rfl, ?_⟩
            cases k <;> cases v <;> first | exact hc | exact hc.elim
          refine ⟨fun zs ls h => ⟨hcv.2, a1 zs ls h⟩, by rw [hcv.1, a2]; rfl⟩
    obtain ⟨k1, k2⟩ := key n (cs.take n) (vs.take n) (by simp [hl]) (by simp [h1]) h2 (fun j x u hx hu => by
      rw [List.getElem?_take] at hx hu
      split at hx
      · rename_i hj; rw [if_pos hj] at hu; exact hr j x u hx hu
      · cases hx)
    refine ⟨?_, ?_⟩
    · have := k1 (vs.drop n) (expandR rs) ih1
      rw [List.take_append_drop] at this
      simpa [expandR] using this
    · have e := List.take_append_drop n cs
      rw [← e, k2, ih2, ← List.map_append, List.take_append_drop]
end Go.Av
namespace Go.Av
open Go
def GoalW (P : Program) (kp : AV → Hp → Prop) (o : Oper) (a : Act) (w : World) (H : PH) (s : Hp) (K : AV → Hp → Prop) : Prop :=
  ∀ Q : Exit → Act → World → Prop, (∀ v r H' s' w', Step H s w H' s' w' → RV H' v r → up kp r s' → Q (.panic [{ v, recovered := false }]) a w') → o.wp P a w (fun a' w' => ∃ v H' s' r, a' = a.put o.dst v ∧ Step H s w H' s' w' ∧ RV H' v r ∧ K r s') Q
section
variable {P : Program} {kp : AV → Hp → Prop} {o : Oper} {a : Act} {w : World} {H : PH} {s : Hp} {K : AV → Hp → Prop} {f : Fr}
theorem GoalW.value {v : Value} {w' : World} {H' : PH} {s' : Hp} {r : AV} (hrun : (execOp a.eval o).run P w = .ok (.value v) w') (hst : Step H s w H' s' w') (hv : RV H' v r) (hK : K r s') : GoalW P kp o a w H s K := by
  intro Q _
  unfold Oper.wp
  rw [hrun]
  exact ⟨v, H', s', r, rfl, hst, hv, hK⟩
theorem GoalW.same {v : Value} {r : AV} (hh : Holds H s w) (hrun : (execOp a.eval o).run P w = .ok (.value v) w) (hv : RV H v r) (hK : K r s) : GoalW P kp o a w H s K :=
  .value hrun (.refl hh) hv hK
theorem GoalW.skip {w' : World} {H' : PH} {s' : Hp} (hrun : (execOp a.eval o).run P w = .ok .skip w') (hst : Step H s w H' s' w') (hK : K (.tup []) s') : GoalW P kp o a w H s K := by
  intro Q _
  unfold Oper.wp
  rw [hrun]
  exact ⟨undef, H', s', .tup [], rfl, hst, RV.undef _, hK⟩
theorem RV.ev_v {x : Value} {y : Value} (h : RV H x (.v y)) : x = y := by cases h; rfl
theorem RV.lt_of_ptr {x : Value} {l off : Nat} (h : RV H x (.ptr l off)) : x = .pointer (some ⟨l, off, none⟩) := by cases h; rfl
theorem extract_drop_take (vs : Array Value) (off n : Nat) : (vs.extract off (off + n)).toList = (vs.toList.drop off).take n := cut_list vs off n
theorem RV.mkv {vs : Array Value} {cs : List AV} (h : RVA H vs cs) (hone : ∀ c ∈ cs, c.one = true) (off n : Nat) (hn : off + n ≤ cs.length) : RV H (.agg (vs.extract off (off + n))) (mkv true n (cs.drop off)) := by
  have := h.sub off n hn
  exact .agg _ _ (fun c hc => hone c (List.mem_of_mem_drop (List.mem_of_mem_take hc))) this.1 this.2
theorem RV.mkv1 {vs : Array Value} {cs : List AV} (h : RVA H vs cs) (off : Nat) (hn : off + 1 ≤ cs.length) : RV H (vs.getD off Go.undef) (Av.mkv false 1 (cs.drop off)) := by
  have h1 : off < cs.length := by omega
  have := h.2 off cs[off] (List.getElem?_eq_getElem h1)
  have e : Av.mkv false 1 (cs.drop off) = cs[off] := by
    unfold Av.mkv
    rw [if_neg (by simp), List.drop_eq_getElem_cons h1]; rfl
  rw [e]; exact this
theorem Holds.read {l : Nat} {cs : List AV} (hh : Holds H s w) (h : s.read l = some cs) : (∀ c ∈ cs, c.one = true) ∧ ∃ vs T fz, w.heap[l]? = some (.cells vs T fz) ∧ RVA H vs cs := by
  unfold Hp.read at h
  split at h
  · rename_i c hc; obtain rfl := Option.some.inj h; obtain ⟨h0, vs, T, h1, h2, _⟩ := hh.ob l _ hc; exact ⟨h0, vs, T, _, h1, h2⟩
  · rename_i c hc; obtain rfl := Option.some.inj h; obtain ⟨h0, vs, T, fz, h1, h2, _⟩ := hh.ob l _ hc; exact ⟨h0, vs, T, fz, h1, h2⟩
  · rename_i T c hc; obtain rfl := Option.some.inj h; obtain ⟨h0, vs, h1, h2, _⟩ := hh.ob l _ hc; exact ⟨h0, vs, T, _, h1, h2⟩
  · rename_i c hc; obtain rfl := Option.some.inj h; obtain ⟨h0, vs, T, h1, h2, _⟩ := hh.ob l _ hc; exact ⟨h0, vs, T, _, h1, h2⟩
  · cases h
theorem run_loadVar_one (w : World) (ty : TypeId) (d : TypeDesc) (ad : Addr) (x : Value) (hu : P.underlying ty = some d) (hd : d.isRow = false) (hx : w.cell? ad = some x) : (loadVar ty ad).run P w = .ok x w := by
  simp [loadVar, run_isAgg hu, hd, hx]
theorem s_load (t : TypeId) (x : Operand) (ho : o.op = .load t x) (d : TypeDesc) (hu : P.underlying t = some d) (n : Nat) (hn : (P.info? t).map (·.size) = some n) (h1 : d.isRow = false → n = 1)
    (hx : opOk x = true) (hf : FRel H a f) (hh : Holds H s w) (hG : G ⟨P, kp⟩ (.load d.isRow n x) f s K) : GoalW P kp o a w H s K := by
  have hv := hf.ev x hx
  simp only [G] at hG
  split at hG
  · rename_i l off he
    rw [he] at hv
    have hval := hv.lt_of_ptr
    split at hG
    case h_2 => exact hG.elim
    rename_i cs hcs
    obtain ⟨hle, hK⟩ := hG
    obtain ⟨hone, vs, T, fz, hb, hr⟩ := hh.read hcs
    cases hd : d.isRow with
    | true =>
      rw [hd] at hK
      have hrange : w.rangeAt l off ((vs.toList.drop off).take n) := by
        intro j v hj
        rw [cell_of_row w l (off + j) vs T _ hb]
        rw [List.getElem?_take] at hj
        split at hj
        · simpa using hj
        · cases hj
      have hlen : ((vs.toList.drop off).take n).length = n := by
        have := hr.1
        simp; omega
      have hrun := run_loadAt_mid (P := P) w l off t ((vs.toList.drop off).take n) d hrange hu hd (by rw [hlen]; exact hn)
      refine .same hh (v := .agg ((vs.toList.drop off).take n).toArray) ?_ ?_ hK
      · simp [execOp, ho, hval, hrun]
      · have := RV.mkv hr hone off n hle
        rw [show ((vs.toList.drop off).take n).toArray = vs.extract off (off + n) by rw [← extract_drop_take]]
        exact this
    | false =>
      rw [hd] at hK
      obtain rfl := h1 hd
      have hlt : off < vs.size := by have := hr.1; omega
      have hc : w.cell? ⟨l, off, none⟩ = some (vs.getD off undef) := by
        rw [cell_of_row w l off vs T _ hb]; simp [hlt]
      have hrun := run_loadVar_one (P := P) w t d ⟨l, off, none⟩ _ hu hd hc
      refine .same hh (v := vs.getD off undef) ?_ (RV.mkv1 hr off hle) hK
      simp [execOp, ho, hval, Instr.loadAt, Instr.sureAddr, hrun]
  · rename_i cs he
    rw [he] at hv
    obtain ⟨hle, hK⟩ := hG
    generalize hav : a.eval x = xv at hv
    cases hv with
    | rptr b off vals cs hone hH hR =>
      have hcell : ∀ j, j < cs.length → w.cell? ⟨b, off + j, none⟩ = some (vals j) := fun j hj => hh.ro _ _ _ (hH j hj)
      cases hd : d.isRow with
      | true =>
        rw [hd] at hK
        have hrange : w.rangeAt b off ((List.range n).map vals) := by
          intro j v hj
          rw [List.getElem?_map] at hj
          by_cases hjn : j < n
          · rw [List.getElem?_range hjn] at hj
            obtain rfl : vals j = v := by simpa using hj
            exact hcell j (by omega)
          · rw [List.getElem?_eq_none (by simp; omega)] at hj; simp at hj
        have hrun := run_loadAt_mid (P := P) w b off t ((List.range n).map vals) d hrange hu hd (by simp [hn])
        refine .same hh (v := .agg ((List.range n).map vals).toArray) ?_ ?_ hK
        · simp only [execOp, ho, hav, Sem.run_bind, hrun]; rfl
        · refine .agg _ _ (fun c hc => hone c (List.mem_of_mem_take hc)) (by simp; omega) (fun j u hu => ?_)
          have hjn : j < n := by have := (List.getElem?_eq_some_iff.1 hu).1; simp at this; omega
          rw [List.getElem?_take_of_lt hjn] at hu
          have := hR j u hu
          simpa [hjn] using this
      | false =>
        rw [hd] at hK
        obtain rfl := h1 hd
        have hc := hcell 0 (by omega)
        have hrun := run_loadVar_one (P := P) w t d ⟨b, off, none⟩ _ hu hd hc
        refine .same hh (v := vals 0) ?_ ?_ hK
        · simp [execOp, ho, hav, Instr.loadAt, Instr.sureAddr, hrun]
        · match cs, hle with
          | c :: cs, _ => exact hR 0 c rfl
  · exact hG.elim
theorem run_setCells_row {g : Nat} {T : TypeId} (ty : TypeId) (vs ys : Array Value) (off : Nat) {fz : Nat × Nat} (hb : w.heap[g]? = some (.cells vs T fz)) (hfz : ∀ j, j < vs.size → ¬ (fz.1 ≤ j ∧ j < fz.2)) (hoff : off + ys.size ≤ vs.size) (h1 : ∀ x ∈ ys.toList, x.oneCell' = true) (v : Value) (hv : v.cells = ys)
    (hn : (P.info? ty).map (·.size) = some ys.size) : (Instr.storeAt ty (.pointer (some ⟨g, off, none⟩)) v).run P w = .ok () (w.setRow g (vput vs off ys.toList)) := by
  have hst := run_storeCells_free P g off T fz ys.toList 0 vs w hb hfz (by simpa using hoff) h1
  simp only [Nat.add_zero] at hst
  have hst' : (storeCells ⟨g, off, none⟩ ys.toList).run P w = .ok () (w.setRow g (vput vs off ys.toList)) := by rw [hst]; rfl
  cases hq : P.info? ty with
  | none => simp [hq] at hn
  | some i =>
    have hs : ys.size = i.size := by simp [hq] at hn; omega
    simp [Instr.storeAt, Instr.sureAddr, storeVar, sizeOf, typeInfo, hq, hv, hs, hst']
theorem s_store (t : TypeId) (x y : Operand) (ho : o.op = .store t x y) (n : Nat) (hn : (P.info? t).map (·.size) = some n) (h0 : 0 < n) (hx : opOk x = true) (hy : opOk y = true) (hf : FRel H a f) (hh : Holds H s w)
    (hG : G ⟨P, kp⟩ (.store n x y) f s K) : GoalW P kp o a w H s K := by
  have hv := hf.ev x hx
  have hvy := hf.ev y hy
  simp only [G] at hG
  split at hG
  case h_2 => exact hG.elim
  rename_i l off he
  rw [he] at hv
  split at hG
  · rename_i cs hcs
    obtain ⟨hlen, hle, hK⟩ := hG
    have hval := hv.lt_of_ptr
    obtain ⟨hr, hone⟩ := hvy.cells (by omega)
    obtain ⟨vs, T, hb, hsz, hst⟩ := Step.store hh hcs off (ev f y).cells (a.eval y).cells hr hone (by omega)
    refine .skip ?_ hst hK
    have hrun := run_setCells_row (P := P) t vs (a.eval y).cells off hb (free0 _) (by have := hr.1; omega) (hr.oneCell hone) (a.eval y) rfl (by rw [hn, hr.1, hlen])
    simp only [execOp, ho, hval, Sem.run_bind, hrun]; rfl
  · exact hG.elim
theorem s_storeX (t : TypeId) (x y : Operand) (ho : o.op = .store t x y) (n : Nat) (hn : (P.info? t).map (·.size) = some n) (h0 : 0 < n) (hx : opOk x = true) (hy : opOk y = true) (hf : FRel H a f) (hh : Holds H s w)
    (hG : G ⟨P, kp⟩ (.storeX n x y) f s K) : GoalW P kp o a w H s K := by
  have hv := hf.ev x hx
  have hvy := hf.ev y hy
  simp only [G] at hG
  split at hG
  case h_2 => exact hG.elim
  rename_i l off he
  rw [he] at hv
  split at hG
  · rename_i cs hcs
    obtain ⟨hlen, hle, hK⟩ := hG
    have hval := hv.lt_of_ptr
    obtain ⟨hr, hone⟩ := hvy.cells (by omega)
    obtain ⟨vs, T, hb, hsz, hst⟩ := Step.store hh hcs off (ev f y).cells (a.eval y).cells hr hone (by omega)
    refine .skip ?_ hst hK
    have hrun := run_setCells_row (P := P) t vs (a.eval y).cells off hb (free0 _) (by have := hr.1; omega) (hr.oneCell hone) (a.eval y) rfl (by rw [hn, hr.1, hlen])
    simp only [execOp, ho, hval, Sem.run_bind, hrun]; rfl
  · rename_i T cs hcs
    obtain ⟨hlen, hle, hK⟩ := hG
    have hval := hv.lt_of_ptr
    obtain ⟨hr, hone⟩ := hvy.cells (by omega)
    obtain ⟨vs, hb, hsz, hst⟩ := Step.storeT hh hcs off (ev f y).cells (a.eval y).cells hr hone (by omega)
    refine .skip ?_ hst hK
    have hrun := run_setCells_row (P := P) t vs (a.eval y).cells off hb (free0 _) (by have := hr.1; omega) (hr.oneCell hone) (a.eval y) rfl (by rw [hn, hr.1, hlen])
    simp only [execOp, ho, hval, Sem.run_bind, hrun]; rfl
  · rename_i cs hcs
    obtain ⟨hlen, hle, hK⟩ := hG
    have hval := hv.lt_of_ptr
    obtain ⟨hr, hone⟩ := hvy.cells (by omega)
    obtain ⟨vs, T, hb, hsz, hst⟩ := Step.storeS hh hcs off (ev f y).cells (a.eval y).cells hr hone (by omega)
    refine .skip ?_ hst hK
    have hrun := run_setCells_row (P := P) t vs (a.eval y).cells off hb (freeS _) (by have := hr.1; omega) (hr.oneCell hone) (a.eval y) rfl (by rw [hn, hr.1, hlen])
    simp only [execOp, ho, hval, Sem.run_bind, hrun]; rfl
  · exact hG.elim
theorem s_alloc (T : TypeId) (ho : o.op = .alloc T) (i : TypeInfo) (hi : P.info? T = some i) (z : Value) (hz : i.zero = some z) (hone : ∀ x ∈ z.cells.toList, x.oneCell' = true) (hh : Holds H s w)
    (hG : G ⟨P, kp⟩ (.alloc T (z.cells.toList.map ofCell)) f s K) : GoalW P kp o a w H s K := by
  refine .value (v := .pointer (some ⟨w.heap.size, 0, none⟩)) (w' := w.alloc (.cells z.cells T)) ?_ (Step.new hh z.cells T (z.cells.toList.map ofCell) (fun c hc => by obtain ⟨x, _, rfl⟩ := List.mem_map.1 hc; exact ofCell_one x) (RVA.ofCells H _ hone))
    (.ptr _ _) (hG _ hh.newS)
  simp [execOp, ho, Instr.alloc, zeroValue, typeInfo, hi, hz, newVar, newRow]
theorem s_box (T : TypeId) (x : Operand) (ho : o.op = .box T x) (hx : opOk x = true) (hf : FRel H a f) (hh : Holds H s w) (hG : G ⟨P, kp⟩ (.box T x) f s K) : GoalW P kp o a w H s K := by
  obtain ⟨hr, hone⟩ := (hf.ev x hx).cells hG.1
  refine .value (v := .pointer (some ⟨w.heap.size, 0, none⟩)) (w' := w.alloc (.cells (a.eval x).cells T)) ?_ (Step.new hh _ T _ hone hr) (.ptr _ _) (hG.2 _ hh.newS)
  simp [execOp, ho, Instr.box, newVar, newRow]
theorem s_mv (x : Operand) (ho : o.op = .move x ∨ o.op = .assign x) (hx : opOk x = true) (hf : FRel H a f) (hh : Holds H s w) (hG : G ⟨P, kp⟩ (.mv x) f s K) : GoalW P kp o a w H s K := by
  refine .same hh ?_ (hf.ev x hx) hG
  rcases ho with ho | ho <;> simp [execOp, ho]
theorem s_pick (c x y : Operand) (ho : o.op = .pick c x y) (hc : opOk c = true) (hx : opOk x = true) (hy : opOk y = true) (hf : FRel H a f) (hh : Holds H s w) (hG : G ⟨P, kp⟩ (.pick c x y) f s K) : GoalW P kp o a w H s K := by
  have hv := hf.ev c hc
  simp only [G] at hG
  split at hG
  case h_2 => exact hG.elim
  rename_i t he
  rw [he] at hv
  have hval := hv.ev_v
  cases t
  · exact .same hh (by simp [execOp, ho, hval, asBool]) (hf.ev y hy) (by simpa using hG)
  · exact .same hh (by simp [execOp, ho, hval, asBool]) (hf.ev x hx) (by simpa using hG)
theorem s_nilc (x : Operand) (ho : o.op = .nilCheck x) (hx : opOk x = true) (hf : FRel H a f) (hh : Holds H s w) (hG : G ⟨P, kp⟩ (.nilc x) f s K) : GoalW P kp o a w H s K := by
  have hv := hf.ev x hx
  simp only [G] at hG
  split at hG
  · rename_i l off he; rw [he] at hv; have := hv.lt_of_ptr; exact .same hh (by simp [execOp, ho, this]) (.ptr _ _) hG
  · rename_i cs he
    rw [he] at hv
    generalize hav : a.eval x = xv at hv
    refine .same hh (v := xv) ?_ hv hG
    cases hv; simp [execOp, ho, hav]
  · rename_i n cs he
    rw [he] at hv
    generalize hav : a.eval x = xv at hv
    refine .same hh (v := xv) ?_ hv hG
    cases hv; simp [execOp, ho, hav]
  · exact hG.elim
theorem rptr_drop {x : Value} {cs : List AV} (h : RV H x (.rptr cs)) (k : Nat) : ∃ b off, x = .pointer (some ⟨b, off, none⟩) ∧ RV H (.pointer (some ⟨b, off + k, none⟩)) (.rptr (cs.drop k)) := by
  cases h with
  | rptr b off vals cs hone hH hR =>
    refine ⟨b, off, rfl, .rptr b (off + k) (fun j => vals (k + j)) _ (fun c hc => hone c (List.mem_of_mem_drop hc)) (fun j hj => ?_) (fun j u hu => ?_)⟩
    · rw [Nat.add_assoc]; exact hH (k + j) (by simp at hj; omega)
    · exact hR (k + j) u (by simpa using hu)
theorem Addr_add (b o k : Nat) : (⟨b, o, none⟩ : Addr).add k = ⟨b, o + k, none⟩ := Addr.add_mid b o k
theorem s_fa (t : TypeId) (x : Operand) (i : Nat) (ho : o.op = .fieldAddr t x i) (fs : Array Field) (hu : P.underlying t = some (.struct fs)) (fd : Field) (hfd : fs[i]? = some fd) (n : Nat) (hn : (P.info? fd.type).map (·.size) = some n) (h0 : n ≠ 0)
    (hx : opOk x = true) (hf : FRel H a f) (hh : Holds H s w) (hG : G ⟨P, kp⟩ (.fa fd.offset x) f s K) : GoalW P kp o a w H s K := by
  have hv := hf.ev x hx
  have hrun : ∀ b off : Nat, (Instr.fieldAt t (.pointer (some ⟨b, off, none⟩)) i).run P w = .ok (.pointer (some ⟨b, off + fd.offset, none⟩)) w := by
    intro b off
    cases hq : P.info? fd.type with
    | none => simp [hq] at hn
    | some ii =>
      have hs : ii.size ≠ 0 := by simp [hq] at hn; omega
      simp [Instr.fieldAt, run_underlying hu, hfd, Instr.sureAddr, fieldPlace, sizeOf, typeInfo, hq, hs, Addr_add]
  simp only [G] at hG
  split at hG
  · rename_i l off he; rw [he] at hv; have hval := hv.lt_of_ptr; exact .same hh (by simp only [execOp, ho, hval, Sem.run_bind, hrun]; rfl) (.ptr _ _) hG
  · rename_i cs he
    rw [he] at hv
    obtain ⟨b, off, hval, hr⟩ := rptr_drop hv fd.offset
    exact .same hh (by simp only [execOp, ho, hval, Sem.run_bind, hrun]; rfl) hr hG
  · exact hG.elim
theorem s_iaA (t : TypeId) (x i : Operand) (ho : o.op = .indexAddr t x i) (len : Nat) (e : TypeId) (hu : P.underlying t = some (.array len e)) (k : Nat) (hk : (P.info? e).map (·.size) = some k)
    (hx : opOk x = true) (hi : opOk i = true) (hf : FRel H a f) (hh : Holds H s w) (hG : G ⟨P, kp⟩ (.iaA k len x i) f s K) : GoalW P kp o a w H s K := by
  have hv := hf.ev x hx
  have hvi := hf.ev i hi
  have hrun : ∀ (b off : Nat) (kk : IntKind) (m : Int), 0 ≤ m → m < len → (Instr.indexAt t (.pointer (some ⟨b, off, none⟩)) (.int kk m)).run P w = .ok (.pointer (some ⟨b, off + m.toNat * k, none⟩)) w := by
    intro b off kk m h0 h1
    cases hq : P.info? e with
    | none => simp [hq] at hk
    | some ii =>
      have hs : ii.size = k := by simpa [hq] using hk
      simp [Instr.indexAt, asIntOf, run_underlying hu, Instr.sureAddr, h0, h1, sizeOf, typeInfo, hq, hs, Addr_add]
  simp only [G] at hG
  split at hG
  · rename_i l off kk m he hei
    rw [he] at hv; rw [hei] at hvi
    have hval := hv.lt_of_ptr; have hvali := hvi.ev_v
    exact .same hh (by simp only [execOp, ho, hval, hvali, Sem.run_bind, hrun _ _ _ _ hG.1 hG.2.1]; rfl) (.ptr _ _) hG.2.2
  · rename_i cs kk m he hei
    rw [he] at hv; rw [hei] at hvi
    have hvali := hvi.ev_v
    obtain ⟨b, off, hval, hr⟩ := rptr_drop hv (m.toNat * k)
    exact .same hh (by simp only [execOp, ho, hval, hvali, Sem.run_bind, hrun _ _ _ _ hG.1 hG.2.1]; rfl) hr hG.2.2
  · exact hG.elim
theorem flat_length {k : Nat} : ∀ {xs : List AV}, (∀ e ∈ xs, e.cells.length = k) → (flat xs).length = xs.length * k
  | [], _ => by simp [flat]
  | x :: xs, h => by
    have := flat_length (xs := xs) (fun e he => h e (List.mem_cons_of_mem _ he))
    have h1 := h x List.mem_cons_self
    simp only [flat, List.flatMap_cons, List.length_append, List.length_cons, Nat.add_mul, Nat.one_mul] at this ⊢
    omega
theorem flat_drop_take {k : Nat} : ∀ {xs : List AV} (n : Nat), (∀ e ∈ xs, e.cells.length = k) → (flat xs).drop (n * k) = flat (xs.drop n) ∧ (flat xs).take (n * k) = flat (xs.take n)
  | xs, 0, _ => by simp [flat]
  | [], n + 1, _ => by simp [flat]
  | x :: xs, n + 1, h => by
    obtain ⟨h1, h2⟩ := flat_drop_take (xs := xs) n (fun e he => h e (List.mem_cons_of_mem _ he))
    have h3 := h x List.mem_cons_self
    have e : (n + 1) * k = x.cells.length + n * k := by rw [Nat.add_mul, Nat.one_mul, h3, Nat.add_comm]
    simp only [flat, List.flatMap_cons, List.drop_succ_cons, List.take_succ_cons] at *
    constructor
    · rw [e, List.drop_append, List.drop_of_length_le (by omega), Nat.add_sub_cancel_left, List.nil_append]
      exact h1
    · rw [e, List.take_append]
      rw [List.take_of_length_le (by omega), Nat.add_sub_cancel_left, h2]
theorem RV.sl_cells {x : Value} {xs : List AV} {ow : Own} (h : RV H x (.sl xs ow)) (hne : xs ≠ []) : ∃ (b off cap k : Nat) (vals : Nat → Value), x = .slice (some ⟨b, off, none⟩) xs.length cap ∧ 0 < k ∧ xs.length ≤ cap ∧ (∀ e ∈ xs, e.cells.length = k) ∧ (∀ c ∈ flat xs, c.one = true) ∧
    (∀ j, j < xs.length * k → H b (off + j) = some (vals j)) ∧ (∀ j u, (flat xs)[j]? = some u → RV H (vals j) u) ∧ ow.ok b off cap := by
  cases h with
  | slEmpty => exact absurd rfl hne
  | sl b off len cap k vals xs ow hk hlen hcap hel hone hH hR ho =>
    subst hlen
    exact ⟨b, off, cap, k, vals, rfl, hk, hcap, hel, hone, hH, hR, ho⟩
theorem s_iaS (t : TypeId) (x i : Operand) (ho : o.op = .indexAddr t x i) (e : TypeId) (hu : P.underlying t = some (.slice e)) (k : Nat) (hk : (P.info? e).map (·.size) = some k)
    (hx : opOk x = true) (hi : opOk i = true) (hf : FRel H a f) (hh : Holds H s w) (hG : G ⟨P, kp⟩ (.iaS k x i) f s K) : GoalW P kp o a w H s K := by
  have hv := hf.ev x hx
  have hvi := hf.ev i hi
  have hrun : ∀ (b off len cap : Nat) (kk : IntKind) (m : Int), 0 ≤ m → m < len → (Instr.indexAt t (.slice (some ⟨b, off, none⟩) len cap) (.int kk m)).run P w = .ok (.pointer (some ⟨b, off + m.toNat * k, none⟩)) w := by
    intro b off len cap kk m h0 h1
    cases hq : P.info? e with
    | none => simp [hq] at hk
    | some ii =>
      have hs : ii.size = k := by simpa [hq] using hk
      simp [Instr.indexAt, asIntOf, run_underlying hu, h0, h1, sizeOf, typeInfo, hq, hs, Addr_add]
  simp only [G] at hG
  split at hG
  · rename_i xs ow kk m he hei
    rw [he] at hv; rw [hei] at hvi
    have hvali := hvi.ev_v
    obtain ⟨h0, hG⟩ := hG
    split at hG
    case h_2 => exact hG.elim
    rename_i el hel
    obtain ⟨hlen, hK⟩ := hG
    have hlt : m.toNat < xs.length := (List.getElem?_eq_some_iff.1 hel).1
    obtain ⟨b, off, cap, k', vals, hval, hk', hcap, hels, hone, hH, hR, _⟩ := hv.sl_cells (by intro hnil; rw [hnil] at hlt; simp at hlt)
    have hmem : el ∈ xs := List.mem_of_getElem? hel
    obtain rfl : k = k' := by rw [← hlen]; exact hels el hmem
    have hm1 : m < (xs.length : Int) := by omega
    refine .same hh (v := .pointer (some ⟨b, off + m.toNat * k, none⟩)) (by simp only [execOp, ho, hval, hvali, Sem.run_bind, hrun _ _ _ _ _ _ h0 hm1]; rfl) ?_ hK
    have hdrop : ∀ j u, el.cells[j]? = some u → (flat xs)[m.toNat * k + j]? = some u := fun j u hu => by
      have hd := (flat_drop_take (xs := xs) m.toNat hels).1
      have : ((flat xs).drop (m.toNat * k))[j]? = some u := by
        rw [hd, List.drop_eq_getElem_cons hlt]
        have hee : xs[m.toNat] = el := (List.getElem?_eq_some_iff.1 hel).2
        rw [hee]
        simp only [flat, List.flatMap_cons]
        rw [List.getElem?_append_left (List.getElem?_eq_some_iff.1 hu).1]
        exact hu
      simpa using this
    refine .rptr b _ (fun j => vals (m.toNat * k + j)) _ (fun c hc => ?_) (fun j hj => ?_) (fun j u hu => hR _ u (hdrop j u hu))
    · obtain ⟨j, hj⟩ := List.getElem?_of_mem hc
      exact hone c (List.mem_of_getElem? (hdrop j c hj))
    · rw [Nat.add_assoc]
      refine hH _ ?_
      have := (List.getElem?_eq_some_iff.1 (hdrop j _ (List.getElem?_eq_getElem hj))).1
      rwa [flat_length hels] at this
  · rename_i l off len k' kk m he hei
    rw [he] at hv; rw [hei] at hvi
    have hvali := hvi.ev_v
    obtain ⟨rfl, h0, h1, hK⟩ := hG
    generalize hav : a.eval x = xv at hv
    cases hv with
    | msl l off len cap k hkk hcap => exact .same hh (by simp only [execOp, ho, hav, hvali, Sem.run_bind, hrun _ _ _ _ _ _ h0 h1]; rfl) (.ptr _ _) hK
  · rename_i l len cap k' kk m he hei
    rw [he] at hv; rw [hei] at hvi
    have hvali := hvi.ev_v
    obtain ⟨rfl, h0, h1, hK⟩ := hG
    generalize hav : a.eval x = xv at hv
    cases hv with
    | mb l len cap k hkk hcap =>
      have r := hrun l 0 len cap kk m h0 h1
      rw [Nat.zero_add] at r
      exact .same hh (by simp only [execOp, ho, hav, hvali, Sem.run_bind, r]; rfl) (.ptr _ _) hK
  · exact hG.elim
end
end Go.Av
namespace Go.Av
open Go
section
variable {P : Program} {kp : AV → Hp → Prop} {o : Oper} {a : Act} {w : World} {H : PH} {s : Hp} {K : AV → Hp → Prop} {f : Fr}
theorem run_part {vs : Array Value} {cs : List AV} (h : RVA H vs cs) (hone : ∀ c ∈ cs, c.one = true) (t : TypeId) (d : TypeDesc) (hu : P.underlying t = some d) (n : Nat) (hn : (P.info? t).map (·.size) = some n) (h1 : d.isRow = false → n = 1)
    (off : Nat) (hle : off + n ≤ cs.length) : ∃ v, (∀ w, (part t vs off).run P w = .ok v w) ∧ RV H v (mkv d.isRow n (cs.drop off)) := by
  cases hq : P.info? t with
  | none => simp [hq] at hn
  | some i =>
    have hs : i.size = n := by simpa [hq] using hn
    cases hd : d.isRow with
    | true => exact ⟨_, fun w => by rw [part_agg hu hd hq, hs], RV.mkv h hone off n hle⟩
    | false =>
      obtain rfl := h1 hd
      have hlt : off < vs.size := by have := h.1; omega
      exact ⟨_, fun w => part_one hu hd vs off (vs.getD off undef) (by simp [hlt]) w, RV.mkv1 h off hle⟩
theorem s_fld (t : TypeId) (x : Operand) (i : Nat) (ho : o.op = .field t x i) (fs : Array Field) (hu : P.underlying t = some (.struct fs)) (fd : Field) (hfd : fs[i]? = some fd) (d : TypeDesc) (hd : P.underlying fd.type = some d) (n : Nat)
    (hn : (P.info? fd.type).map (·.size) = some n) (h1 : d.isRow = false → n = 1) (hx : opOk x = true) (hf : FRel H a f) (hh : Holds H s w) (hG : G ⟨P, kp⟩ (.fld d.isRow fd.offset n x) f s K) : GoalW P kp o a w H s K := by
  have hv := hf.ev x hx
  simp only [G] at hG
  split at hG
  case h_2 => exact hG.elim
  rename_i cs he
  rw [he] at hv
  generalize hav : a.eval x = xv at hv
  cases hv with
  | agg vs cs hone hl hR =>
    obtain ⟨v, hrun, hr⟩ := run_part ⟨hl, hR⟩ hone fd.type d hd n hn h1 fd.offset hG.1
    exact .same hh (by simp [execOp, ho, hav, Instr.field, run_underlying hu, hfd, asAgg, hrun]) hr hG.2
theorem s_idxA (t : TypeId) (x i : Operand) (ho : o.op = .index t x i) (len : Nat) (e : TypeId) (hu : P.underlying t = some (.array len e)) (d : TypeDesc) (hd : P.underlying e = some d) (k : Nat)
    (hk : (P.info? e).map (·.size) = some k) (h1 : d.isRow = false → k = 1) (hx : opOk x = true) (hi : opOk i = true) (hf : FRel H a f) (hh : Holds H s w) (hG : G ⟨P, kp⟩ (.idxA d.isRow k len x i) f s K) : GoalW P kp o a w H s K := by
  have hv := hf.ev x hx
  have hvi := hf.ev i hi
  simp only [G] at hG
  split at hG
  case h_2 => exact hG.elim
  rename_i cs kk m he hei
  rw [he] at hv; rw [hei] at hvi
  have hvali := hvi.ev_v
  generalize hav : a.eval x = xv at hv
  cases hv with
  | agg vs cs hone hl hR =>
    obtain ⟨h0, hm, hle, hK⟩ := hG
    obtain ⟨v, hrun, hr⟩ := run_part ⟨hl, hR⟩ hone e d hd k hk h1 (m.toNat * k) hle
    cases hq : P.info? e with
    | none => simp [hq] at hk
    | some ii =>
      have hs : ii.size = k := by simpa [hq] using hk
      exact .same hh (by simp [execOp, ho, hav, hvali, Instr.index, asIntOf, run_underlying hu, h0, hm, sizeOf, typeInfo, hq, hs, hrun]) hr hK
theorem s_idxS (t : TypeId) (x i : Operand) (ho : o.op = .index t x i) (hu : P.underlying t = some .string) (hx : opOk x = true) (hi : opOk i = true) (hf : FRel H a f) (hh : Holds H s w) (hG : G ⟨P, kp⟩ (.idxS x i) f s K) : GoalW P kp o a w H s K := by
  have hv := hf.ev x hx
  have hvi := hf.ev i hi
  simp only [G] at hG
  split at hG
  case h_2 => exact hG.elim
  rename_i b kk m he hei
  rw [he] at hv; rw [hei] at hvi
  have hval := hv.ev_v; have hvali := hvi.ev_v
  obtain ⟨h0, hG⟩ := hG
  split at hG
  case h_2 => exact hG.elim
  rename_i c hc
  have hc' : b[m.toNat]? = some c := by
    have hlt : m.toNat < b.data.size := (Array.getElem?_eq_some_iff.1 hc).1
    rw [getElem?_pos b m.toNat hlt]
    have := (Array.getElem?_eq_some_iff.1 hc).2
    rw [← this]; rfl
  exact .same hh (v := .int .u8 c.toNat) (by simp [execOp, ho, hval, hvali, Instr.index, asIntOf, run_underlying hu, h0, hc']) (.v _ rfl) hG
theorem s_ext (x : Operand) (i : Nat) (ho : o.op = .extract x i) (hx : opOk x = true) (hf : FRel H a f) (hh : Holds H s w) (hG : G ⟨P, kp⟩ (.ext x i) f s K) : GoalW P kp o a w H s K := by
  have hv := hf.ev x hx
  simp only [G] at hG
  split at hG
  case h_2 => exact hG.elim
  rename_i vs he
  rw [he] at hv
  split at hG
  case h_2 => exact hG.elim
  rename_i r hr
  generalize hav : a.eval x = xv at hv
  cases hv with
  | tup us vs hl hR =>
    have hlt : i < us.size := by rw [hl]; exact (List.getElem?_eq_some_iff.1 hr).1
    have := hR i r hr
    refine .same hh (v := us.getD i undef) ?_ this hG
    simp [execOp, ho, hav, Instr.extract, hlt]
theorem s_len (t : TypeId) (x : Operand) (hop : o.op = .call { callee := .builtin .len, args := #[x], argTypes := #[t] }) (e : TypeId) (hu : P.underlying t = some (.slice e))
    (hx : opOk x = true) (hf : FRel H a f) (hh : Holds H s w) (hG : G ⟨P, kp⟩ (.len x) f s K) : GoalW P kp o a w H s K := by
  have hv := hf.ev x hx
  simp only [G] at hG
  split at hG
  · rename_i xs ow he
    rw [he] at hv
    generalize hav : a.eval x = xv at hv
    have hlen : ∃ ad cap, xv = .slice ad xs.length cap := by
      cases hv with
      | slEmpty ad cap => exact ⟨ad, cap, rfl⟩
      | sl b off len cap k vals xs ow hk hlen => subst hlen; exact ⟨_, cap, rfl⟩
    obtain ⟨ad, cap, rfl⟩ := hlen
    exact .same hh (v := .int .i64 xs.length) (by simp [execOp, hop, resolve, invoke, builtin, hav, Builtin.len_, run_underlying hu, goInt]) (.v _ rfl) hG
  · rename_i l off n k he
    rw [he] at hv
    generalize hav : a.eval x = xv at hv
    cases hv with
    | msl l off len cap k hk hcap => exact .same hh (v := .int .i64 n) (by simp [execOp, hop, resolve, invoke, builtin, hav, Builtin.len_, run_underlying hu, goInt]) (.v _ rfl) hG
  · rename_i l n cap k he
    rw [he] at hv
    generalize hav : a.eval x = xv at hv
    cases hv with
    | mb l len cap k hk hcap => exact .same hh (v := .int .i64 n) (by simp [execOp, hop, resolve, invoke, builtin, hav, Builtin.len_, run_underlying hu, goInt]) (.v _ rfl) hG
  · exact hG.elim
theorem s_lenT (t : TypeId) (x : Operand) (hop : o.op = .call { callee := .builtin .len, args := #[x], argTypes := #[t] }) (hu : P.underlying t = some .string)
    (hx : opOk x = true) (hf : FRel H a f) (hh : Holds H s w) (hG : G ⟨P, kp⟩ (.lenT x) f s K) : GoalW P kp o a w H s K := by
  have hv := hf.ev x hx
  simp only [G] at hG
  split at hG
  · rename_i b he
    rw [he] at hv
    have hval := hv.ev_v
    exact .same hh (v := .int .i64 b.size) (by simp [execOp, hop, resolve, invoke, builtin, hval, Builtin.len_, run_underlying hu, goInt]) (.v _ rfl) hG
  · exact hG.elim
theorem s_lenA (t : TypeId) (x : Operand) (hop : o.op = .call { callee := .builtin .len, args := #[x], argTypes := #[t] }) (n : Nat) (e : TypeId) (hu : P.underlying t = some (.array n e)) (hh : Holds H s w) (hG : G ⟨P, kp⟩ (.lenA n) f s K) : GoalW P kp o a w H s K := by
  exact .same hh (v := .int .i64 n) (by simp [execOp, hop, resolve, invoke, builtin, Builtin.len_, run_underlying hu, goInt]) (.v _ rfl) hG
theorem binV_run (op : BinOp) (t : TypeId) (x y r : Value) (h : binV op x y = some r) (w : World) : (binOp op t x y).run P w = .ok r w ∧ r.oneCell' = true := by
  unfold binV at h
  split at h
  · rename_i k m k' m'
    split at h
    · rename_i hs
      unfold shiftInt at h
      split at h
      · cases h
      · rename_i hy
        cases op <;> simp [isShift] at hs <;> simp only [] at h <;> (obtain rfl := Option.some.inj h) <;> simp [binOp, Op.shift, hy, Value.oneCell']
    · rename_i hs
      split at h
      · rename_i hk
        subst hk
        cases op <;> simp [isShift] at hs <;> simp only [binInt] at h <;> first
          | (split at h <;> first | (cases h; done) | skip)
          | skip
        all_goals (obtain rfl := Option.some.inj h)
        all_goals simp_all [binOp, Op.intArith, Op.intDiv, Op.intBits, Op.intCmp, Value.oneCell']
        all_goals first | (rw [Bool.eq_iff_iff]; simp) | skip
      · cases h
  · unfold binStr at h
    cases op <;> simp only [] at h <;> first
      | (cases h; done)
      | (split at h <;> first | (cases h; done) | skip)
      | skip
    all_goals (obtain rfl := Option.some.inj h)
    all_goals simp [binOp, Op.stringOp, Value.oneCell']
    all_goals first | omega | (intro hc; simp [IntKind.max, IntKind.signed, IntKind.bits] at hc; omega) | (simp [IntKind.max, IntKind.signed, IntKind.bits]; omega) | skip
  · cases h
theorem run_eqGuard_v (op : BinOp) (t : TypeId) (ox oy : Operand) (x y : Value) (h : (binV op x y).isSome) (w : World) : (eqGuard op t ox oy x y).run P w = .ok () w := by
  unfold binV at h
  split at h <;> first
    | (cases op <;> simp [eqGuard]; done)
    | simp at h
theorem s_bin (op : BinOp) (t : TypeId) (x y : Operand) (yt : TypeId) (ho : o.op = .binOp op t x y yt) (hx : opOk x = true) (hy : opOk y = true) (hf : FRel H a f) (hh : Holds H s w) (hG : G ⟨P, kp⟩ (.bin op x y) f s K) : GoalW P kp o a w H s K := by
  have hv := hf.ev x hx
  have hvy := hf.ev y hy
  simp only [G] at hG
  split at hG
  case h_2 => exact hG.elim
  rename_i u v he hey
  rw [he] at hv; rw [hey] at hvy
  have hval := hv.ev_v; have hvaly := hvy.ev_v
  split at hG
  case h_2 => exact hG.elim
  rename_i r hr
  obtain ⟨hrun, hone⟩ := binV_run (P := P) op t u v r hr w
  exact .same hh (v := r) (by simp [execOp, ho, hval, hvaly, run_eqGuard_v op t x y u v (by simp [hr]) w, hrun]) (.v _ hone) hG
theorem s_un (op : UnOp) (t : TypeId) (x : Operand) (ho : o.op = .unOp op t x) (hx : opOk x = true) (hf : FRel H a f) (hh : Holds H s w) (hG : G ⟨P, kp⟩ (.un op x) f s K) : GoalW P kp o a w H s K := by
  have hv := hf.ev x hx
  simp only [G] at hG
  split at hG
  case h_2 => exact hG.elim
  rename_i u he
  rw [he] at hv
  have hval := hv.ev_v
  split at hG
  case h_2 => exact hG.elim
  rename_i r hr
  have hrun : (Op.unary op u).run P w = .ok r w ∧ r.oneCell' = true := by
    unfold unV at hr
    split at hr
    · cases op <;> simp only [] at hr <;> first | (cases hr; done) | skip
      obtain rfl := Option.some.inj hr
      simp [Op.unary, Value.oneCell']
    · cases op <;> simp only [] at hr <;> first | (cases hr; done) | skip
      all_goals (obtain rfl := Option.some.inj hr)
      all_goals simp [Op.unary, Op.intArith, Op.intBits, Value.oneCell']
    · cases hr
  exact .same hh (v := r) (by simp [execOp, ho, hval, hrun.1]) (.v _ hrun.2) hG
theorem s_cvt (st dt : TypeId) (x : Operand) (ho : o.op = .convert st dt x) (k k' : IntKind) (hs : P.underlying st = some (.int k')) (hd : P.underlying dt = some (.int k)) (hx : opOk x = true) (hf : FRel H a f) (hh : Holds H s w) (hG : G ⟨P, kp⟩ (.cvt k x) f s K) : GoalW P kp o a w H s K := by
  have hv := hf.ev x hx
  simp only [G] at hG
  split at hG
  case h_2 => exact hG.elim
  rename_i kk n he
  rw [he] at hv
  have hval := hv.ev_v
  exact .same hh (v := .int k (k.wrap n)) (by simp [execOp, ho, hval, convert, run_underlying hs, run_underlying hd, Conv.intToInt]) (.v _ rfl) hG
theorem s_eqv (neg : Bool) (t : TypeId) (x y : Operand) (yt : TypeId) (ho : o.op = .binOp (if neg then .neq else .eql) t x y yt) (d : Nat) (ks : List CK) (hk : flatK P d t = some ks) (hsz : P.cellsOf t = ks.length) (hin : (P.info? t).isSome) (hd : d ≤ 10000)
    (hrow : (P.underlying t).any (·.isRow) = true) (hgd : P.eqGuardType P.depth t = false) (hx : opOk x = true) (hy : opOk y = true) (hf : FRel H a f) (hh : Holds H s w) (hG : G ⟨P, kp⟩ (.eqv neg (runsOf ks) x y) f s K) : GoalW P kp o a w H s K := by
  have hv := hf.ev x hx
  have hvy := hf.ev y hy
  simp only [G] at hG
  split at hG
  case h_2 => exact hG.elim
  rename_i cs ds he hey
  rw [he] at hv; rw [hey] at hvy
  generalize hav : a.eval x = xv at hv
  generalize hay : a.eval y = yv at hvy
  cases hv with
  | agg vs cs hone hl hR =>
    cases hvy with
    | agg us ds hone' hl' hR' =>
      obtain ⟨hc, hdd, hK⟩ := hG
      have r1 : RVA H vs cs := ⟨hl, hR⟩
      have r2 : RVA H us ds := ⟨hl', hR'⟩
      obtain ⟨f1, e1⟩ := fitR_sound _ cs vs.toList hc (RVA.iff_list.1 r1).1 (RVA.iff_list.1 r1).2
      obtain ⟨f2, e2⟩ := fitR_sound _ ds us.toList hdd (RVA.iff_list.1 r2).1 (RVA.iff_list.1 r2).2
      rw [expand_runs] at f1 f2
      have hlv : vs.size = ks.length := by have := fitL_length f1; simpa using this
      have hlu : us.size = ks.length := by have := fitL_length f2; simpa using this
      obtain ⟨i, hi⟩ := Option.isSome_iff_exists.1 hin
      have hs : i.size = ks.length := by simpa [Program.cellsOf, hi] using hsz
      obtain ⟨desc, hdesc⟩ : ∃ desc, P.underlying t = some desc := by
        cases hu : P.underlying t with
        | none => simp [hu] at hrow
        | some desc => exact ⟨desc, rfl⟩
      have hdr : desc.isRow = true := by simpa [hdesc] using hrow
      obtain ⟨p, q, r, p1, p2, p3, hr⟩ := flatK_sound d t ks hk hsz hin (10000 - d) w vs us 0 (by rw [List.drop_zero, ← hlv, List.take_of_length_le (by simp)]; exact f1) (by rw [List.drop_zero, ← hlu, List.take_of_length_le (by simp)]; exact f2)
      rw [part_agg hdesc hdr hi] at p1 p2
      have ex : vs.extract 0 (0 + i.size) = vs := by rw [Nat.zero_add, hs, ← hlv]; simp
      have eu : us.extract 0 (0 + i.size) = us := by rw [Nat.zero_add, hs, ← hlu]; simp
      rw [ex] at p1
      rw [eu] at p2
      simp only [Result.ok.injEq, and_true] at p1 p2
      subst p1; subst p2
      rw [show 10000 - d + d = 10000 by omega] at p3
      have hiff : r = peq (.agg cs) (.agg ds) := by
        rw [Bool.eq_iff_iff, peq_iff, hr, List.drop_zero, List.drop_zero, e1, e2]
        rw [List.take_of_length_le (by simp [hlv]), List.take_of_length_le (by simp [hlu])]
        constructor
        · intro h; rw [h]
        · intro h
          simp only [AV.agg.injEq] at h
          exact (List.map_inj_right (by intro x y hxy; simpa using hxy)).1 h
      subst hiff
      cases neg
      · refine .same hh (v := .bool (peq (.agg cs) (.agg ds))) ?_ (.v _ rfl) (by simpa using hK)
        simp [execOp, ho, hav, hay, run_eqGuard_agg w .eql t x y vs us hgd, run_eql_struct, p3]
      · refine .same hh (v := .bool (!(peq (.agg cs) (.agg ds)))) ?_ (.v _ rfl) (by simpa using hK)
        simp [execOp, ho, hav, hay, run_eqGuard_agg w .neq t x y vs us hgd, run_neq_struct, p3]
theorem s_eqb (neg : Bool) (t : TypeId) (x y : Operand) (yt : TypeId) (ho : o.op = .binOp (if neg then .neq else .eql) t x y yt) (hu : P.underlying t = some .bool) (hx : opOk x = true) (hy : opOk y = true) (hf : FRel H a f) (hh : Holds H s w)
    (hG : G ⟨P, kp⟩ (.eqb neg x y) f s K) : GoalW P kp o a w H s K := by
  have hv := hf.ev x hx
  have hvy := hf.ev y hy
  simp only [G] at hG
  split at hG
  case h_2 => exact hG.elim
  rename_i b c he hey
  rw [he] at hv; rw [hey] at hvy
  have hval := hv.ev_v; have hvaly := hvy.ev_v
  have key : (Op.equalIn 10000 t (.bool b) (.bool c)).run P w = .ok (b == c) w := run_equalIn_bool' w 9999 t b c hu
  cases neg
  · exact .same hh (v := .bool (b == c)) (by simp [execOp, ho, hval, hvaly, eqGuard, binOp, Op.equal, Op.maxDepth, key]) (.v _ rfl) (by simpa using hG)
  · exact .same hh (v := .bool (!(b == c))) (by simp [execOp, ho, hval, hvaly, eqGuard, binOp, Op.equal, Op.maxDepth, key]) (.v _ rfl) (by simpa using hG)
theorem s_eqp (neg : Bool) (t : TypeId) (x y : Operand) (yt : TypeId) (ho : o.op = .binOp (if neg then .neq else .eql) t x y yt) (e : TypeId) (hu : P.underlying t = some (.pointer e)) (hx : opOk x = true) (hy : opOk y = true) (hf : FRel H a f) (hh : Holds H s w)
    (hG : G ⟨P, kp⟩ (.eqp neg x y) f s K) : GoalW P kp o a w H s K := by
  have hv := hf.ev x hx
  have hvy := hf.ev y hy
  have hpt : P.pointee t = e := by simp [Program.pointee, hu]
  have hu' : P.underlying t = some (.pointer (P.pointee t)) := by rw [hpt]; exact hu
  have k1 : ∀ p : Option Addr, (Op.equalIn 10000 t (.pointer p) (.pointer none)).run P w = .ok p.isNone w := fun p => run_equalIn_pointer_nil w 9999 t p hu'
  simp only [G] at hG
  split at hG
  · rename_i l off he hey
    rw [he] at hv; rw [hey] at hvy
    have hval := hv.lt_of_ptr; have hvaly := hvy.ev_v
    cases neg
    · exact .same hh (v := .bool false) (by simp [execOp, ho, hval, hvaly, eqGuard, binOp, Op.equal, Op.maxDepth, k1]) (.v _ rfl) hG
    · exact .same hh (v := .bool true) (by simp [execOp, ho, hval, hvaly, eqGuard, binOp, Op.equal, Op.maxDepth, k1]) (.v _ rfl) hG
  · rename_i cs he hey
    rw [he] at hv; rw [hey] at hvy
    have hvaly := hvy.ev_v
    generalize hav : a.eval x = xv at hv
    cases hv with
    | rptr b off vals cs hone hH hR =>
      cases neg
      · exact .same hh (v := .bool false) (by simp [execOp, ho, hav, hvaly, eqGuard, binOp, Op.equal, Op.maxDepth, k1]) (.v _ rfl) hG
      · exact .same hh (v := .bool true) (by simp [execOp, ho, hav, hvaly, eqGuard, binOp, Op.equal, Op.maxDepth, k1]) (.v _ rfl) hG
  · rename_i he hey
    rw [he] at hv; rw [hey] at hvy
    have hval := hv.ev_v; have hvaly := hvy.ev_v
    cases neg
    · exact .same hh (v := .bool true) (by simp [execOp, ho, hval, hvaly, eqGuard, binOp, Op.equal, Op.maxDepth, k1]) (.v _ rfl) (by simpa using hG)
    · exact .same hh (v := .bool false) (by simp [execOp, ho, hval, hvaly, eqGuard, binOp, Op.equal, Op.maxDepth, k1]) (.v _ rfl) (by simpa using hG)
  · exact hG.elim
theorem s_callF (g : FuncId) (fn : Func) (args : Array Operand) (ats : Array TypeId) (ho : o.op = .call { callee := .value (.func g), args, argTypes := ats }) (hfn : P.funcs[g]? = some fn) (hb : fn.body.isSome) (hnm : fn.name ≠ "runtime.NumGoroutine")
    (hok : ∀ x ∈ args.toList, opOk x = true) (hf : FRel H a f) (hh : Holds H s w) (hG : G ⟨P, kp⟩ (.callF g args.toList) f s K) : GoalW P kp o a w H s K := by
  intro Q hQ
  have hargs : RVA H (args.map a.eval) (args.toList.map (ev f)) := by
    refine RVA.iff_list.2 ⟨by simp, fun j x u hx hu => ?_⟩
    rw [Array.toList_map, List.getElem?_map] at hx
    rw [List.getElem?_map] at hu
    cases hj : args.toList[j]? with
    | none => simp [hj] at hx
    | some op =>
      rw [hj] at hx hu
      obtain rfl : a.eval op = x := by simpa using hx
      obtain rfl : ev f op = u := by simpa using hu
      exact hf.ev op (hok op (List.mem_of_getElem? hj))
  have hc := hG (args.map a.eval) w H hargs hh
  have hrun : (execOp a.eval o).run P w = .ok (.enter g (args.map a.eval)) w := by
    cases hbb : fn.body with
    | none => simp [hbb] at hb
    | some c => simp [execOp, ho, resolve, Act.eval, Deferred.ofValue, invoke, callFunc, hfn, hnm, hbb]
  unfold Oper.wp
  rw [hrun]
  exact hc.mono fun e w' hh => by
    rcases hh with ⟨v, r, H', s', he, hst, hv, hR⟩ | ⟨v, r, H', s', he, hst, hv, hR⟩
    · subst he
      exact ⟨v, H', s', r, rfl, hst, hv, hR⟩
    · subst he
      exact hQ _ _ _ _ _ hst hv hR
end
end Go.Av
namespace Go.Av
open Go
section
variable {P : Program} {kp : AV → Hp → Prop} {o : Oper} {a : Act} {w : World} {H : PH} {s : Hp} {K : AV → Hp → Prop} {f : Fr}
def valOf (a : Act) (x : Option Operand) : Option Value := x.map a.eval
theorem bnd_val (hf : FRel H a f) {x : Option Operand} (hx : x.all opOk = true) {d : Nat} {m : Int} (h : bnd f x d = some m) : (x = none ∧ m = d) ∨ ∃ kk, valOf a x = some (.int kk m) := by
  cases x with
  | none => left; simp only [bnd, Option.some.injEq] at h; exact ⟨rfl, h.symm⟩
  | some x =>
    right
    simp only [bnd] at h
    split at h
    · rename_i kk n he
      obtain rfl := Option.some.inj h
      have := hf.ev x (by simpa using hx)
      rw [he] at this
      exact ⟨kk, by simp [valOf, this.ev_v]⟩
    · cases h
theorem run_bounds (isS : Bool) (len cap : Nat) (lo hi : Option Operand) (l h : Int) (hlo : (lo = none ∧ l = 0) ∨ ∃ kk, valOf a lo = some (.int kk l)) (hhi : (hi = none ∧ h = len) ∨ ∃ kk, valOf a hi = some (.int kk h))
    (h0 : 0 ≤ l) (h1 : l ≤ h) (h2 : h ≤ len) (hc : len ≤ cap) (w : World) : (Instr.sliceBounds isS len cap (valOf a lo) (valOf a hi) none).run P w = .ok (l.toNat, h.toNat, cap) w := by
  have eh : (h.toNat : Int) = h := Int.toNat_of_nonneg (by omega)
  have h3 : h ≤ (cap : Int) := by omega
  have h4 : 0 ≤ h := by omega
  have en : valOf a none = none := rfl
  rcases hlo with ⟨rfl, rfl⟩ | ⟨kl, hl⟩ <;> rcases hhi with ⟨rfl, rfl⟩ | ⟨kh, hh⟩
  · simp [Instr.sliceBounds, en]
  · simp only [Instr.sliceBounds, en, hh]
    simp [run_sliceBound, h3, h4]
  · simp only [Instr.sliceBounds, en, hl]
    simp [run_sliceBound, h0, h1]
  · simp only [Instr.sliceBounds, hl, hh]
    simp [run_sliceBound, h0, h1, h3, h4, eh]
theorem s_slc (t : TypeId) (x : Operand) (lo hi : Option Operand) (ho : o.op = .slice t x lo hi none) (e : TypeId) (hu : P.underlying t = some (.slice e)) (k : Nat) (hk : (P.info? e).map (·.size) = some k) (hx : opOk x = true) (hlo : lo.all opOk = true) (hhi : hi.all opOk = true)
    (hf : FRel H a f) (hh : Holds H s w) (hG : G ⟨P, kp⟩ (.slc k x lo hi) f s K) : GoalW P kp o a w H s K := by
  have hv := hf.ev x hx
  have hrun : ∀ (ad : Option Addr) (len cap : Nat) (l h : Int), ((lo = none ∧ l = 0) ∨ ∃ kk, valOf a lo = some (.int kk l)) → ((hi = none ∧ h = len) ∨ ∃ kk, valOf a hi = some (.int kk h)) → 0 ≤ l → l ≤ h → h ≤ len → len ≤ cap →
      a.eval x = .slice ad len cap → (execOp a.eval o).run P w = .ok (.value (sliced ad l.toNat h.toNat cap k)) w := by
    intro ad len cap l h e1 e2 h0 h1 h2 hc hav
    have hb := run_bounds (P := P) true len cap lo hi l h e1 e2 h0 h1 h2 hc w
    simp only [valOf] at hb
    cases hq : P.info? e with
    | none => simp [hq] at hk
    | some ii =>
      have hs : ii.size = k := by simpa [hq] using hk
      simp [execOp, ho, hav, Instr.sliceAt, Instr.slice, run_underlying hu, hb, sizeOf, typeInfo, hq, hs, sliced]
  simp only [G] at hG
  split at hG
  · rename_i xs ow he
    rw [he] at hv
    split at hG
    case h_2 => exact hG.elim
    rename_i l h hl hhh
    obtain ⟨h0, h1, h2, hel, hK⟩ := hG
    have e1 := bnd_val hf hlo hl
    have e2 := bnd_val hf hhi hhh
    generalize hav : a.eval x = xv at hv
    have hform : ∃ ad cap, xv = .slice ad xs.length cap ∧ xs.length ≤ cap := by
      cases hv with
      | slEmpty ad cap => exact ⟨ad, cap, rfl, Nat.zero_le _⟩
      | sl b off len cap k vals xs ow hk hlen hcap => subst hlen; exact ⟨_, cap, rfl, hcap⟩
    obtain ⟨ad, cap, hxv, hcap⟩ := hform
    have r := hrun ad xs.length cap l h (by simpa using e1) e2 h0 h1 h2 hcap (by rw [hav, hxv])
    refine .same hh r ?_ hK
    have hAny : RV H (sliced ad l.toNat h.toNat cap k) (.sl ((xs.take h.toNat).drop l.toNat) .any) := by
      by_cases hemp : l.toNat = h.toNat
      · have e : (xs.take h.toNat).drop l.toNat = [] := by rw [List.drop_eq_nil_iff]; simp; omega
        rw [e, hemp]
        unfold sliced
        rw [Nat.sub_self]
        refine .slEmpty _ _ _ (fun hn => ?_) trivial
        split at hn
        · omega
        · cases hv with
          | slEmpty a' cap' o' ha => simp at hxv; obtain ⟨rfl, rfl⟩ := hxv; simp at hn; have := ha hn; omega
          | sl b off len cap' k' vals xs ow hk hlen hcap => simp at hxv; obtain ⟨rfl, _, rfl⟩ := hxv; simp at hn
      · have hne : xs ≠ [] := by rintro rfl; simp at h2; omega
        obtain ⟨b, off, cap', k', vals, hval, hk', hcap', hels, hone, hH, hR, _⟩ := hv.sl_cells hne
        rw [hxv] at hval
        simp only [Value.slice.injEq] at hval
        obtain ⟨rfl, _, rfl⟩ := hval
        obtain rfl : k' = k := by
          match xs, hne with
          | x0 :: xs, _ => exact (hels x0 List.mem_cons_self).symm.trans (hel x0 List.mem_cons_self)
        unfold sliced
        rw [if_neg (by omega), Option.map_some, Addr_add]
        have hsub : ∀ e ∈ (xs.take h.toNat).drop l.toNat, e.cells.length = k' := fun e he => hels e (List.mem_of_mem_take (List.mem_of_mem_drop he))
        have hfl : flat ((xs.take h.toNat).drop l.toNat) = ((flat xs).take (h.toNat * k')).drop (l.toNat * k') := by
          rw [(flat_drop_take h.toNat hels).2, (flat_drop_take l.toNat (fun e he => hels e (List.mem_of_mem_take he))).1]
        have hlen : ((xs.take h.toNat).drop l.toNat).length = h.toNat - l.toNat := by simp; omega
        refine .sl b _ _ _ k' (fun j => vals (l.toNat * k' + j)) _ .any hk' hlen.symm (by omega) hsub (fun c hc => ?_) (fun j hj => ?_) (fun j u hu => ?_) trivial
        · rw [hfl] at hc; exact hone c (List.mem_of_mem_take (List.mem_of_mem_drop hc))
        · rw [Nat.add_assoc]
          refine hH _ ?_
          have : l.toNat * k' + j < h.toNat * k' := by
            have e : h.toNat * k' = l.toNat * k' + (h.toNat - l.toNat) * k' := by rw [← Nat.add_mul]; congr 1; omega
            omega
          exact Nat.lt_of_lt_of_le this (Nat.mul_le_mul_right _ (by omega))
        · rw [hfl, List.getElem?_drop, List.getElem?_take] at hu
          split at hu
          · exact hR _ u hu
          · cases hu
    unfold SlKeep
    split
    · simp only [bnd, Option.some.injEq] at hl hhh
      subst hl; subst hhh
      have : (xs.take ((xs.length : Int)).toNat).drop ((0 : Nat) : Int).toNat = xs := by simp
      rw [this]
      have hsl : sliced ad ((0 : Nat) : Int).toNat ((xs.length : Nat) : Int).toNat cap k = xv := by
        rw [hxv]
        unfold sliced
        simp
        intro hc0
        cases ad with
        | none => rfl
        | some ad => simp [Addr.add]
      rw [hsl]; exact hv
    · exact hAny
  · rename_i l0 off n k' he
    rw [he] at hv
    split at hG
    case h_2 => exact hG.elim
    rename_i l h hl hhh
    obtain ⟨rfl, h0, h1, h2, h3, hK⟩ := hG
    have e1 := bnd_val hf hlo hl
    have e2 := bnd_val hf hhi hhh
    generalize hav : a.eval x = xv at hv
    cases hv with
    | msl l0 off n cap k hkk hcap =>
      have r := hrun _ n cap l h (by simpa using e1) e2 h0 h1 h2 hcap hav
      refine .same hh r ?_ hK
      unfold sliced
      rw [if_neg (by omega), Option.map_some, Addr_add]
      exact .msl _ _ _ _ _ hkk (by omega)
  · rename_i l0 n cap k' he
    rw [he] at hv
    split at hG
    case h_2 => exact hG.elim
    rename_i l h hl hhh
    obtain ⟨rfl, h0, h1, h2, h3, hK⟩ := hG
    have e1 := bnd_val hf hlo hl
    have e2 := bnd_val hf hhi hhh
    generalize hav : a.eval x = xv at hv
    cases hv with
    | mb l0 n cap k' hkk hcap =>
      have r := hrun _ n cap l h (by simpa using e1) e2 h0 h1 h2 hcap hav
      refine .same hh r ?_ hK
      cases lo with
      | none =>
        simp only [bnd, Option.some.injEq] at hl
        subst hl
        simp only [Option.isSome_none, mbCut, Bool.false_eq_true, if_false]
        have : sliced (some ⟨l0, 0, none⟩) ((0 : Nat) : Int).toNat h.toNat cap k' = .slice (some ⟨l0, 0, none⟩) h.toNat cap := by
          unfold sliced
          simp [Addr.add]
        rw [this]
        exact .mb _ _ _ _ hkk (by omega)
      | some lo =>
        simp only [Option.isSome_some, mbCut, if_true]
        have h3 := h3 rfl
        unfold sliced
        rw [if_neg (by omega), Option.map_some, Addr_add, Nat.zero_add]
        exact .msl _ _ _ _ _ hkk (by omega)
  · exact hG.elim
theorem s_slc0 (t : TypeId) (x : Operand) (kh km : IntKind) (ho : o.op = .slice t x none (some (.const (.int kh 0))) (some (.const (.int km 0)))) (e : TypeId) (hu : P.underlying t = some (.slice e)) (hin : (P.info? e).isSome) (hx : opOk x = true)
    (hf : FRel H a f) (hh : Holds H s w) (hG : G ⟨P, kp⟩ (.slc0 x) f s K) : GoalW P kp o a w H s K := by
  have hv := hf.ev x hx
  simp only [G] at hG
  split at hG
  case h_2 => exact hG.elim
  rename_i xs ow he
  rw [he] at hv
  generalize hav : a.eval x = xv at hv
  have hform : ∃ ad cap, xv = .slice ad xs.length cap := by
    cases hv with
    | slEmpty ad cap => exact ⟨ad, cap, rfl⟩
    | sl b off len cap k vals xs ow hk hlen hcap => subst hlen; exact ⟨_, cap, rfl⟩
  obtain ⟨ad, cap, hxv⟩ := hform
  obtain ⟨ii, hq⟩ := Option.isSome_iff_exists.1 hin
  subst hxv
  have hc : ∀ v, a.eval (.const v) = v := fun _ => rfl
  refine .same hh (v := .slice ad 0 0) ?_ (.slEmpty ad 0 .zero (fun _ => rfl) (show Own.okEmpty .zero ad 0 from rfl)) hG
  cases ad <;> simp [execOp, ho, hav, hc, Instr.sliceAt, Instr.slice, run_underlying hu, Instr.sliceBounds, run_sliceBound, sizeOf, typeInfo, hq, Addr.add]
theorem s_slcS (t : TypeId) (x : Operand) (lo hi : Option Operand) (ho : o.op = .slice t x lo hi none) (hu : P.underlying t = some .string) (hx : opOk x = true) (hlo : lo.all opOk = true) (hhi : hi.all opOk = true)
    (hf : FRel H a f) (hh : Holds H s w) (hG : G ⟨P, kp⟩ (.slcS x lo hi) f s K) : GoalW P kp o a w H s K := by
  have hv := hf.ev x hx
  simp only [G] at hG
  split at hG
  case h_2 => exact hG.elim
  rename_i b he
  rw [he] at hv
  split at hG
  case h_2 => exact hG.elim
  rename_i l h hl hhh
  obtain ⟨h0, h1, h2, hK⟩ := hG
  have hb := run_bounds (P := P) (a := a) false b.size b.size lo hi l h (by simpa using bnd_val hf hlo hl) (bnd_val hf hhi hhh) h0 h1 h2 (Nat.le_refl _) w
  simp only [valOf] at hb
  exact .same hh (v := .string (b.extract l.toNat h.toNat)) (by simp [execOp, ho, hv.ev_v, Instr.sliceAt, Instr.slice, run_underlying hu, hb]) (.v _ rfl) hK
theorem elemsOf_cells {k n : Nat} {cs : List AV} (hk : 0 < k) (hn : n * k ≤ cs.length) (hone : ∀ c ∈ cs, c.one = true) : (∀ e ∈ elemsOf k n cs, e.cells.length = k) ∧ flat (elemsOf k n cs) = cs.take (n * k) ∧ (elemsOf k n cs).length = n := by
  unfold elemsOf
  split
  · rename_i h1
    subst h1
    rw [Nat.mul_one] at hn ⊢
    have hc : ∀ e : AV, e.one = true → e.cells = [e] := fun e he => by cases e <;> first | rfl | (simp [AV.one] at he)
    refine ⟨fun e he => by rw [hc e (hone e (List.mem_of_mem_take he))]; rfl, ?_, by simp; omega⟩
    have : ∀ l : List AV, (∀ e ∈ l, e.one = true) → flat l = l := by
      intro l
      induction l with
      | nil => intro _; rfl
      | cons x l ih =>
        intro h
        simp only [flat, List.flatMap_cons] at ih ⊢
        rw [hc x (h x List.mem_cons_self), ih (fun e he => h e (List.mem_cons_of_mem _ he))]
        rfl
    exact this _ (fun e he => hone e (List.mem_of_mem_take he))
  · refine ⟨fun e he => ?_, ?_, by simp⟩
    · obtain ⟨i, hi, rfl⟩ := List.mem_map.1 he
      have hi' : i < n := List.mem_range.1 hi
      have : (i + 1) * k ≤ n * k := Nat.mul_le_mul_right _ hi'
      simp only [AV.cells, List.length_take, List.length_drop]
      rw [Nat.add_mul] at this
      omega
    · clear hn
      induction n with
      | zero => simp [flat]
      | succ n ih =>
        rw [List.range_succ, List.map_append]
        simp only [flat, List.flatMap_append, List.map_cons, List.map_nil, List.flatMap_cons, List.flatMap_nil, List.append_nil, AV.cells] at ih ⊢
        rw [ih, Nat.add_mul, Nat.one_mul, List.take_add]
theorem ro_set_self {l : Nat} {cs : List AV} (h : s l = some (.ro cs)) : s.set l (.ro cs) = s := by
  funext l'
  by_cases hl : l' = l
  · subst hl; rw [Hp.set_same, h]
  · rw [Hp.set_ne _ _ hl]
theorem Step.toRo {l : Nat} {cs : List AV} (hh : Holds H s w) (h : s.read l = some cs) : ∃ H', Step H s w H' (s.set l (.ro cs)) w := by
  unfold Hp.read at h
  split at h
  · rename_i c hc; obtain rfl := Option.some.inj h; exact Step.freeze hh hc
  · rename_i c hc; obtain rfl := Option.some.inj h; rw [ro_set_self hc]; exact ⟨H, .refl hh⟩
  · rename_i T c hc; obtain rfl := Option.some.inj h; exact Step.freezeT hh (.inr (.inl ⟨T, hc⟩))
  · rename_i c hc; obtain rfl := Option.some.inj h; exact Step.freezeT hh (.inr (.inr hc))
  · cases h
theorem s_slcA (t : TypeId) (x : Operand) (lo hi : Option Operand) (ho : o.op = .slice t x lo hi none) (n : Nat) (e : TypeId) (hu : P.underlying t = some (.array n e)) (k : Nat) (hk : (P.info? e).map (·.size) = some k) (h0k : 0 < k) (ro : Bool) (hx : opOk x = true) (hlo : lo.all opOk = true)
    (hhi : hi.all opOk = true) (hf : FRel H a f) (hh : Holds H s w) (hG : G ⟨P, kp⟩ (.slcA k n x lo hi ro) f s K) : GoalW P kp o a w H s K := by
  have hv := hf.ev x hx
  simp only [G] at hG
  split at hG
  case h_2 => exact hG.elim
  rename_i l off he
  rw [he] at hv
  split at hG
  case h_2 => exact hG.elim
  rename_i lb hb hl hhh
  obtain ⟨h0, h1, h2, hG⟩ := hG
  split at hG
  case h_2 => exact hG.elim
  rename_i cs hcs
  obtain ⟨hle, hG⟩ := hG
  have hval := hv.lt_of_ptr
  have hbb := run_bounds (P := P) (a := a) false n n lo hi lb hb (by simpa using bnd_val hf hlo hl) (bnd_val hf hhi hhh) h0 h1 h2 (Nat.le_refl _) w
  simp only [valOf] at hbb
  obtain ⟨hone, vs, T, fz, hblk, hr⟩ := hh.read hcs
  have hrun : (execOp a.eval o).run P w = .ok (.value (.slice (some (if n = lb.toNat then ⟨l, off, none⟩ else ⟨l, off + lb.toNat * k, none⟩)) (hb.toNat - lb.toNat) (n - lb.toNat))) w := by
    cases hq : P.info? e with
    | none => simp [hq] at hk
    | some ii =>
      have hs : ii.size = k := by simpa [hq] using hk
      simp [execOp, ho, hval, Instr.sliceAt, run_underlying hu, Instr.sureAddr, hbb, sizeOf, typeInfo, hq, hs, Addr_add]
  cases ro with
  | true =>
    simp only [if_true] at hG
    obtain ⟨H', hst⟩ := Step.toRo hh hcs
    refine .value hrun hst ?_ hG
    obtain ⟨_, vs', T', _, hblk', hr', hH'⟩ := hst.holds.ob l _ (Hp.set_same _ _ _)
    have hmul : hb.toNat * k ≤ n * k := Nat.mul_le_mul_right _ (by omega)
    have hsub : (hb.toNat - lb.toNat) * k + lb.toNat * k = hb.toNat * k := by rw [← Nat.add_mul]; congr 1; omega
    have hone2 : ∀ c ∈ cs.drop (off + lb.toNat * k), c.one = true := fun c hc => hone c (List.mem_of_mem_drop hc)
    obtain ⟨g1, g2, g3⟩ := elemsOf_cells (k := k) (n := hb.toNat - lb.toNat) (cs := cs.drop (off + lb.toNat * k)) h0k (by simp; omega) hone2
    by_cases hemp : lb.toNat = hb.toNat
    · have e : elemsOf k (hb.toNat - lb.toNat) (cs.drop (off + lb.toNat * k)) = [] := List.eq_nil_of_length_eq_zero (by rw [g3]; omega)
      rw [e, hemp, Nat.sub_self]
      exact .slEmpty _ _ _ (fun hn => by simp at hn) trivial
    · rw [if_neg (by omega)]
      refine .sl l _ _ _ k (fun j => vs'.getD (off + lb.toNat * k + j) undef) _ .any h0k g3.symm (by omega) g1 (fun c hc => ?_) (fun j hj => ?_) (fun j u hu => ?_) trivial
      · rw [g2] at hc; exact hone2 c (List.mem_of_mem_take hc)
      · refine hH' _ ?_
        have := hr'.1
        omega
      · rw [g2, List.getElem?_take] at hu
        split at hu
        · rw [List.getElem?_drop] at hu
          exact hr'.2 _ u hu
        · cases hu
  | false =>
    simp only [Bool.false_eq_true, if_false] at hG
    refine .same hh hrun ?_ hG.2
    rw [if_neg (by omega)]
    exact .msl _ _ _ _ _ h0k (by omega)
theorem foldl_put (xs : List Value) : ∀ (i off : Nat) (cells : Array Value), off + i + xs.length ≤ cells.size →
    (xs.zipIdx i).foldl (fun (cs : Array Value) (p : Value × Nat) => cs.setIfInBounds (off + p.2) p.1) cells = vput cells (off + i) xs := by
  induction xs with
  | nil => intro i off cells h; apply Array.ext'; simp [vput]
  | cons x xs ih =>
    intro i off cells h
    simp only [List.length_cons] at h
    rw [List.zipIdx_cons, List.foldl_cons, ih (i + 1) off _ (by simp; omega)]
    apply Array.ext'
    simp only [vput, List.toList_toArray, Array.toList_setIfInBounds, List.length_cons]
    have hlt : off + i < cells.toList.length := by simp; omega
    rw [List.set_eq_take_append_cons_drop, if_pos hlt]
    have hl : (cells.toList.take (off + i)).length = off + i := by simp only [List.length_take]; omega
    rw [show off + (i + 1) = (cells.toList.take (off + i)).length + 1 by omega, List.take_length_add_append]
    rw [show (cells.toList.take (off + i)).length + 1 + xs.length = (cells.toList.take (off + i)).length + (xs.length + 1) by omega, List.drop_length_add_append]
    simp only [List.take_succ_cons, List.take_zero, List.append_assoc, List.cons_append, List.nil_append, List.drop_succ_cons, List.drop_drop]
    rw [show off + i + 1 + xs.length = off + i + (xs.length + 1) by omega]
theorem fill_run (place : Nat → Option (Nat × Nat)) (H : PH) : ∀ (parts : List (Nat × Operand)) (res : List (Nat × Nat × Operand)) (vs : Array Value) (cs : List AV) (Kc : List AV → Prop),
    parts.length = res.length → (∀ (j : Nat) (p : Nat × Operand) (q : Nat × Nat × Operand), parts[j]? = some p → res[j]? = some q → place p.1 = some (q.1, q.2.1) ∧ p.2 = q.2.2 ∧ opOk p.2 = true ∧ 0 < q.2.1) → FRel H a f → RVA H vs cs → (∀ c ∈ cs, c.one = true) → fillG f cs res Kc →
    ∃ vs' cs', Instr.fill place vs (parts.map fun p => (p.1, a.eval p.2)) = some vs' ∧ RVA H vs' cs' ∧ (∀ c ∈ cs', c.one = true) ∧ Kc cs'
  | [], [], vs, cs, Kc, _, _, _, hr, hone, hG => ⟨vs, cs, rfl, hr, hone, hG⟩
  | (i, x) :: parts, (off, sz, y) :: res, vs, cs, Kc, hl, hp, hf, hr, hone, hG => by
    obtain ⟨p1, p2, p3, p4⟩ := hp 0 _ _ rfl rfl
    simp only at p1 p2 p3 p4
    subst p2
    obtain ⟨g1, g2, g3⟩ := hG
    obtain ⟨c1, c2⟩ := (hf.ev x p3).cells (by omega)
    have hsz : (a.eval x).cells.size = sz := by rw [c1.1, g1]
    obtain ⟨vs', cs', r1, r2, r3, r4⟩ := fill_run place H parts res (vput vs off (a.eval x).cells.toList) (putAt cs off (ev f x).cells) Kc (by simpa using hl) (fun j p q h1 h2 => hp (j + 1) p q (by simpa using h1) (by simpa using h2)) hf
      (hr.putAt c1 off (by omega)) (putAt_one hone c2 off) g3
    refine ⟨vs', cs', ?_, r2, r3, r4⟩
    simp only [List.map_cons, Instr.fill, p1]
    have hb : off + (a.eval x).cells.size ≤ vs.size := by have := hr.1; omega
    rw [if_neg (by simp; omega)]
    rw [show (a.eval x).cells.zipIdx.foldl (fun cs (c, j) => cs.setIfInBounds (off + j) c) vs = vput vs off (a.eval x).cells.toList by
      rw [← Array.foldl_toList, Array.toList_zipIdx]
      have := foldl_put (a.eval x).cells.toList 0 off vs (by simpa using hb)
      simpa using this]
    exact r1
theorem s_bld (t : TypeId) (parts : Array (Nat × Operand)) (ho : o.op = .build t parts) (place : Nat → Option (Nat × Nat)) (z : Array Value) (res : List (Nat × Nat × Operand))
    (hbuilt : ∀ vs : List (Nat × Value), P.built t vs = Instr.fill place z vs) (hone : ∀ x ∈ z.toList, x.oneCell' = true) (hl : parts.toList.length = res.length)
    (hp : ∀ (j : Nat) (p : Nat × Operand) (q : Nat × Nat × Operand), parts.toList[j]? = some p → res[j]? = some q → place p.1 = some (q.1, q.2.1) ∧ p.2 = q.2.2 ∧ opOk p.2 = true ∧ 0 < q.2.1)
    (hf : FRel H a f) (hh : Holds H s w) (hG : G ⟨P, kp⟩ (.bld (z.toList.map ofCell) res) f s K) : GoalW P kp o a w H s K := by
  obtain ⟨vs', cs', r1, r2, r3, r4⟩ := fill_run (a := a) place H parts.toList res z (z.toList.map ofCell) (fun cs => K (.agg cs) s) hl hp hf (RVA.ofCells H z hone) (fun c hc => by obtain ⟨x, _, rfl⟩ := List.mem_map.1 hc; exact ofCell_one x) hG
  have hb : P.built t (parts.map fun (i, x) => (i, a.eval x)).toList = some vs' := by rw [hbuilt, Array.toList_map]; exact r1
  exact .same hh (v := .agg vs') (by simp only [execOp, ho, Sem.run_bind, run_build w t _ _ hb]; rfl) (.agg _ _ r3 r2.1 r2.2) r4
theorem fill_all {k : Nat} (hk : 0 < k) : ∀ (xs : List Operand) (i : Nat) (vs : Array Value) (cs : List AV), (∀ x ∈ xs, opOk x = true) → FRel H a f → RVA H vs cs → (∀ c ∈ cs, c.one = true) → (∀ e ∈ xs.map (ev f), e.cells.length = k) → cs.length = (i + xs.length) * k →
    ∃ vs' cs', Instr.fill (fun i => some (i * k, k)) vs ((xs.zipIdx i).map fun p => (p.2, a.eval p.1)) = some vs' ∧ RVA H vs' cs' ∧ (∀ c ∈ cs', c.one = true) ∧ cs' = cs.take (i * k) ++ flat (xs.map (ev f))
  | [], i, vs, cs, _, _, hr, hone, _, hlen => ⟨vs, cs, rfl, hr, hone, by simp [flat]; rw [List.take_of_length_le (by simp at hlen; omega)]⟩
  | x :: xs, i, vs, cs, hok, hf, hr, hone, hel, hlen => by
    have h1 : (ev f x).cells.length = k := hel _ (by simp)
    obtain ⟨c1, c2⟩ := (hf.ev x (hok x (by simp))).cells (by omega)
    have hsz : (a.eval x).cells.size = k := by rw [c1.1, h1]
    simp only [List.length_cons] at hlen
    have hle : i * k + k ≤ cs.length := by rw [hlen, ← Nat.succ_mul]; exact Nat.mul_le_mul_right _ (by omega)
    obtain ⟨vs', cs', r1, r2, r3, r4⟩ := fill_all hk xs (i + 1) (vput vs (i * k) (a.eval x).cells.toList) (putAt cs (i * k) (ev f x).cells) (fun y hy => hok y (by simp [hy])) hf (hr.putAt c1 _ (by omega)) (putAt_one hone c2 _)
      (fun e he => hel e (by simp at he ⊢; exact .inr he)) (by rw [putAt_length _ _ _ (by omega), hlen]; congr 1; omega)
    refine ⟨vs', cs', ?_, r2, r3, ?_⟩
    · simp only [List.zipIdx_cons, List.map_cons, Instr.fill]
      have hb : i * k + (a.eval x).cells.size ≤ vs.size := by have := hr.1; omega
      rw [if_neg (by simp; omega)]
      rw [show (a.eval x).cells.zipIdx.foldl (fun cs (c, j) => cs.setIfInBounds (i * k + j) c) vs = vput vs (i * k) (a.eval x).cells.toList by
        rw [← Array.foldl_toList, Array.toList_zipIdx]
        have := foldl_put (a.eval x).cells.toList 0 (i * k) vs (by simpa using hb)
        simpa using this]
      exact r1
    · rw [r4]
      simp only [putAt, flat, List.map_cons, List.flatMap_cons]
      have hl2 : (cs.take (i * k) ++ (ev f x).cells).length = (i + 1) * k := by rw [Nat.add_mul]; simp; omega
      rw [← hl2, List.take_left, List.append_assoc]
theorem run_buildSlice (t : TypeId) (n : Nat) (parts : Array (Nat × Value)) (e : TypeId) (hu : P.underlying t = some (.slice e)) (i : TypeInfo) (hi : P.info? e = some i) (z : Value) (hz : i.zero = some z) (hn : n * i.size ≤ 2 ^ 24) (zc : Array Value) (hzc : zc = if n * i.size = 0 then #[] else z.cells)
    (cells : Array Value) (hfill : Instr.fill (fun j => some (j * i.size, i.size)) ((Array.range (n * i.size)).map (fun j => zc[j % zc.size]!)) parts.toList = some cells) (w : World) :
    (Instr.buildSlice t n parts).run P w = .ok (.slice (some ⟨w.heap.size, 0, none⟩) n n) (w.alloc (.cells cells e)) := by
  have h24 : ¬ (n * i.size > 2 ^ 24) := by omega
  have hsz : (sizeOf e).run P w = .ok i.size w := by simp [sizeOf, typeInfo, hi]
  have hzv : (zeroValue e).run P w = .ok z w := by simp [zeroValue, typeInfo, hi, hz]
  unfold Instr.buildSlice
  simp only [Sem.run_bind, run_underlying hu, Result.andThen_ok, hsz]
  rw [if_neg h24]
  by_cases h0 : n * i.size = 0
  · rw [if_pos h0] at hzc
    subst hzc
    simp only [h0, if_true, Sem.run_pure, Result.andThen_ok]
    rw [h0] at hfill
    rw [Sem.run_bind]
    simp only [Sem.run_pure, Result.andThen_ok, hfill]
    rfl
  · rw [if_neg h0] at hzc
    subst hzc
    simp only [h0, if_false]
    rw [Sem.run_bind]
    simp only [hzv, Result.andThen_ok]
    rw [Sem.run_bind]
    simp only [Sem.run_pure, Result.andThen_ok, hfill]
    rfl
theorem s_bsl (t : TypeId) (n : Nat) (parts : Array (Nat × Operand)) (ho : o.op = .buildSlice t n parts) (e : TypeId) (hu : P.underlying t = some (.slice e)) (i : TypeInfo) (hi : P.info? e = some i) (z : Value) (hz : i.zero = some z) (hzs : z.cells.size = i.size) (hzone : ∀ x ∈ z.cells.toList, x.oneCell' = true)
    (hk : 0 < i.size) (hn : n * i.size ≤ 2 ^ 24) (xs : List Operand) (hparts : parts.toList = (xs.zipIdx 0).map fun p => (p.2, p.1)) (hxs : xs.length = n) (hok : ∀ x ∈ xs, opOk x = true)
    (hf : FRel H a f) (hh : Holds H s w) (hG : G ⟨P, kp⟩ (.bsl i.size xs) f s K) : GoalW P kp o a w H s K := by
  simp only [G] at hG
  obtain ⟨hel, hG⟩ := hG
  let zc : Array Value := if n * i.size = 0 then #[] else z.cells
  let base : Array Value := (Array.range (n * i.size)).map (fun j => zc[j % zc.size]!)
  have hbase : ∀ x ∈ base.toList, x.oneCell' = true := by
    intro x hx
    by_cases h0 : n * i.size = 0
    · simp [base, h0] at hx
    · have hzc : zc = z.cells := if_neg h0
      simp only [base, Array.toList_map, List.mem_map] at hx
      obtain ⟨j, _, rfl⟩ := hx
      rw [hzc]
      have hlt : j % z.cells.size < z.cells.size := Nat.mod_lt _ (by omega)
      rw [getElem!_pos z.cells _ hlt]
      exact hzone _ (by simp)
  have hbs : base.size = n * i.size := by simp [base]
  obtain ⟨vs', cs', r1, r2, r3, r4⟩ := fill_all (a := a) (f := f) (H := H) hk xs 0 base (base.toList.map ofCell) hok hf (RVA.ofCells H base hbase) (fun c hc => by obtain ⟨x, _, rfl⟩ := List.mem_map.1 hc; exact ofCell_one x) hel (by simp [hbs, hxs])
  simp only [Nat.zero_mul, List.take_zero, List.nil_append] at r4
  have hpm : (parts.map fun (j, x) => (j, a.eval x)).toList = (xs.zipIdx 0).map fun p => (p.2, a.eval p.1) := by
    rw [Array.toList_map, hparts, List.map_map]; rfl
  have hrun : (execOp a.eval o).run P w = .ok (.value (.slice (some ⟨w.heap.size, 0, none⟩) n n)) (w.alloc (.cells vs' e)) := by
    have := run_buildSlice (P := P) t n (parts.map fun (j, x) => (j, a.eval x)) e hu i hi z hz hn zc rfl vs' (by rw [hpm]; exact r1) w
    simp only [execOp, ho, Sem.run_bind, this]
    rfl
  by_cases h0 : xs.length = 0
  · rw [if_pos h0] at hG
    have hn0 : n = 0 := by omega
    subst hn0
    refine .value hrun (H' := H.ext w.heap.size 0 vs') (s' := s) ?_ (.slEmpty _ _ .zero (fun h => by simp at h) rfl) hG
    have st := Step.write (w' := w.alloc (.cells vs' e)) hh w.heap.size 0 vs' e s rfl rfl rfl (by simp) (heap_alloc_new w _) (fun b _ hb => heap_alloc_ne w _ b hb) (.inl rfl)
      (Nat.zero_le _) (fun o v hv => by rw [hh.newNone] at hv; cases hv) (fun l o hl hs => hs)
      (fun o ho => by rw [hh.newS] at ho; cases ho)
    exact st
  · rw [if_neg h0] at hG
    have hvs : vs'.size = n * i.size := by rw [r2.1, r4, flat_length hel]; simp [hxs]
    have st := Step.write (w' := w.alloc (.cells vs' e)) hh w.heap.size (n * i.size) vs' e (s.set w.heap.size (.buf i.size xs.length xs.length)) rfl rfl rfl (by simp) (heap_alloc_new w _) (fun b _ hb => heap_alloc_ne w _ b hb) (.inl rfl)
      (by omega) (fun o v hv => by rw [hh.newNone] at hv; cases hv) (fun l o hl hs => by rw [Hp.set_ne _ _ hl] at hs; exact hs)
      (fun o ho => by
        rw [Hp.set_same] at ho; obtain rfl := Option.some.inj ho
        refine ⟨hk, Nat.le_refl _, ?_, vs', e, heap_alloc_new w _, by rw [hvs, hxs], fun o ho => ?_⟩
        · have : xs.length * 1 ≤ n * i.size := by rw [hxs]; exact Nat.mul_le_mul_left _ hk
          unfold maxLen; omega
        · rw [PH.ext_out _ _ _ _ (by rw [hxs] at ho; omega)]; exact hh.newNone o)
    refine .value hrun st ?_ (hG _ hh.newS)
    refine .sl _ _ _ _ i.size (fun j => vs'.getD j undef) _ _ hk (by simp [hxs]) (by omega) hel (fun c hc => r3 c (by rw [r4]; exact hc)) (fun j hj => ?_) (fun j u hu => ?_) ⟨rfl, rfl, by omega⟩
    · rw [Nat.zero_add, PH.ext_at _ _ _ _ (by omega)]
      simp [show j < vs'.size by omega]
    · exact ((r2.2 j u (by rw [r4]; exact hu))).mono st.le
theorem s_bslM (t : TypeId) (n : Nat) (parts : Array (Nat × Operand)) (ho : o.op = .buildSlice t n parts) (e : TypeId) (hu : P.underlying t = some (.slice e)) (i : TypeInfo) (hi : P.info? e = some i) (z : Value) (hz : i.zero = some z) (hzs : z.cells.size = i.size) (hzone : ∀ x ∈ z.cells.toList, x.oneCell' = true)
    (hk : 0 < i.size) (hn : n * i.size ≤ 2 ^ 24) (xs : List Operand) (hparts : parts.toList = (xs.zipIdx 0).map fun p => (p.2, p.1)) (hxs : xs.length = n) (hok : ∀ x ∈ xs, opOk x = true)
    (hf : FRel H a f) (hh : Holds H s w) (hG : G ⟨P, kp⟩ (.bslM i.size xs) f s K) : GoalW P kp o a w H s K := by
  simp only [G] at hG
  obtain ⟨hel, hG⟩ := hG
  by_cases h0 : xs.length = 0
  · rw [if_pos h0] at hG
    refine s_bsl t n parts ho e hu i hi z hz hzs hzone hk hn xs hparts hxs hok hf hh ?_
    simp only [G]
    exact ⟨hel, by rw [if_pos h0]; exact hG⟩
  rw [if_neg h0] at hG
  let zc : Array Value := if n * i.size = 0 then #[] else z.cells
  let base : Array Value := (Array.range (n * i.size)).map (fun j => zc[j % zc.size]!)
  have hbase : ∀ x ∈ base.toList, x.oneCell' = true := by
    intro x hx
    by_cases h0 : n * i.size = 0
    · simp [base, h0] at hx
    · have hzc : zc = z.cells := if_neg h0
      simp only [base, Array.toList_map, List.mem_map] at hx
      obtain ⟨j, _, rfl⟩ := hx
      rw [hzc]
      have hlt : j % z.cells.size < z.cells.size := Nat.mod_lt _ (by omega)
      rw [getElem!_pos z.cells _ hlt]
      exact hzone _ (by simp)
  have hbs : base.size = n * i.size := by simp [base]
  obtain ⟨vs', cs', r1, r2, r3, r4⟩ := fill_all (a := a) (f := f) (H := H) hk xs 0 base (base.toList.map ofCell) hok hf (RVA.ofCells H base hbase) (fun c hc => by obtain ⟨x, _, rfl⟩ := List.mem_map.1 hc; exact ofCell_one x) hel (by simp [hbs, hxs])
  simp only [Nat.zero_mul, List.take_zero, List.nil_append] at r4
  have hpm : (parts.map fun (j, x) => (j, a.eval x)).toList = (xs.zipIdx 0).map fun p => (p.2, a.eval p.1) := by
    rw [Array.toList_map, hparts, List.map_map]; rfl
  have hrun : (execOp a.eval o).run P w = .ok (.value (.slice (some ⟨w.heap.size, 0, none⟩) n n)) (w.alloc (.cells vs' e)) := by
    have := run_buildSlice (P := P) t n (parts.map fun (j, x) => (j, a.eval x)) e hu i hi z hz hn zc rfl vs' (by rw [hpm]; exact r1) w
    simp only [execOp, ho, Sem.run_bind, this]
    rfl
  subst hxs
  refine .value hrun (Step.new hh vs' e _ (fun c hc => ?_) ?_) (.mb _ _ _ _ hk (Nat.le_refl _)) (hG _ hh.newS)
  · exact r3 c (by rw [r4]; exact hc)
  · rw [← r4]; exact r2
end
end Go.Av
namespace Go.Av
open Go
section
variable {P : Program} {kp : AV → Hp → Prop} {o : Oper} {a : Act} {w : World} {H : PH} {s : Hp} {K : AV → Hp → Prop} {f : Fr}
theorem RV.src {x : Value} {ys : List AV} {ow : Own} (h : RV H x (.sl ys ow)) (hh : Holds H s w) {k : Nat} (hel : ∀ e ∈ ys, e.cells.length = k) (P : Program) :
    ∃ news : List Value, Src P w k ys.length x news ∧ news.length = (flat ys).length ∧ (∀ j u, (flat ys)[j]? = some u → RV H (news.getD j Go.undef) u) ∧ (∀ c ∈ flat ys, c.one = true) := by
  cases h with
  | slEmpty ad cap ow ha ho =>
    refine ⟨[], ⟨rfl, ?_, ?_, by simp⟩, rfl, fun j u hu => by simp [flat] at hu, fun c hc => by simp [flat] at hc⟩
    · cases ad <;> simp [Builtin.firstCells, loadCells, loadCellsFrom]
    · cases ad <;> simp [Builtin.firstCells, loadCells, loadCellsFrom]
  | sl b off len cap k' vals xs ow hk hlen hcap hel' hone hH hR ho =>
    subst hlen
    cases hys : ys with
    | nil =>
      subst hys
      refine ⟨[], ⟨rfl, ?_, ?_, by simp⟩, rfl, fun j u hu => by simp [flat] at hu, fun c hc => by simp [flat] at hc⟩ <;> simp [Builtin.firstCells, loadCells, loadCellsFrom]
    | cons y0 ys0 =>
      rw [← hys]
      have hkk : k' = k := (hel' y0 (by simp [hys])).symm.trans (hel y0 (by simp [hys]))
      subst hkk
      have hlen : (flat ys).length = ys.length * k' := flat_length hel
      have hc : ∀ (w' : World), (∀ ad, w'.cell? ad = w.cell? ad) → (Builtin.firstCells k' ys.length (.slice (some ⟨b, off, none⟩) ys.length cap)).run P w' = .ok ((List.range (ys.length * k')).map vals).toArray w' := fun w' hw => by
        refine run_firstCells_some w' k' ys.length ⟨b, off, none⟩ ys.length cap _ (by simp) (fun j v hv => ?_)
        have hj : j < ys.length * k' := by have := (List.getElem?_eq_some_iff.1 hv).1; simpa using this
        rw [List.getElem?_map, List.getElem?_range hj] at hv
        obtain rfl : vals j = v := by simpa using hv
        rw [hw, Addr_add]
        exact hh.ro _ _ _ (hH j hj)
      refine ⟨(List.range (ys.length * k')).map vals, ⟨rfl, hc w (fun _ => rfl), hc w.drew (fun _ => rfl), by simp⟩, by simp [hlen], fun j u hu => ?_, hone⟩
      have hj : j < ys.length * k' := by rw [← hlen]; exact (List.getElem?_eq_some_iff.1 hu).1
      have := hR j u hu
      simpa [List.getD, hj] using this
theorem flat_append (xs ys : List AV) : flat (xs ++ ys) = flat xs ++ flat ys := by simp [flat]
theorem exec_append (x y : Operand) (t xt : TypeId) (ho : o.op = .call { callee := .builtin .append, args := #[x, y], argTypes := #[t, xt] }) {v : Value} {w' : World}
    (h : (Builtin.append_ #[t, xt] o.type #[a.eval x, a.eval y]).run P w = .ok v w') : (execOp a.eval o).run P w = .ok (.value v) w' := by
  simp [execOp, ho, resolve, invoke, builtin, h]
theorem s_app (x y : Operand) (t : TypeId) (ho : o.op = .call { callee := .builtin .append, args := #[x, y], argTypes := #[t, t] }) (e : TypeId) (hu : P.underlying t = some (.slice e)) (i : TypeInfo) (hi : P.info? e = some i) (z : Value) (hz : i.zero = some z)
    (hzs : z.cells.size = i.size) (hk : 0 < i.size) (hx : opOk x = true) (hy : opOk y = true) (hf : FRel H a f) (hh : Holds H s w) (hG : G ⟨P, kp⟩ (.app i.size i.bytes x y) f s K) : GoalW P kp o a w H s K := by
  have hv := hf.ev x hx
  have hvy := hf.ev y hy
  simp only [G] at hG
  split at hG
  case h_2 => exact hG.elim
  rename_i xs ow ys ow' he hey
  rw [he] at hv; rw [hey] at hvy
  obtain ⟨hexs, hel, hby, h63, hG⟩ := hG
  obtain ⟨news, hsrc, hnl, hnr, hnone⟩ := hvy.src hh hel P
  have hn1 : ∀ u ∈ news, u.oneCell' = true := fun u hu => by
    obtain ⟨j, hj⟩ := List.getElem?_of_mem hu
    have hlt : j < (flat ys).length := by rw [← hnl]; exact (List.getElem?_eq_some_iff.1 hj).1
    have := hnr j _ (List.getElem?_eq_getElem hlt)
    rw [List.getD_eq_getElem?_getD, hj] at this
    exact this.oneCell (hnone _ (List.getElem_mem hlt))
  have hnlen : news.length = ys.length * i.size := hsrc.size
  generalize hav : a.eval x = xv at hv
  -- a new row: what was there, what comes, zeros
  have newRow : ∀ (olds : List Value) (n cap : Nat) (xs' : List AV), xs'.length = n → olds.length = n * i.size → (∀ e ∈ xs', e.cells.length = i.size) → (∀ j u, (flat xs')[j]? = some u → RV H (olds.getD j undef) u) → (∀ c ∈ flat xs', c.one = true) →
      n + ys.length ≤ cap → cap ≤ maxLen → ∀ s1 : Hp, s1.sub s → 
      let vs := olds.toArray ++ news.toArray ++ Builtin.zeroCells z.cells (cap - (n + ys.length))
      ∃ H', Step H s w H' (s1.set w.heap.size (.buf i.size (n + ys.length) cap)) (w.drew.alloc (.cells vs e)) ∧ RV H' (.slice (some ⟨w.heap.size, 0, none⟩) (n + ys.length) cap) (.sl (xs' ++ ys) (.buf w.heap.size cap)) := by
    intro olds n cap xs' hxl hol hxe hxr hxo hcap hmax s1 hs1 vs
    have hvs : vs.size = cap * i.size := by
      simp only [vs, Array.size_append, List.size_toArray, size_zeroCells, hzs, hol, hnlen, ← Nat.add_mul]
      congr 1; omega
    have hvl : vs.toList = olds ++ news ++ (Builtin.zeroCells z.cells (cap - (n + ys.length))).toList := by simp [vs]
    have hlen : (flat (xs' ++ ys)).length = (n + ys.length) * i.size := by rw [flat_length (k := i.size)]; (simp [hxl]); (intro e he; rcases List.mem_append.1 he with h | h; exact hxe e h; exact hel e h)
    have hread : ∀ j u, (flat (xs' ++ ys))[j]? = some u → RV H (vs.getD j undef) u := fun j u hu => by
      rw [flat_append] at hu
      have hfx : (flat xs').length = n * i.size := by rw [flat_length hxe, hxl]
      rw [Array.getD_eq_getD_getElem?, ← Array.getElem?_toList, hvl]
      by_cases hj : j < n * i.size
      · rw [List.getElem?_append_left (by omega)] at hu
        rw [List.append_assoc, List.getElem?_append_left (by omega)]
        have := hxr j u hu
        rwa [List.getD_eq_getElem?_getD] at this
      · rw [List.getElem?_append_right (by omega), hfx] at hu
        have hjy : j - n * i.size < news.length := by rw [hnl]; exact (List.getElem?_eq_some_iff.1 hu).1
        rw [List.append_assoc, List.getElem?_append_right (by omega), hol, List.getElem?_append_left hjy]
        have := hnr _ u hu
        rwa [List.getD_eq_getElem?_getD] at this
    have hmul : (n + ys.length) * i.size ≤ cap * i.size := Nat.mul_le_mul_right _ hcap
    have hd := hh.drew
    have st := Step.write (w' := w.drew.alloc (.cells vs e)) hd w.heap.size ((n + ys.length) * i.size) vs e (s1.set w.heap.size (.buf i.size (n + ys.length) cap)) rfl rfl rfl (by simp) (heap_alloc_new w.drew _) (fun b _ hb => heap_alloc_ne w.drew _ b hb) (.inl rfl)
      (by omega) (fun o v hv => by rw [hh.newNone] at hv; cases hv) (fun l o hl hs => by rw [Hp.set_ne _ _ hl] at hs; exact hs1 l o hs)
      (fun o ho => by
        rw [Hp.set_same] at ho; obtain rfl := Option.some.inj ho
        refine ⟨hk, hcap, hmax, vs, e, heap_alloc_new w.drew _, hvs, fun o ho => ?_⟩
        rw [PH.ext_out _ _ _ _ (by omega)]; exact hh.newNone o)
    refine ⟨_, (Step.drew hh).trans st, ?_⟩
    refine .sl _ _ _ _ i.size (fun j => vs.getD j undef) _ _ hk (by simp [hxl]) hcap (fun e he => by rcases List.mem_append.1 he with h | h; exact hxe e h; exact hel e h) (fun c hc => by
      rw [flat_append] at hc
      rcases List.mem_append.1 hc with h | h
      · exact hxo c h
      · exact hnone c h) (fun j hj => ?_) (fun j u hu => (hread j u hu).mono st.le) ⟨rfl, rfl, rfl⟩
    rw [Nat.zero_add, PH.ext_at _ _ _ _ hj]
    simp [show j < vs.size by omega]
  cases ow with
  | any => exact hG.elim
  | nil =>
    obtain ⟨rfl, hG⟩ := hG
    have hxv : xv = .slice none 0 0 := by
      cases hv with
      | slEmpty ad cap ow ha ho => simp only [Own.okEmpty] at ho; subst ho; rw [ha rfl]
      | sl b off len cap k vals xs ow hk hlen hcap hel hone hH hR ho => exact ho.elim
    subst hxv
    by_cases hy0 : ys = []
    · subst hy0
      rw [if_pos rfl] at hG
      have hnn : news = [] := List.eq_nil_of_length_eq_zero (by simpa using hnlen)
      refine .same hh (exec_append x y t t ho (v := .slice none 0 0) (w' := w) ?_) (.slEmpty _ _ .nil (fun _ => rfl) rfl) hG
      rw [hav]
      have h1 := hsrc.len; have h2 := hsrc.cells
      simp only [List.length_nil] at h1 h2
      simp [Builtin.append_, run_underlying hu, sizeOf, typeInfo, hi, h1, h2]
    · rw [if_neg hy0] at hG
      have hpos : 0 < ys.length := List.length_pos_iff.2 hy0
      have hr := run_app_grow (P := P) w t t o.type e i z hu _ hu (.inl ⟨e, rfl⟩) hi hz none 0 0 [] (by simp) (by simp [Builtin.firstCells]) ys.length (a.eval y) news hsrc (by omega) (by simp only [List.length_nil] at h63; omega) (by simpa using hby)
      simp only [Nat.zero_add] at hr
      have hge := grownCap_ge w ys.length 0 e
      have hle := grownCap_le_maxLen w ys.length 0 e (by unfold maxLen; simp only [List.length_nil] at h63; omega)
      obtain ⟨H', st, rv⟩ := newRow [] 0 (grownCap w ys.length 0 e) [] rfl (by simp) (fun e he => by simp at he) (fun j u hu => by simp [flat] at hu) (fun c hc => by simp [flat] at hc) (by omega) hle s (fun _ _ h => h)
      simp only [Nat.zero_add, List.nil_append] at st rv
      refine .value (exec_append x y t t ho (by rw [hav]; exact hr)) st rv (hG _ _ hh.newS)
  | zero =>
    obtain ⟨rfl, hG⟩ := hG
    have hxv : ∃ ad, xv = .slice ad 0 0 := by
      cases hv with
      | slEmpty ad cap ow ha ho => simp only [Own.okEmpty] at ho; subst ho; exact ⟨ad, rfl⟩
      | sl b off len cap k vals xs ow hk hlen hcap hel hone hH hR ho => exact ho.elim
    obtain ⟨ad, rfl⟩ := hxv
    by_cases hy0 : ys = []
    · subst hy0
      rw [if_pos rfl] at hG
      have hnn : news = [] := List.eq_nil_of_length_eq_zero (by simpa using hnlen)
      refine .same hh (exec_append x y t t ho (v := .slice ad 0 0) (w' := w) ?_) (.slEmpty _ _ .zero (fun _ => rfl) rfl) hG
      rw [hav]
      have h1 := hsrc.len; have h2 := hsrc.cells
      simp only [List.length_nil] at h1 h2
      subst hnn
      cases ad <;> simp [Builtin.append_, run_underlying hu, sizeOf, typeInfo, hi, h1, h2, storeCells]
    · rw [if_neg hy0] at hG
      have hpos : 0 < ys.length := List.length_pos_iff.2 hy0
      have hr := run_app_grow (P := P) w t t o.type e i z hu _ hu (.inl ⟨e, rfl⟩) hi hz ad 0 0 [] (by simp) (by cases ad <;> simp [Builtin.firstCells, loadCells, loadCellsFrom]) ys.length (a.eval y) news hsrc (by omega) (by simp only [List.length_nil] at h63; omega) (by simpa using hby)
      simp only [Nat.zero_add] at hr
      have hge := grownCap_ge w ys.length 0 e
      have hle := grownCap_le_maxLen w ys.length 0 e (by unfold maxLen; simp only [List.length_nil] at h63; omega)
      obtain ⟨H', st, rv⟩ := newRow [] 0 (grownCap w ys.length 0 e) [] rfl (by simp) (fun e he => by simp at he) (fun j u hu => by simp [flat] at hu) (fun c hc => by simp [flat] at hc) (by omega) hle s (fun _ _ h => h)
      simp only [Nat.zero_add, List.nil_append] at st rv
      refine .value (exec_append x y t t ho (by rw [hav]; exact hr)) st rv (hG _ _ hh.newS)
  | buf g c =>
    obtain ⟨hsg, hG⟩ := hG
    obtain ⟨_, hnc, hcm, cur, T, hblk, hcs, hHn⟩ := hh.ob g _ hsg
    cases hv with
    | slEmpty ad cap ow ha ho => exact ho.elim
    | sl b off len cap k vals xs ow hk' hlen hcap hxe hxo hH hR ho =>
      obtain ⟨rfl, rfl, rfl⟩ := ho
      subst hlen
      have hkk : xs.length * k = xs.length * i.size := by
        cases hxs : xs with
        | nil => simp
        | cons x0 r =>
          have : k = i.size := (hxe x0 (by simp [hxs])).symm.trans (hexs x0 (by simp [hxs]))
          rw [this]
      have hH' : ∀ j, j < xs.length * i.size → H g j = some (vals j) := fun j hj => by
        have := hH j (by rw [hkk]; exact hj)
        rwa [Nat.zero_add] at this
      have hcell : ∀ j, j < xs.length * i.size → cur[j]? = some (vals j) := fun j hj => by
        have := hh.ro _ _ _ (hH' j hj)
        rw [cell_of_row w g j cur T _ hblk] at this
        exact this
      have hcur : xs.length * i.size ≤ cur.size := by rw [hcs]; exact Nat.mul_le_mul_right _ hnc
      by_cases hroom : xs.length + ys.length ≤ c
      · -- there is room
        have hfit : xs.length * i.size + news.length ≤ cur.size := by rw [hnlen, hcs, ← Nat.add_mul]; exact Nat.mul_le_mul_right _ hroom
        have hr := run_app_room (P := P) w t t o.type e i hu _ hu (.inl ⟨e, rfl⟩) hi g xs.length c cur T _ hblk (free0 _) ys.length (a.eval y) news hsrc hn1 hroom hfit
        have hvs : (vput cur (xs.length * i.size) news).size = cur.size := by simp [vput]; omega
        have hvl : (vput cur (xs.length * i.size) news).toList = cur.toList.take (xs.length * i.size) ++ news ++ cur.toList.drop (xs.length * i.size + news.length) := by simp [vput]
        have hkeep : ∀ j, j < xs.length * i.size → (vput cur (xs.length * i.size) news)[j]? = some (vals j) := fun j hj => by
          rw [← Array.getElem?_toList, hvl, List.append_assoc, List.getElem?_append_left (by simp; omega), List.getElem?_take_of_lt hj, Array.getElem?_toList]
          exact hcell j hj
        have hfx : (flat xs).length = xs.length * i.size := flat_length hexs
        have st := Step.write (w' := w.setRow g (vput cur (xs.length * i.size) news)) hh g ((xs.length + ys.length) * i.size) (vput cur (xs.length * i.size) news) T ((s.del g).set g (.buf i.size (xs.length + ys.length) c)) rfl rfl rfl (by simp) (setRow_heap w g cur _ T _ hblk)
          (fun b _ hb => setRow_other w g b _ hb) (.inr (by simp [hsg])) (by rw [hvs, Nat.add_mul, ← hnlen]; exact hfit)
          (fun o v hv => by
            have hlt : o < xs.length * i.size := by
              rcases Nat.lt_or_ge o (xs.length * i.size) with h | h
              · exact h
              · rw [hHn o h] at hv; cases hv
            rw [hkeep o hlt, ← hH' o hlt]; exact hv)
          (fun l o hl hs => by rw [Hp.set_ne _ _ hl, Hp.del_ne _ hl] at hs; exact hs)
          (fun o ho => by
            rw [Hp.set_same] at ho; obtain rfl := Option.some.inj ho
            refine ⟨hk, hroom, hcm, _, T, setRow_heap w g cur _ T _ hblk, by rw [hvs, hcs], fun o ho => ?_⟩
            rw [PH.ext_out _ _ _ _ (by omega)]
            refine hHn o (Nat.le_trans ?_ ho)
            exact Nat.mul_le_mul_right _ (by omega))
        refine .value (exec_append x y t t ho (by rw [hav]; exact hr)) st ?_ (hG g c (.inl rfl))
        refine .sl _ _ _ _ i.size (fun j => (vput cur (xs.length * i.size) news).getD j undef) _ _ hk (by simp) hroom (fun e he => by rcases List.mem_append.1 he with h | h; exact hexs e h; exact hel e h) (fun c hc => by
          rw [flat_append] at hc
          rcases List.mem_append.1 hc with h | h
          · exact hxo c h
          · exact hnone c h) (fun j hj => ?_) (fun j u hu => ?_) ⟨rfl, rfl, rfl⟩
        · rw [Nat.zero_add, PH.ext_at _ _ _ _ hj]
          have : j < (vput cur (xs.length * i.size) news).size := by rw [hvs]; rw [Nat.add_mul, ← hnlen] at hj; omega
          simp [this]
        · refine RV.mono st.le ?_
          rw [flat_append] at hu
          by_cases hj : j < xs.length * i.size
          · rw [List.getElem?_append_left (by omega)] at hu
            rw [Array.getD_eq_getD_getElem?, hkeep j hj]
            exact hR j u hu
          · rw [List.getElem?_append_right (by omega), hfx] at hu
            have hjy : j - xs.length * i.size < news.length := by rw [hnl]; exact (List.getElem?_eq_some_iff.1 hu).1
            have htk : (cur.toList.take (xs.length * i.size)).length = xs.length * i.size := by simp; omega
            rw [Array.getD_eq_getD_getElem?, ← Array.getElem?_toList, hvl, List.append_assoc, List.getElem?_append_right (by omega), htk, List.getElem?_append_left hjy]
            have := hnr _ u hu
            rwa [List.getD_eq_getElem?_getD] at this
      · -- it moves
        have hol : ((List.range (xs.length * i.size)).map vals).length = xs.length * i.size := by simp
        have hfc : (Builtin.firstCells i.size xs.length (.slice (some ⟨g, 0, none⟩) xs.length c)).run P w.drew = .ok ((List.range (xs.length * i.size)).map vals).toArray w.drew := by
          refine run_firstCells_some w.drew i.size xs.length ⟨g, 0, none⟩ xs.length c _ hol (fun j v hv => ?_)
          have hj : j < xs.length * i.size := by have := (List.getElem?_eq_some_iff.1 hv).1; simpa using this
          rw [List.getElem?_map, List.getElem?_range hj] at hv
          obtain rfl : vals j = v := by simpa using hv
          rw [Addr_add, Nat.zero_add]
          exact hh.ro _ _ _ (hH' j hj)
        have hr := run_app_grow (P := P) w t t o.type e i z hu _ hu (.inl ⟨e, rfl⟩) hi hz (some ⟨g, 0, none⟩) xs.length c _ hol hfc ys.length (a.eval y) news hsrc (by omega) (by omega) hby
        have hge := grownCap_ge w (xs.length + ys.length) c e
        have hle := grownCap_le_maxLen w (xs.length + ys.length) c e (by unfold maxLen; omega)
        obtain ⟨H', st, rv⟩ := newRow ((List.range (xs.length * i.size)).map vals) xs.length (grownCap w (xs.length + ys.length) c e) xs rfl hol hexs (fun j u hu => by
            have hj : j < xs.length * i.size := by rw [← flat_length hexs]; exact (List.getElem?_eq_some_iff.1 hu).1
            have := hR j u hu
            simpa [List.getD, hj] using this) hxo hge hle (s.del g) (fun l o hl => by
            by_cases hlg : l = g
            · subst hlg; rw [Hp.del_same] at hl; cases hl
            · rw [Hp.del_ne _ hlg] at hl; exact hl)
        exact .value (exec_append x y t t ho (by rw [hav]; exact hr)) st rv (hG _ _ (.inr hh.newS))
theorem srcF_src {yv : Value} {y : AV} (hv : RV H yv y) (hh : Holds H s w) {k m : Nat} {ys : List AV} (h : srcF s k y = some (m, ys)) (P : Program) :
    ∃ news : List Value, Src P w k m yv news ∧ news.length = ys.length ∧ (∀ j u, ys[j]? = some u → RV H (news.getD j Go.undef) u) ∧ (∀ c ∈ ys, c.one = true) := by
  have obj : ∀ (l off n cap : Nat) (cs : List AV), s.read l = some cs → off + n * k ≤ cs.length →
      ∃ news : List Value, Src P w k n (.slice (some ⟨l, off, none⟩) n cap) news ∧ news.length = ((cs.drop off).take (n * k)).length ∧ (∀ j u, ((cs.drop off).take (n * k))[j]? = some u → RV H (news.getD j Go.undef) u) ∧ (∀ c ∈ (cs.drop off).take (n * k), c.one = true) := by
    intro l off n cap cs hcs hle
    obtain ⟨hone, vs, T, fz, hb, hr⟩ := hh.read hcs
    have hsz : vs.size = cs.length := hr.1
    have hlen : ((vs.toList.drop off).take (n * k)).length = n * k := by simp; omega
    have hcell : ∀ (w' : World), (∀ ad, w'.cell? ad = w.cell? ad) → (Builtin.firstCells k n (.slice (some ⟨l, off, none⟩) n cap)).run P w' = .ok ((vs.toList.drop off).take (n * k)).toArray w' := fun w' hw => by
      refine run_firstCells_some w' k n ⟨l, off, none⟩ n cap _ hlen (fun j v hv => ?_)
      have hj : j < n * k := by have := (List.getElem?_eq_some_iff.1 hv).1; omega
      rw [hw, Addr_add, cell_of_row w l (off + j) vs T _ hb]
      rw [List.getElem?_take_of_lt hj, List.getElem?_drop, Array.getElem?_toList] at hv
      exact hv
    refine ⟨(vs.toList.drop off).take (n * k), ⟨rfl, hcell w (fun _ => rfl), hcell w.drew (fun _ => rfl), hlen⟩, by simp; omega, fun j u hu => ?_, fun c hc => hone c (List.mem_of_mem_drop (List.mem_of_mem_take hc))⟩
    have hj : j < n * k := by have := (List.getElem?_eq_some_iff.1 hu).1; simp at this; omega
    rw [List.getElem?_take_of_lt hj, List.getElem?_drop] at hu
    have := hr.2 (off + j) u hu
    have hjl : off + j < vs.size := by have := (List.getElem?_eq_some_iff.1 hu).1; omega
    rw [List.getD_eq_getElem?_getD, List.getElem?_take_of_lt hj, List.getElem?_drop, Array.getElem?_toList, ← Array.getD_eq_getD_getElem?]
    exact this
  unfold srcF at h
  split at h
  · rename_i xs ow
    split at h
    case isFalse => cases h
    rename_i hall
    simp only [Option.some.injEq, Prod.mk.injEq] at h
    obtain ⟨rfl, rfl⟩ := h
    exact hv.src hh (by simpa only [List.all_eq_true, decide_eq_true_eq] using hall) P
  · split at h
    case h_2 => cases h
    rename_i cs hcs
    split at h
    case isFalse => cases h
    rename_i hc
    simp only [Option.some.injEq, Prod.mk.injEq] at h
    obtain ⟨rfl, rfl⟩ := h
    obtain ⟨rfl, hle⟩ := hc
    cases hv with
    | mb l n cap k hk hcap =>
      have h9 := fun cap => obj _ 0 _ cap cs hcs (by rw [Nat.zero_add]; exact hle)
      simp only [List.drop_zero] at h9
      exact h9 _
  · split at h
    case h_2 => cases h
    rename_i cs hcs
    split at h
    case isFalse => cases h
    rename_i hc
    simp only [Option.some.injEq, Prod.mk.injEq] at h
    obtain ⟨rfl, rfl⟩ := h
    obtain ⟨rfl, hle⟩ := hc
    cases hv with
    | msl l off n cap k hk hcap => exact obj _ _ _ _ cs hcs hle
  · cases h
theorem srcS_src {yv : Value} {y : AV} (hv : RV H yv y) (hh : Holds H s w) {k m : Nat} {ys : List AV} (h : srcS s k y = some (m, ys)) (P : Program) :
    ∃ news : List Value, Src P w k m yv news ∧ news.length = ys.length ∧ (∀ j u, ys[j]? = some u → RV H (news.getD j Go.undef) u) ∧ (∀ c ∈ ys, c.one = true) := by
  unfold srcS at h
  split at h
  · rename_i t
    split at h
    case isFalse => cases h
    rename_i hk1
    simp only [Option.some.injEq, Prod.mk.injEq] at h
    obtain ⟨rfl, rfl⟩ := h
    subst hk1
    obtain rfl := hv.ev_v
    have hsz : t.data.toList.length = t.size := by simp
    have hfc : ∀ w' : World, (Builtin.firstCells 1 t.size (.string t)).run P w' = .ok (t.data.toList.map fun b => Value.int .u8 b.toNat).toArray w' := fun w' => by
      simp only [Builtin.firstCells, Sem.run_pure]
      have : t.extract 0 t.size = t := by simp
      rw [this]
      congr 1
      apply Array.ext'
      simp
    refine ⟨t.data.toList.map fun b => Value.int .u8 b.toNat, ⟨rfl, hfc w, hfc w.drew, by simp⟩, by simp, fun j u hu => ?_, fun c hc => ?_⟩
    · rw [List.getElem?_map] at hu
      rw [List.getD_eq_getElem?_getD, List.getElem?_map]
      cases hj : t.data.toList[j]? with
      | none => simp [hj] at hu
      | some b =>
        rw [hj] at hu
        obtain rfl : byteAV b = u := by simpa using hu
        exact .v _ rfl
    · obtain ⟨b, _, rfl⟩ := List.mem_map.1 hc; rfl
  · exact srcF_src hv hh h P
theorem zeroCells_one {z : Array Value} (hz : ∀ x ∈ z.toList, x.oneCell' = true) (n : Nat) : ∀ x ∈ (Builtin.zeroCells z n).toList, x.oneCell' = true := by
  intro x hx
  unfold Builtin.zeroCells at hx
  simp only [Array.toList_map, List.mem_map] at hx
  obtain ⟨i, hi, rfl⟩ := hx
  have hi' : i < n * z.size := by simpa using hi
  have hpos : 0 < z.size := by
    rcases Nat.eq_zero_or_pos z.size with h | h
    · rw [h] at hi'; simp at hi'
    · exact h
  have hlt : i % z.size < z.size := Nat.mod_lt _ hpos
  rw [getElem!_pos z _ hlt]
  exact hz _ (by simp)
theorem s_appM (x y : Operand) (t xt : TypeId) (d : TypeDesc) (hxt : P.underlying xt = some d) (hd : (∃ e', d = .slice e') ∨ d = .string) (ho : o.op = .call { callee := .builtin .append, args := #[x, y], argTypes := #[t, xt] }) (e : TypeId) (hu : P.underlying t = some (.slice e)) (i : TypeInfo) (hi : P.info? e = some i) (z : Value) (hz : i.zero = some z)
    (hzs : z.cells.size = i.size) (hzone : ∀ x ∈ z.cells.toList, x.oneCell' = true) (hk : 0 < i.size) (hx : opOk x = true) (hy : opOk y = true) (hf : FRel H a f) (hh : Holds H s w) (hG : G ⟨P, kp⟩ (.appM i.size i.bytes x y) f s K) : GoalW P kp o a w H s K := by
  have hv := hf.ev x hx
  have hvy := hf.ev y hy
  simp only [G] at hG
  split at hG
  case h_2 => exact hG.elim
  rename_i m ys hsF
  obtain ⟨news, hsrc, hnl, hnr, hnone⟩ := srcS_src hvy hh hsF P
  have hn1 : ∀ u ∈ news, u.oneCell' = true := fun u hu => by
    obtain ⟨j, hj⟩ := List.getElem?_of_mem hu
    have hlt : j < ys.length := by rw [← hnl]; exact (List.getElem?_eq_some_iff.1 hj).1
    have := hnr j _ (List.getElem?_eq_getElem hlt)
    rw [List.getD_eq_getElem?_getD, hj] at this
    exact this.oneCell (hnone _ (List.getElem_mem hlt))
  have hnlen : news.length = m * i.size := hsrc.size
  have hrn : RVA H news.toArray ys := RVA.iff_list.2 ⟨by simpa using hnl, fun j xv u hxj huj => by
    have := hnr j u huj
    simp only [List.toList_toArray] at hxj
    rw [List.getD_eq_getElem?_getD, hxj] at this
    exact this⟩
  generalize hav : a.eval x = xv at hv
  -- a new row: what was there, what comes, zeros
  have newRow : ∀ (olds : List Value) (n cap : Nat) (us : List AV), olds.length = n * i.size → RVA H olds.toArray us → (∀ c ∈ us, c.one = true) → n + m ≤ cap →
      let vs := olds.toArray ++ news.toArray ++ Builtin.zeroCells z.cells (cap - (n + m))
      ∃ sp : List AV, sp.length = (cap - (n + m)) * i.size ∧ Step H s w H (s.set w.heap.size (.cells (us ++ ys ++ sp))) (w.drew.alloc (.cells vs e)) := by
    intro olds n cap us hol hro hone hcap vs
    have hzc := zeroCells_one hzone (cap - (n + m))
    have hr := RVA.ofCells H _ hzc
    refine ⟨(Builtin.zeroCells z.cells (cap - (n + m))).toList.map ofCell, by simp [size_zeroCells, hzs], ?_⟩
    refine (Step.drew hh).trans (Step.new hh.drew vs e _ (fun c hc => ?_) ?_)
    · simp only [List.mem_append, List.mem_map] at hc
      rcases hc with (hc | hc) | ⟨x, _, rfl⟩
      · exact hone c hc
      · exact hnone c hc
      · exact ofCell_one x
    · rw [RVA.iff_list] at hro hrn hr ⊢
      simp only [List.toList_toArray] at hro hrn
      refine ⟨by simp only [vs, Array.toList_append, List.length_append, List.toList_toArray, hro.1, hrn.1, hr.1], fun j xv u hxj huj => ?_⟩
      simp only [vs, Array.toList_append, List.toList_toArray] at hxj
      have h2 : (olds ++ news).length = (us ++ ys).length := by rw [List.length_append, List.length_append, hro.1, hrn.1]
      by_cases h1 : j < (olds ++ news).length
      · rw [List.getElem?_append_left h1] at hxj
        rw [List.getElem?_append_left (by omega)] at huj
        by_cases h3 : j < olds.length
        · rw [List.getElem?_append_left h3] at hxj
          rw [List.getElem?_append_left (by omega)] at huj
          exact hro.2 j xv u hxj huj
        · rw [List.getElem?_append_right (by omega)] at hxj
          rw [List.getElem?_append_right (by omega), ← hro.1] at huj
          exact hrn.2 _ xv u hxj huj
      · rw [List.getElem?_append_right (by omega)] at hxj
        rw [List.getElem?_append_right (by omega), ← h2] at huj
        exact hr.2 _ xv u hxj huj
  split at hG
  · rename_i xs ow he
    rw [he] at hv
    obtain ⟨rfl, how, hby, h63, hG⟩ := hG
    have hxv : ∃ ad, xv = .slice ad 0 0 ∧ (ow = .nil → ad = none) := by
      cases hv with
      | slEmpty ad cap ow ha ho =>
        rcases how with rfl | rfl
        · simp only [Own.okEmpty] at ho; subst ho; rw [ha rfl]; exact ⟨none, rfl, fun _ => rfl⟩
        · simp only [Own.okEmpty] at ho; subst ho; exact ⟨ad, rfl, fun h => by cases h⟩
      | sl b off len cap k vals xs ow hk hlen hcap hel hone hH hR ho => rcases how with rfl | rfl <;> exact ho.elim
    obtain ⟨ad, rfl, hadn⟩ := hxv
    by_cases hm0 : m = 0
    · subst hm0
      rw [if_pos rfl] at hG
      have hnn : news = [] := List.eq_nil_of_length_eq_zero (by simpa using hnlen)
      subst hnn
      have hRV : RV H (.slice ad 0 0) (.sl [] ow) := by
        rcases how with rfl | rfl
        · rw [hadn rfl]; exact .slEmpty _ _ .nil (fun _ => rfl) rfl
        · exact .slEmpty _ _ .zero (fun _ => rfl) rfl
      refine .same hh (exec_append x y t xt ho (v := .slice ad 0 0) (w' := w) ?_) hRV hG
      rw [hav]
      have h1 := hsrc.len; have h2 := hsrc.cells
      rcases hd with ⟨e', rfl⟩ | rfl <;> cases ad <;> simp [Builtin.append_, run_underlying hu, run_underlying hxt, sizeOf, typeInfo, hi, h1, h2, storeCells]
    · rw [if_neg hm0] at hG
      have hr := run_app_grow (P := P) w t xt o.type e i z hu d hxt hd hi hz ad 0 0 [] (by simp) (by cases ad <;> simp [Builtin.firstCells, loadCells, loadCellsFrom]) m (a.eval y) news hsrc (by omega) (by omega) (by simpa using hby)
      simp only [Nat.zero_add] at hr
      have hge := grownCap_ge w m 0 e
      have hle := grownCap_le_maxLen w m 0 e (by unfold maxLen; omega)
      obtain ⟨sp, hsp, st⟩ := newRow [] 0 (grownCap w m 0 e) [] (by simp) ⟨rfl, fun j u h => by simp at h⟩ (fun c hc => by simp at hc) (by omega)
      simp only [Nat.zero_add, List.nil_append] at st hsp
      exact .value (exec_append x y t xt ho (by rw [hav]; exact hr)) st (.mb _ _ _ _ hk hge) (hG _ _ sp hh.newS hge hle hsp)
  · rename_i l n cap k' he
    rw [he] at hv
    -- a row of cells, of whatever kind
    have both : ∀ (cs : List AV) (mk : List AV → Ob), s.read l = some cs → k' = i.size → cs.length = cap * i.size → (n + m) * i.bytes ≤ 140737488355328 → n + m ≤ 9223372036854775807 →
        (∀ (us : List AV) (zs : Array Value), RVA H zs us → (∀ c ∈ us, c.one = true) → n * i.size + us.length ≤ cs.length → ∃ vs T fz, w.heap[l]? = some (.cells vs T fz) ∧ (∀ j, j < vs.size → ¬ (fz.1 ≤ j ∧ j < fz.2)) ∧ vs.size = cs.length ∧ Step H s w H (s.set l (mk (putAt cs (n * i.size) us))) (w.setRow l (vput vs (n * i.size) zs.toList))) →
        (if n + m ≤ cap then K (.mb l (n + m) cap i.size) (s.set l (mk (putAt cs (n * i.size) ys)))
           else ∀ g cap' sp, s g = none → n + m ≤ cap' → cap' ≤ maxLen → sp.length = (cap' - (n + m)) * i.size → K (.mb g (n + m) cap' i.size) (s.set g (.cells (cs.take (n * i.size) ++ ys ++ sp)))) → GoalW P kp o a w H s K := by
      clear hG
      intro cs mk hcs hk' hcl hby h63 hput hG
      subst hk'
      obtain ⟨hone, vs, T, fz, hb, hr0⟩ := hh.read hcs
      have hsz : vs.size = cs.length := hr0.1
      cases hv with
      | mb l n cap k hkk hcap =>
        have hnk : n * i.size ≤ cs.length := by rw [hcl]; exact Nat.mul_le_mul_right _ hcap
        by_cases hroom : n + m ≤ cap
        · rw [if_pos hroom] at hG
          have hfit : n * i.size + ys.length ≤ cs.length := by rw [← hnl, hnlen, hcl, ← Nat.add_mul]; exact Nat.mul_le_mul_right _ hroom
          obtain ⟨vs', T', fz', hb', hfz', hsz', hst⟩ := hput ys news.toArray hrn hnone hfit
          have hr := run_app_room (P := P) w t xt o.type e i hu d hxt hd hi l n cap vs' T' fz' hb' hfz' m (a.eval y) news hsrc hn1 hroom (by rw [hsz', hnl]; exact hfit)
          exact .value (exec_append x y t xt ho (by rw [hav]; exact hr)) hst (.mb _ _ _ _ hk hroom) hG
        · rw [if_neg hroom] at hG
          have hol : (vs.toList.take (n * i.size)).length = n * i.size := by simp; omega
          have hfc : (Builtin.firstCells i.size n (.slice (some ⟨l, 0, none⟩) n cap)).run P w.drew = .ok (vs.toList.take (n * i.size)).toArray w.drew := by
            refine run_firstCells_some w.drew i.size n ⟨l, 0, none⟩ n cap _ hol (fun j v hv => ?_)
            have hj : j < n * i.size := by have := (List.getElem?_eq_some_iff.1 hv).1; omega
            rw [Addr_add, Nat.zero_add]
            show w.cell? _ = _
            rw [cell_of_row w l j vs T _ hb]
            rw [List.getElem?_take_of_lt hj, Array.getElem?_toList] at hv
            exact hv
          have hr := run_app_grow (P := P) w t xt o.type e i z hu d hxt hd hi hz (some ⟨l, 0, none⟩) n cap _ hol hfc m (a.eval y) news hsrc (by omega) (by omega) hby
          have hge := grownCap_ge w (n + m) cap e
          have hle := grownCap_le_maxLen w (n + m) cap e (by unfold maxLen; omega)
          have hro : RVA H (vs.toList.take (n * i.size)).toArray (cs.take (n * i.size)) := by
            rw [RVA.iff_list] at hr0 ⊢
            refine ⟨by simp; omega, fun j xv u hxj huj => ?_⟩
            simp only [List.toList_toArray] at hxj
            have hj : j < n * i.size := by have := (List.getElem?_eq_some_iff.1 huj).1; simp at this; omega
            rw [List.getElem?_take_of_lt hj] at hxj huj
            exact hr0.2 j xv u hxj huj
          obtain ⟨sp, hsp, st⟩ := newRow _ n (grownCap w (n + m) cap e) (cs.take (n * i.size)) hol hro (fun c hc => hone c (List.mem_of_mem_take hc)) hge
          exact .value (exec_append x y t xt ho (by rw [hav]; exact hr)) st (.mb _ _ _ _ hk hge) (hG _ _ sp hh.newS hge hle hsp)
    split at hG
    · rename_i cs hcs
      obtain ⟨hk', hcl, hby, h63, hG⟩ := hG
      refine both cs .cells (by simp [Hp.read, hcs]) hk' hcl hby h63 (fun us zs hz1 hz2 hz3 => ?_) hG
      obtain ⟨vs', T', hb', hsz', hst⟩ := Step.store hh hcs (n * i.size) us zs hz1 hz2 hz3
      exact ⟨vs', T', _, hb', free0 _, hsz', hst⟩
    · rename_i cs hcs
      obtain ⟨hk', hcl, hby, h63, hG⟩ := hG
      refine both cs .sc (by simp [Hp.read, hcs]) hk' hcl hby h63 (fun us zs hz1 hz2 hz3 => ?_) hG
      obtain ⟨vs', T', hb', hsz', hst⟩ := Step.storeS hh hcs (n * i.size) us zs hz1 hz2 hz3
      exact ⟨vs', T', _, hb', freeS _, hsz', hst⟩
    · exact hG.elim
  · exact hG.elim
theorem s_appT (x y : Operand) (t xt : TypeId) (d : TypeDesc) (hxt : P.underlying xt = some d) (hd : (∃ e', d = .slice e') ∨ d = .string) (ho : o.op = .call { callee := .builtin .append, args := #[x, y], argTypes := #[t, xt] }) (e : TypeId) (hu : P.underlying t = some (.slice e)) (i : TypeInfo) (hi : P.info? e = some i) (z : Value) (hz : i.zero = some z)
    (hzs : z.cells.size = i.size) (hzone : ∀ x ∈ z.cells.toList, x.oneCell' = true) (hk : 0 < i.size) (hx : opOk x = true) (hy : opOk y = true) (hf : FRel H a f) (hh : Holds H s w) (h1 : i.size = 1) (hb1 : i.bytes ≤ 1) (hG : G ⟨P, kp⟩ (.appT e x y) f s K) : GoalW P kp o a w H s K := by
  have hv := hf.ev x hx
  have hvy := hf.ev y hy
  simp only [G] at hG
  rw [← h1] at hG
  split at hG
  case h_2 => exact hG.elim
  rename_i m ys hsF
  obtain ⟨news, hsrc, hnl, hnr, hnone⟩ := srcS_src hvy hh hsF P
  have hn1 : ∀ u ∈ news, u.oneCell' = true := fun u hu => by
    obtain ⟨j, hj⟩ := List.getElem?_of_mem hu
    have hlt : j < ys.length := by rw [← hnl]; exact (List.getElem?_eq_some_iff.1 hj).1
    have := hnr j _ (List.getElem?_eq_getElem hlt)
    rw [List.getD_eq_getElem?_getD, hj] at this
    exact this.oneCell (hnone _ (List.getElem_mem hlt))
  have hnlen : news.length = m * i.size := hsrc.size
  have hrn : RVA H news.toArray ys := RVA.iff_list.2 ⟨by simpa using hnl, fun j xv u hxj huj => by
    have := hnr j u huj
    simp only [List.toList_toArray] at hxj
    rw [List.getD_eq_getElem?_getD, hxj] at this
    exact this⟩
  generalize hav : a.eval x = xv at hv
  -- a new row: what was there, what comes, zeros
  have newRow : ∀ (olds : List Value) (n cap : Nat) (us : List AV), olds.length = n * i.size → RVA H olds.toArray us → (∀ c ∈ us, c.one = true) → n + m ≤ cap →
      let vs := olds.toArray ++ news.toArray ++ Builtin.zeroCells z.cells (cap - (n + m))
      ∃ sp : List AV, sp.length = (cap - (n + m)) * i.size ∧ Step H s w H (s.set w.heap.size (.tc e (us ++ ys ++ sp))) (w.drew.alloc (.cells vs e)) := by
    intro olds n cap us hol hro hone hcap vs
    have hzc := zeroCells_one hzone (cap - (n + m))
    have hr := RVA.ofCells H _ hzc
    refine ⟨(Builtin.zeroCells z.cells (cap - (n + m))).toList.map ofCell, by simp [size_zeroCells, hzs], ?_⟩
    refine (Step.drew hh).trans (Step.newT hh.drew vs e _ (fun c hc => ?_) ?_)
    · simp only [List.mem_append, List.mem_map] at hc
      rcases hc with (hc | hc) | ⟨x, _, rfl⟩
      · exact hone c hc
      · exact hnone c hc
      · exact ofCell_one x
    · rw [RVA.iff_list] at hro hrn hr ⊢
      simp only [List.toList_toArray] at hro hrn
      refine ⟨by simp only [vs, Array.toList_append, List.length_append, List.toList_toArray, hro.1, hrn.1, hr.1], fun j xv u hxj huj => ?_⟩
      simp only [vs, Array.toList_append, List.toList_toArray] at hxj
      have h2 : (olds ++ news).length = (us ++ ys).length := by rw [List.length_append, List.length_append, hro.1, hrn.1]
      by_cases h1 : j < (olds ++ news).length
      · rw [List.getElem?_append_left h1] at hxj
        rw [List.getElem?_append_left (by omega)] at huj
        by_cases h3 : j < olds.length
        · rw [List.getElem?_append_left h3] at hxj
          rw [List.getElem?_append_left (by omega)] at huj
          exact hro.2 j xv u hxj huj
        · rw [List.getElem?_append_right (by omega)] at hxj
          rw [List.getElem?_append_right (by omega), ← hro.1] at huj
          exact hrn.2 _ xv u hxj huj
      · rw [List.getElem?_append_right (by omega)] at hxj
        rw [List.getElem?_append_right (by omega), ← h2] at huj
        exact hr.2 _ xv u hxj huj
  split at hG
  · rename_i xs ow he
    rw [he] at hv
    obtain ⟨rfl, how, hm47, hG⟩ := hG
    have hby : m * i.bytes ≤ 140737488355328 := Nat.le_trans (Nat.mul_le_mul_left m hb1) (by omega)
    have h63 : m ≤ 9223372036854775807 := by omega
    have hxv : ∃ ad, xv = .slice ad 0 0 ∧ (ow = .nil → ad = none) := by
      cases hv with
      | slEmpty ad cap ow ha ho =>
        rcases how with rfl | rfl
        · simp only [Own.okEmpty] at ho; subst ho; rw [ha rfl]; exact ⟨none, rfl, fun _ => rfl⟩
        · simp only [Own.okEmpty] at ho; subst ho; exact ⟨ad, rfl, fun h => by cases h⟩
      | sl b off len cap k vals xs ow hk hlen hcap hel hone hH hR ho => rcases how with rfl | rfl <;> exact ho.elim
    obtain ⟨ad, rfl, hadn⟩ := hxv
    by_cases hm0 : m = 0
    · subst hm0
      rw [if_pos rfl] at hG
      have hnn : news = [] := List.eq_nil_of_length_eq_zero (by simpa using hnlen)
      subst hnn
      have hRV : RV H (.slice ad 0 0) (.sl [] ow) := by
        rcases how with rfl | rfl
        · rw [hadn rfl]; exact .slEmpty _ _ .nil (fun _ => rfl) rfl
        · exact .slEmpty _ _ .zero (fun _ => rfl) rfl
      refine .same hh (exec_append x y t xt ho (v := .slice ad 0 0) (w' := w) ?_) hRV hG
      rw [hav]
      have h1 := hsrc.len; have h2 := hsrc.cells
      rcases hd with ⟨e', rfl⟩ | rfl <;> cases ad <;> simp [Builtin.append_, run_underlying hu, run_underlying hxt, sizeOf, typeInfo, hi, h1, h2, storeCells]
    · rw [if_neg hm0] at hG
      have hr := run_app_grow (P := P) w t xt o.type e i z hu d hxt hd hi hz ad 0 0 [] (by simp) (by cases ad <;> simp [Builtin.firstCells, loadCells, loadCellsFrom]) m (a.eval y) news hsrc (by omega) (by omega) (by simpa using hby)
      simp only [Nat.zero_add] at hr
      have hge := grownCap_ge w m 0 e
      have hle := grownCap_le_maxLen w m 0 e (by unfold maxLen; omega)
      obtain ⟨sp, hsp, st⟩ := newRow [] 0 (grownCap w m 0 e) [] (by simp) ⟨rfl, fun j u h => by simp at h⟩ (fun c hc => by simp at hc) (by omega)
      simp only [Nat.zero_add, List.nil_append] at st hsp
      exact .value (exec_append x y t xt ho (by rw [hav]; exact hr)) st (.mb _ _ _ _ hk hge) (hG _ _ sp hh.newS hge hle hsp)
  · rename_i l n cap k' he
    rw [he] at hv
    -- a row of cells, of whatever kind
    have both : ∀ (cs : List AV) (mk : List AV → Ob), s.read l = some cs → k' = i.size → cs.length = cap * i.size → (n + m) * i.bytes ≤ 140737488355328 → n + m ≤ 9223372036854775807 →
        (∀ (us : List AV) (zs : Array Value), RVA H zs us → (∀ c ∈ us, c.one = true) → n * i.size + us.length ≤ cs.length → ∃ vs T fz, w.heap[l]? = some (.cells vs T fz) ∧ (∀ j, j < vs.size → ¬ (fz.1 ≤ j ∧ j < fz.2)) ∧ vs.size = cs.length ∧ Step H s w H (s.set l (mk (putAt cs (n * i.size) us))) (w.setRow l (vput vs (n * i.size) zs.toList))) →
        (if n + m ≤ cap then K (.mb l (n + m) cap i.size) (s.set l (mk (putAt cs (n * i.size) ys)))
           else ∀ g cap' sp, s g = none → n + m ≤ cap' → cap' ≤ maxLen → sp.length = (cap' - (n + m)) * i.size → K (.mb g (n + m) cap' i.size) (s.set g (.tc e (cs.take (n * i.size) ++ ys ++ sp)))) → GoalW P kp o a w H s K := by
      clear hG
      intro cs mk hcs hk' hcl hby h63 hput hG
      subst hk'
      obtain ⟨hone, vs, T, fz, hb, hr0⟩ := hh.read hcs
      have hsz : vs.size = cs.length := hr0.1
      cases hv with
      | mb l n cap k hkk hcap =>
        have hnk : n * i.size ≤ cs.length := by rw [hcl]; exact Nat.mul_le_mul_right _ hcap
        by_cases hroom : n + m ≤ cap
        · rw [if_pos hroom] at hG
          have hfit : n * i.size + ys.length ≤ cs.length := by rw [← hnl, hnlen, hcl, ← Nat.add_mul]; exact Nat.mul_le_mul_right _ hroom
          obtain ⟨vs', T', fz', hb', hfz', hsz', hst⟩ := hput ys news.toArray hrn hnone hfit
          have hr := run_app_room (P := P) w t xt o.type e i hu d hxt hd hi l n cap vs' T' fz' hb' hfz' m (a.eval y) news hsrc hn1 hroom (by rw [hsz', hnl]; exact hfit)
          exact .value (exec_append x y t xt ho (by rw [hav]; exact hr)) hst (.mb _ _ _ _ hk hroom) hG
        · rw [if_neg hroom] at hG
          have hol : (vs.toList.take (n * i.size)).length = n * i.size := by simp; omega
          have hfc : (Builtin.firstCells i.size n (.slice (some ⟨l, 0, none⟩) n cap)).run P w.drew = .ok (vs.toList.take (n * i.size)).toArray w.drew := by
            refine run_firstCells_some w.drew i.size n ⟨l, 0, none⟩ n cap _ hol (fun j v hv => ?_)
            have hj : j < n * i.size := by have := (List.getElem?_eq_some_iff.1 hv).1; omega
            rw [Addr_add, Nat.zero_add]
            show w.cell? _ = _
            rw [cell_of_row w l j vs T _ hb]
            rw [List.getElem?_take_of_lt hj, Array.getElem?_toList] at hv
            exact hv
          have hr := run_app_grow (P := P) w t xt o.type e i z hu d hxt hd hi hz (some ⟨l, 0, none⟩) n cap _ hol hfc m (a.eval y) news hsrc (by omega) (by omega) hby
          have hge := grownCap_ge w (n + m) cap e
          have hle := grownCap_le_maxLen w (n + m) cap e (by unfold maxLen; omega)
          have hro : RVA H (vs.toList.take (n * i.size)).toArray (cs.take (n * i.size)) := by
            rw [RVA.iff_list] at hr0 ⊢
            refine ⟨by simp; omega, fun j xv u hxj huj => ?_⟩
            simp only [List.toList_toArray] at hxj
            have hj : j < n * i.size := by have := (List.getElem?_eq_some_iff.1 huj).1; simp at this; omega
            rw [List.getElem?_take_of_lt hj] at hxj huj
            exact hr0.2 j xv u hxj huj
          obtain ⟨sp, hsp, st⟩ := newRow _ n (grownCap w (n + m) cap e) (cs.take (n * i.size)) hol hro (fun c hc => hone c (List.mem_of_mem_take hc)) hge
          exact .value (exec_append x y t xt ho (by rw [hav]; exact hr)) st (.mb _ _ _ _ hk hge) (hG _ _ sp hh.newS hge hle hsp)
    split at hG
    · rename_i T cs hcs
      obtain ⟨rfl, hk', hcl, h47, hG⟩ := hG
      refine both cs (.tc T) (by simp [Hp.read, hcs]) hk' hcl (Nat.le_trans (Nat.mul_le_mul_left _ hb1) (by omega)) (by omega) (fun us zs hz1 hz2 hz3 => ?_) hG
      obtain ⟨vs', hb', hsz', hst⟩ := Step.storeT hh hcs (n * i.size) us zs hz1 hz2 hz3
      exact ⟨vs', T, _, hb', free0 _, hsz', hst⟩
    · exact hG.elim
  · exact hG.elim
end
end Go.Av
