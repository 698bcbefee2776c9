/-
  Lemmas and walks for the statement: Shelf, BGl, BName, BPrint, BUPrint.
-/
import Derived.Shelf.Strings.Builder1
import Derived.Shelf.Strings.Builder2
import Derived.Shelf.Strings.OnBuilder
import Derived.Shelf.Strconv.Atoi
import Derived.Shelf.Strconv.Itoa0
import Derived.Shelf.Strconv.Itoa1
import Derived.Shelf.LaysM
import Derived.Shelf.Strconv.Itoa2
import Derived.Shelf.Strconv.Itoa3
import Derived.Shelf.Strconv.AtoiErrFast
import Derived.Shelf.Strconv.ParseIntEmpty
import Derived.Shelf.Strconv.AtoiFail
import Derived.Shelf.Strconv.Clone
import Derived.Shelf.Strconv.SyntaxError
import Derived.Shelf.LaysC
import Derived.Shelf.Strconv.ToError
import Derived.Shelf.Strconv.Lower
import Derived.Shelf.Strconv.ParseUint10
import Derived.Shelf.Strconv.ParseUint10Empty
import Derived.Shelf.Strconv.ParseUint10Any
import Derived.Shelf.Strconv.ParseInt10
import Derived.Shelf.Strconv.AtoiLong
import Derived.Shelf.Strconv.AtoiInnerAll
import Derived.Shelf.Strconv.RangeError
import Derived.Shelf.Strconv.ToErrorRange
import Derived.Shelf.Strconv.AtoiAll
import Derived.Shelf.Strconv.ErrVarAll
import Derived.Shelf.Strings.Search1
import Derived.Shelf.Strings.Search2
import Derived.Shelf.Strings.Search3
import Derived.Shelf.Strings.Count
import Derived.Shelf.Strings.Shaped
import Derived.Shelf.Strings.Split
import Derived.Shelf.Strings.Fields
import Derived.Shelf.Strings.SplitShaped
import Derived.Shelf.Unicode.Latin
import Derived.Shelf.Bits.Mul64
import Derived.Shelf.Unicode.DecodeSlow
import Derived.Shelf.Unicode.Is16White
import Derived.Shelf.Unicode.IsSpaceAny
import Derived.Shelf.Unicode.Is16WhiteD
import Derived.Shelf.Unicode.IsSpaceAnyD
import Derived.Shelf.Strings.FieldsAny
import Derived.Shelf.Strings.FieldsFuncAny
import Derived.Shelf.Unicode.Is16Any
import Derived.Shelf.Unicode.Is32Any
import Derived.Shelf.Unicode.ExclAny
import Derived.Shelf.Slices.Turned
import Derived.Shelf.Slices.Reverse
import Derived.Shelf.Slices.Equal
import Derived.Ground.Names2Prog
import Derived.Shelf.Slices.SearchI
import Derived.Shelf.Slices.Cells
import Derived.Test.YtjjikhaaimfneaaGreatDoorProg
import Derived.Test.YtjjikhaaimfneaaGreatDoorU01
import Derived.Lib.SmallJoins
import Derived.Test.YtjjikhaaimfneaaGreatDoorU04
import Derived.Test.YtjjikhaaimfneaaGreatDoorU05
import Derived.Deep.DeepCutAuto
import Derived.Laws.Concat
namespace Go.Proofs
open Go.Shelf
def Tryz.lays169_ren : Go.Shelf.Ren := ⟨fun | 169 => 103 | n => n, fun | 70 => 179 | 9 => 9 | 0 => 0 | 72 => 181 | 37 => 173 | 127 => 220 | 3 => 3 | 5 => 5 | n => n, fun | n => n⟩
def Tryz.lays241_ren : Go.Shelf.Ren := ⟨fun | 241 => 132 | 277 => 153 | n => n, fun | 70 => 179 | 3 => 3 | 0 => 0 | 72 => 181 | 37 => 173 | 5 => 5 | n => n, fun | n => n⟩
def Tryz.lays165_ren : Go.Shelf.Ren := ⟨fun | 165 => 101 | 240 => 131 | 241 => 132 | 276 => 152 | 277 => 153 | n => n, fun | 70 => 179 | 3 => 3 | 0 => 0 | 4 => 4 | 9 => 9 | 20 => 20 | 72 => 181 | 37 => 173 | 164 => 233 | 5 => 5 | n => n, fun | n => n⟩
def Tryz.lays156_ren : Go.Shelf.Ren := ⟨fun | 156 => 79 | 165 => 101 | 166 => 102 | 169 => 103 | 240 => 131 | 241 => 132 | 276 => 152 | 277 => 153 | n => n, fun | 31 => 42 | 9 => 9 | 3 => 3 | 4 => 4 | 0 => 0 | 20 => 20 | 72 => 181 | 76 => 112 | 70 => 179 | 37 => 173 | 75 => 111 | 127 => 220 | 164 => 233 | 5 => 5 | 80 => 183 | n => n, fun | n => n⟩
theorem Tryz.lays156 : Go.Proofs.Lays.n156 Tryz.prog Tryz.lays156_ren := {
 mixed := by kernel_rfl
 f156 := Tryz.func79.trans (congrArg some (by kernel_rfl))
 f165 := Tryz.func101.trans (congrArg some (by kernel_rfl))
 f166 := Tryz.func102.trans (congrArg some (by kernel_rfl))
 f169 := Tryz.func103.trans (congrArg some (by kernel_rfl))
 f240 := Tryz.func131.trans (congrArg some (by kernel_rfl))
 f241 := Tryz.func132.trans (congrArg some (by kernel_rfl))
 f276 := Tryz.func152.trans (congrArg some (by kernel_rfl))
 f277 := Tryz.func153.trans (congrArg some (by kernel_rfl))
 t0 := Tryz.underlying0
 a0 := Tryz.isAgg0
 z0 := Tryz.sizeOf0
 v0 := Tryz.zeroValue0
 t3 := Tryz.underlying3
 a3 := Tryz.isAgg3
 z3 := Tryz.sizeOf3
 v3 := Tryz.zeroValue3
 t4 := Tryz.underlying4
 a4 := Tryz.isAgg4
 z4 := Tryz.sizeOf4
 v4 := Tryz.zeroValue4
 t9 := Tryz.underlying9
 a9 := Tryz.isAgg9
 z9 := Tryz.sizeOf9
 v9 := Tryz.zeroValue9
 t20 := Tryz.underlying20
 a20 := Tryz.isAgg20
 z20 := Tryz.sizeOf20
 v20 := Tryz.zeroValue20
 t31 := Tryz.underlying42
 a31 := Tryz.isAgg42
 z31 := Tryz.sizeOf42
 v31 := Tryz.zeroValue42
 t37 := Tryz.underlying173
 a37 := Tryz.isAgg173
 z37 := Tryz.sizeOf173
 v37 := Tryz.zeroValue173
 t70 := Tryz.underlying179
 a70 := Tryz.isAgg179
 z70 := Tryz.sizeOf179
 v70 := Tryz.zeroValue179
 t72 := Tryz.underlying181
 a72 := Tryz.isAgg181
 z72 := Tryz.sizeOf181
 v72 := Tryz.zeroValue181
 t75 := Tryz.underlying111
 a75 := Tryz.isAgg111
 z75 := Tryz.sizeOf111
 v75 := Tryz.zeroValue111
 t76 := Tryz.underlying112
 a76 := Tryz.isAgg112
 z76 := Tryz.sizeOf112
 v76 := Tryz.zeroValue112
 t127 := Tryz.underlying220
 a127 := Tryz.isAgg220
 z127 := Tryz.sizeOf220
 v127 := Tryz.zeroValue220
 t164 := Tryz.underlying233
 a164 := Tryz.isAgg233
 z164 := Tryz.sizeOf233
 v164 := Tryz.zeroValue233 }
theorem Tryz.Builder_Extra_156 : Builder.Extra Tryz.prog Tryz.lays156_ren := {
 sizeBuilder := by kernel_rfl
 liesBuilder := by kernel_rfl
 t5 := Tryz.underlying5
 a5 := Tryz.isAgg5
 z5 := Tryz.sizeOf5
 v5 := Tryz.zeroValue5
 infoByte := by kernel_rfl
 cellsByte := by kernel_rfl
 sizeByte := by kernel_rfl
 neB5 := by decide }
open Go.RowKit in
theorem Tryz.strings_Join (bk o c : Nat) (xs : List ByteArray) (sep : ByteArray) (w : World) (hcells : ∀ (j : Nat) x, xs[j]? = some x → w.cell? ⟨bk, o + j, none⟩ = some (.string x)) (hbk : bk < w.heap.size) (hN : xs.length ≤ 140737488355328) (hcap : xs.length ≤ c) (hlen : (Lib.join (xs.map (·.data.toList)) sep.data.toList).length ≤ 140737488355328) :
 Calls Tryz.prog 79 #[.slice (some ⟨bk, o, none⟩) xs.length c, .string sep] w fun e w' => e = .returned (.string ⟨(Lib.join (xs.map (·.data.toList)) sep.data.toList).toArray⟩) ∧ Below w.heap.size w w' := Any.strings_Join Tryz.lays156 Tryz.Builder_Extra_156 bk o c xs sep w hcells hbk hN hcap hlen
def Tryz.lays244_ren : Go.Shelf.Ren := ⟨fun | 244 => 75 | 247 => 96 | 287 => 128 | 321 => 150 | 322 => 151 | n => n, fun | 9 => 9 | 3 => 3 | 75 => 111 | 4 => 4 | 5 => 5 | 167 => 172 | 37 => 173 | 0 => 0 | 85 => 174 | 2 => 2 | 53 => 185 | 175 => 214 | 46 => 161 | 21 => 21 | 80 => 183 | n => n, fun | n => n⟩
def Tryz.lays172_ren : Go.Shelf.Ren := ⟨fun | 172 => 54 | 244 => 75 | 245 => 76 | 247 => 96 | 279 => 97 | 280 => 98 | 281 => 99 | 282 => 100 | 287 => 128 | 316 => 129 | 171 => 35 | 205 => 130 | 321 => 150 | 322 => 151 | 243 => 56 | 246 => 80 | 283 => 104 | 284 => 105 | 285 => 106 | 286 => 107 | 129 => 134 | 317 => 133 | 318 => 135 | 319 => 136 | 320 => 137 | 337 => 154 | 338 => 155 | n => n, fun | 9 => 9 | 3 => 3 | 75 => 111 | 76 => 112 | 4 => 4 | 5 => 5 | 167 => 172 | 37 => 173 | 0 => 0 | 85 => 174 | 2 => 2 | 168 => 176 | 53 => 185 | 175 => 214 | 46 => 161 | 210 => 218 | 127 => 220 | 145 => 232 | 143 => 230 | 21 => 21 | 171 => 184 | 173 => 188 | 212 => 222 | 51 => 169 | 20 => 20 | 213 => 223 | 232 => 244 | 233 => 245 | 80 => 183 | n => n, fun | 15 => 2 | 16 => 3 | 17 => 4 | 18 => 8 | 19 => 9 | n => n⟩
def Tryz.lays129_ren : Go.Shelf.Ren := ⟨fun | 129 => 134 | n => n, fun | 53 => 185 | 3 => 3 | 4 => 4 | 46 => 161 | 5 => 5 | 9 => 9 | n => n, fun | n => n⟩
def Tryz.lays317_ren : Go.Shelf.Ren := ⟨fun | 317 => 133 | n => n, fun | 3 => 3 | 46 => 161 | n => n, fun | n => n⟩
def Tryz.lays318_ren : Go.Shelf.Ren := ⟨fun | 318 => 135 | n => n, fun | 3 => 3 | 4 => 4 | n => n, fun | n => n⟩
def Tryz.lays283_ren : Go.Shelf.Ren := ⟨fun | 283 => 104 | n => n, fun | 3 => 3 | 9 => 9 | 4 => 4 | n => n, fun | n => n⟩
def Tryz.laysM284_ren : Go.Shelf.Ren := ⟨fun | 284 => 105 | 129 => 134 | 317 => 133 | 318 => 135 | n => n, fun | 53 => 185 | 3 => 3 | 212 => 222 | 0 => 0 | 4 => 4 | 46 => 161 | 5 => 5 | 9 => 9 | n => n, fun | 17 => 4 | n => n⟩
def Tryz.lays285_ren : Go.Shelf.Ren := ⟨fun | 285 => 106 | n => n, fun | 37 => 173 | 53 => 185 | 3 => 3 | 4 => 4 | 51 => 169 | 9 => 9 | 5 => 5 | 0 => 0 | n => n, fun | n => n⟩
def Tryz.laysM246_ren : Go.Shelf.Ren := ⟨fun | 246 => 80 | 283 => 104 | 284 => 105 | 285 => 106 | 286 => 107 | 129 => 134 | 317 => 133 | 318 => 135 | 319 => 136 | 320 => 137 | 337 => 154 | 338 => 155 | n => n, fun | 2 => 2 | 3 => 3 | 9 => 9 | 4 => 4 | 171 => 184 | 0 => 0 | 53 => 185 | 37 => 173 | 5 => 5 | 173 => 188 | 212 => 222 | 51 => 169 | 20 => 20 | 213 => 223 | 46 => 161 | 232 => 244 | 233 => 245 | n => n, fun | 17 => 4 | 18 => 8 | 19 => 9 | n => n⟩
def Tryz.lays246_ren : Go.Shelf.Ren := ⟨fun | 246 => 80 | 283 => 104 | 284 => 105 | 285 => 106 | 286 => 107 | 129 => 134 | 317 => 133 | 318 => 135 | 319 => 136 | 320 => 137 | 337 => 154 | 338 => 155 | n => n, fun | 2 => 2 | 3 => 3 | 9 => 9 | 4 => 4 | 171 => 184 | 0 => 0 | 53 => 185 | 37 => 173 | 5 => 5 | 173 => 188 | 212 => 222 | 51 => 169 | 20 => 20 | 213 => 223 | 46 => 161 | 232 => 244 | 233 => 245 | n => n, fun | 17 => 4 | 18 => 8 | 19 => 9 | n => n⟩
def Tryz.laysM243_ren : Go.Shelf.Ren := ⟨fun | 243 => 56 | 246 => 80 | 283 => 104 | 284 => 105 | 285 => 106 | 286 => 107 | 129 => 134 | 317 => 133 | 318 => 135 | 319 => 136 | 320 => 137 | 337 => 154 | 338 => 155 | n => n, fun | 3 => 3 | 9 => 9 | 2 => 2 | 4 => 4 | 171 => 184 | 0 => 0 | 53 => 185 | 37 => 173 | 5 => 5 | 173 => 188 | 212 => 222 | 51 => 169 | 20 => 20 | 213 => 223 | 46 => 161 | 232 => 244 | 233 => 245 | n => n, fun | 17 => 4 | 18 => 8 | 19 => 9 | n => n⟩
def Tryz.lays243_ren : Go.Shelf.Ren := ⟨fun | 243 => 56 | 246 => 80 | 283 => 104 | 284 => 105 | 285 => 106 | 286 => 107 | 129 => 134 | 317 => 133 | 318 => 135 | 319 => 136 | 320 => 137 | 337 => 154 | 338 => 155 | n => n, fun | 3 => 3 | 9 => 9 | 2 => 2 | 4 => 4 | 171 => 184 | 0 => 0 | 53 => 185 | 37 => 173 | 5 => 5 | 173 => 188 | 212 => 222 | 51 => 169 | 20 => 20 | 213 => 223 | 46 => 161 | 232 => 244 | 233 => 245 | n => n, fun | 17 => 4 | 18 => 8 | 19 => 9 | n => n⟩
def Tryz.laysM171_ren : Go.Shelf.Ren := ⟨fun | 171 => 35 | 243 => 56 | 246 => 80 | 283 => 104 | 284 => 105 | 285 => 106 | 286 => 107 | 129 => 134 | 317 => 133 | 318 => 135 | 319 => 136 | 320 => 137 | 337 => 154 | 338 => 155 | n => n, fun | 3 => 3 | 9 => 9 | 2 => 2 | 4 => 4 | 171 => 184 | 0 => 0 | 53 => 185 | 37 => 173 | 5 => 5 | 173 => 188 | 212 => 222 | 51 => 169 | 20 => 20 | 213 => 223 | 46 => 161 | 232 => 244 | 233 => 245 | n => n, fun | 17 => 4 | 18 => 8 | 19 => 9 | n => n⟩
theorem Tryz.laysM171 : Go.Proofs.LaysM.n171 Tryz.prog Tryz.laysM171_ren := {
 mixed := by kernel_rfl
 f129 := Tryz.func134.trans (congrArg some (by kernel_rfl))
 f171 := Tryz.func35.trans (congrArg some (by kernel_rfl))
 f243 := Tryz.func56.trans (congrArg some (by kernel_rfl))
 f246 := Tryz.func80.trans (congrArg some (by kernel_rfl))
 f283 := Tryz.func104.trans (congrArg some (by kernel_rfl))
 f284 := Tryz.func105.trans (congrArg some (by kernel_rfl))
 f285 := Tryz.func106.trans (congrArg some (by kernel_rfl))
 f286 := Tryz.func107.trans (congrArg some (by kernel_rfl))
 f317 := Tryz.func133.trans (congrArg some (by kernel_rfl))
 f318 := Tryz.func135.trans (congrArg some (by kernel_rfl))
 f319 := Tryz.func136.trans (congrArg some (by kernel_rfl))
 f320 := Tryz.func137.trans (congrArg some (by kernel_rfl))
 f337 := Tryz.func154.trans (congrArg some (by kernel_rfl))
 f338 := Tryz.func155.trans (congrArg some (by kernel_rfl))
 t0 := Tryz.underlying0
 a0 := Tryz.isAgg0
 z0 := Tryz.sizeOf0
 v0 := Tryz.zeroValue0
 t2 := Tryz.underlying2
 a2 := Tryz.isAgg2
 z2 := Tryz.sizeOf2
 v2 := Tryz.zeroValue2
 t3 := Tryz.underlying3
 a3 := Tryz.isAgg3
 z3 := Tryz.sizeOf3
 v3 := Tryz.zeroValue3
 t4 := Tryz.underlying4
 a4 := Tryz.isAgg4
 z4 := Tryz.sizeOf4
 v4 := Tryz.zeroValue4
 t5 := Tryz.underlying5
 a5 := Tryz.isAgg5
 z5 := Tryz.sizeOf5
 v5 := Tryz.zeroValue5
 t9 := Tryz.underlying9
 a9 := Tryz.isAgg9
 z9 := Tryz.sizeOf9
 v9 := Tryz.zeroValue9
 t20 := Tryz.underlying20
 a20 := Tryz.isAgg20
 z20 := Tryz.sizeOf20
 v20 := Tryz.zeroValue20
 t37 := Tryz.underlying173
 a37 := Tryz.isAgg173
 z37 := Tryz.sizeOf173
 v37 := Tryz.zeroValue173
 t46 := Tryz.underlying161
 a46 := Tryz.isAgg161
 z46 := Tryz.sizeOf161
 v46 := Tryz.zeroValue161
 t51 := Tryz.underlying169
 a51 := Tryz.isAgg169
 z51 := Tryz.sizeOf169
 v51 := Tryz.zeroValue169
 t53 := Tryz.underlying185
 a53 := Tryz.isAgg185
 z53 := Tryz.sizeOf185
 v53 := Tryz.zeroValue185
 t171 := Tryz.underlying184
 a171 := Tryz.isAgg184
 z171 := Tryz.sizeOf184
 v171 := Tryz.zeroValue184
 t173 := Tryz.underlying188
 a173 := Tryz.isAgg188
 z173 := Tryz.sizeOf188
 v173 := Tryz.zeroValue188
 t212 := Tryz.underlying222
 a212 := Tryz.isAgg222
 z212 := Tryz.sizeOf222
 v212 := Tryz.zeroValue222
 t213 := Tryz.underlying223
 a213 := Tryz.isAgg223
 z213 := Tryz.sizeOf223
 t232 := Tryz.underlying244
 a232 := Tryz.isAgg244
 z232 := Tryz.sizeOf244
 v232 := Tryz.zeroValue244
 t233 := Tryz.underlying245
 a233 := Tryz.isAgg245
 z233 := Tryz.sizeOf245
 v233 := Tryz.zeroValue245
 g17 := by kernel_rfl
 g18 := by kernel_rfl
 g19 := by kernel_rfl
 i0 := by kernel_rfl
 i2 := by kernel_rfl
 i3 := by kernel_rfl
 i4 := by kernel_rfl
 i5 := by kernel_rfl
 i9 := by kernel_rfl
 i20 := by kernel_rfl
 i37 := by kernel_rfl
 i46 := by kernel_rfl
 i51 := by kernel_rfl
 i53 := by kernel_rfl
 i171 := by kernel_rfl
 i173 := by kernel_rfl
 i212 := by kernel_rfl
 i232 := by kernel_rfl
 i233 := by kernel_rfl
 m17 := by kernel_rfl
 m18 := by kernel_rfl
 m19 := by kernel_rfl }
open Go.RowKit Go.Sort Go.Lib in
theorem Tryz.strconv_Itoa (n : Int) (h0 : -9223372036854775808 ≤ n) (h1 : n ≤ 9223372036854775807) (w : World) (htab : Lib.TabIs Tryz.prog w "internal/strconv.uint64pow10" .u64 Lib.pow10Tab) :
 Calls Tryz.prog 35 #[.int .i64 n] w fun e w' => e = .returned (.string ⟨(Lib.itoa n).toArray⟩) ∧ ∃ k os, w' = grow (w.drewN k) os := Any.strconv_Itoa Tryz.laysM171 n h0 h1 w htab
def Tryz.lays171_ren : Go.Shelf.Ren := ⟨fun | 171 => 35 | 243 => 56 | 246 => 80 | 283 => 104 | 284 => 105 | 285 => 106 | 286 => 107 | 129 => 134 | 317 => 133 | 318 => 135 | 319 => 136 | 320 => 137 | 337 => 154 | 338 => 155 | n => n, fun | 3 => 3 | 9 => 9 | 2 => 2 | 4 => 4 | 171 => 184 | 0 => 0 | 53 => 185 | 37 => 173 | 5 => 5 | 173 => 188 | 212 => 222 | 51 => 169 | 20 => 20 | 213 => 223 | 46 => 161 | 232 => 244 | 233 => 245 | n => n, fun | 17 => 4 | 18 => 8 | 19 => 9 | n => n⟩
theorem Tryz.lays171 : Go.Proofs.Lays.n171 Tryz.prog Tryz.lays171_ren := {
 mixed := by kernel_rfl
 f129 := Tryz.func134.trans (congrArg some (by kernel_rfl))
 f171 := Tryz.func35.trans (congrArg some (by kernel_rfl))
 f243 := Tryz.func56.trans (congrArg some (by kernel_rfl))
 f246 := Tryz.func80.trans (congrArg some (by kernel_rfl))
 f283 := Tryz.func104.trans (congrArg some (by kernel_rfl))
 f284 := Tryz.func105.trans (congrArg some (by kernel_rfl))
 f285 := Tryz.func106.trans (congrArg some (by kernel_rfl))
 f286 := Tryz.func107.trans (congrArg some (by kernel_rfl))
 f317 := Tryz.func133.trans (congrArg some (by kernel_rfl))
 f318 := Tryz.func135.trans (congrArg some (by kernel_rfl))
 f319 := Tryz.func136.trans (congrArg some (by kernel_rfl))
 f320 := Tryz.func137.trans (congrArg some (by kernel_rfl))
 f337 := Tryz.func154.trans (congrArg some (by kernel_rfl))
 f338 := Tryz.func155.trans (congrArg some (by kernel_rfl))
 t0 := Tryz.underlying0
 a0 := Tryz.isAgg0
 z0 := Tryz.sizeOf0
 v0 := Tryz.zeroValue0
 t2 := Tryz.underlying2
 a2 := Tryz.isAgg2
 z2 := Tryz.sizeOf2
 v2 := Tryz.zeroValue2
 t3 := Tryz.underlying3
 a3 := Tryz.isAgg3
 z3 := Tryz.sizeOf3
 v3 := Tryz.zeroValue3
 t4 := Tryz.underlying4
 a4 := Tryz.isAgg4
 z4 := Tryz.sizeOf4
 v4 := Tryz.zeroValue4
 t5 := Tryz.underlying5
 a5 := Tryz.isAgg5
 z5 := Tryz.sizeOf5
 v5 := Tryz.zeroValue5
 t9 := Tryz.underlying9
 a9 := Tryz.isAgg9
 z9 := Tryz.sizeOf9
 v9 := Tryz.zeroValue9
 t20 := Tryz.underlying20
 a20 := Tryz.isAgg20
 z20 := Tryz.sizeOf20
 v20 := Tryz.zeroValue20
 t37 := Tryz.underlying173
 a37 := Tryz.isAgg173
 z37 := Tryz.sizeOf173
 v37 := Tryz.zeroValue173
 t46 := Tryz.underlying161
 a46 := Tryz.isAgg161
 z46 := Tryz.sizeOf161
 v46 := Tryz.zeroValue161
 t51 := Tryz.underlying169
 a51 := Tryz.isAgg169
 z51 := Tryz.sizeOf169
 v51 := Tryz.zeroValue169
 t53 := Tryz.underlying185
 a53 := Tryz.isAgg185
 z53 := Tryz.sizeOf185
 v53 := Tryz.zeroValue185
 t171 := Tryz.underlying184
 a171 := Tryz.isAgg184
 z171 := Tryz.sizeOf184
 v171 := Tryz.zeroValue184
 t173 := Tryz.underlying188
 a173 := Tryz.isAgg188
 z173 := Tryz.sizeOf188
 v173 := Tryz.zeroValue188
 t212 := Tryz.underlying222
 a212 := Tryz.isAgg222
 z212 := Tryz.sizeOf222
 v212 := Tryz.zeroValue222
 t213 := Tryz.underlying223
 a213 := Tryz.isAgg223
 z213 := Tryz.sizeOf223
 t232 := Tryz.underlying244
 a232 := Tryz.isAgg244
 z232 := Tryz.sizeOf244
 v232 := Tryz.zeroValue244
 t233 := Tryz.underlying245
 a233 := Tryz.isAgg245
 z233 := Tryz.sizeOf245
 v233 := Tryz.zeroValue245
 g17 := by kernel_rfl
 g18 := by kernel_rfl
 g19 := by kernel_rfl }
open Go.RowKit Go.Sort Go.Lib in
theorem Tryz.strconv_Itoa_small (i : Nat) (hi : i < 100) (w : World) :
 Calls Tryz.prog 35 #[.int .i64 i] w fun e w' => e = .returned (.string ⟨(Lib.decDigits i).toArray⟩) ∧ w' = w := Any.strconv_Itoa_small Tryz.lays171 i hi w
def Tryz.lays247_ren : Go.Shelf.Ren := ⟨fun | 247 => 96 | 287 => 128 | 321 => 150 | 322 => 151 | n => n, fun | 9 => 9 | 3 => 3 | 2 => 2 | 75 => 111 | 4 => 4 | 167 => 172 | 5 => 5 | 53 => 185 | 175 => 214 | 46 => 161 | 37 => 173 | 0 => 0 | 21 => 21 | 80 => 183 | n => n, fun | n => n⟩
def Tryz.laysM316_ren : Go.Shelf.Ren := ⟨fun | 316 => 129 | n => n, fun | 9 => 9 | 3 => 3 | 4 => 4 | 37 => 173 | 0 => 0 | 127 => 220 | 5 => 5 | n => n, fun | n => n⟩
def Tryz.laysM279_ren : Go.Shelf.Ren := ⟨fun | 279 => 97 | 316 => 129 | n => n, fun | 9 => 9 | 168 => 176 | 75 => 111 | 210 => 218 | 3 => 3 | 4 => 4 | 37 => 173 | 0 => 0 | 127 => 220 | 80 => 183 | 5 => 5 | n => n, fun | 15 => 2 | n => n⟩
def Tryz.laysC245_ren : Go.Shelf.Ren := ⟨fun | 245 => 76 | 279 => 97 | 280 => 98 | 281 => 99 | 282 => 100 | 316 => 129 | 171 => 35 | 205 => 130 | 243 => 56 | 246 => 80 | 283 => 104 | 284 => 105 | 285 => 106 | 286 => 107 | 129 => 134 | 317 => 133 | 318 => 135 | 319 => 136 | 320 => 137 | 337 => 154 | 338 => 155 | n => n, fun | 9 => 9 | 3 => 3 | 75 => 111 | 167 => 172 | 4 => 4 | 168 => 176 | 210 => 218 | 37 => 173 | 0 => 0 | 127 => 220 | 145 => 232 | 143 => 230 | 2 => 2 | 171 => 184 | 53 => 185 | 5 => 5 | 173 => 188 | 212 => 222 | 51 => 169 | 20 => 20 | 213 => 223 | 46 => 161 | 232 => 244 | 233 => 245 | 80 => 183 | n => n, fun | 15 => 2 | 16 => 3 | 17 => 4 | 18 => 8 | 19 => 9 | n => n⟩
def Tryz.lays321_ren : Go.Shelf.Ren := ⟨fun | 321 => 150 | n => n, fun | 5 => 5 | n => n, fun | n => n⟩
def Tryz.lays287_ren : Go.Shelf.Ren := ⟨fun | 287 => 128 | 321 => 150 | 322 => 151 | n => n, fun | 9 => 9 | 3 => 3 | 53 => 185 | 75 => 111 | 4 => 4 | 167 => 172 | 5 => 5 | 46 => 161 | 37 => 173 | 0 => 0 | 21 => 21 | 80 => 183 | n => n, fun | n => n⟩
def Tryz.laysC247_ren : Go.Shelf.Ren := ⟨fun | 247 => 96 | 287 => 128 | 321 => 150 | 322 => 151 | n => n, fun | 9 => 9 | 3 => 3 | 2 => 2 | 75 => 111 | 4 => 4 | 167 => 172 | 5 => 5 | 53 => 185 | 175 => 214 | 46 => 161 | 37 => 173 | 0 => 0 | 21 => 21 | 80 => 183 | n => n, fun | n => n⟩
def Tryz.laysC244_ren : Go.Shelf.Ren := ⟨fun | 244 => 75 | 247 => 96 | 287 => 128 | 321 => 150 | 322 => 151 | n => n, fun | 9 => 9 | 3 => 3 | 75 => 111 | 4 => 4 | 5 => 5 | 167 => 172 | 37 => 173 | 0 => 0 | 85 => 174 | 2 => 2 | 53 => 185 | 175 => 214 | 46 => 161 | 21 => 21 | 80 => 183 | n => n, fun | n => n⟩
def Tryz.laysM280_ren : Go.Shelf.Ren := ⟨fun | 280 => 98 | 316 => 129 | n => n, fun | 9 => 9 | 168 => 176 | 75 => 111 | 210 => 218 | 3 => 3 | 4 => 4 | 37 => 173 | 0 => 0 | 127 => 220 | 80 => 183 | 5 => 5 | n => n, fun | 16 => 3 | n => n⟩
def Tryz.laysC172_ren : Go.Shelf.Ren := ⟨fun | 172 => 54 | 244 => 75 | 245 => 76 | 247 => 96 | 279 => 97 | 280 => 98 | 281 => 99 | 282 => 100 | 287 => 128 | 316 => 129 | 171 => 35 | 205 => 130 | 321 => 150 | 322 => 151 | 243 => 56 | 246 => 80 | 283 => 104 | 284 => 105 | 285 => 106 | 286 => 107 | 129 => 134 | 317 => 133 | 318 => 135 | 319 => 136 | 320 => 137 | 337 => 154 | 338 => 155 | n => n, fun | 9 => 9 | 3 => 3 | 75 => 111 | 76 => 112 | 4 => 4 | 5 => 5 | 167 => 172 | 37 => 173 | 0 => 0 | 85 => 174 | 2 => 2 | 168 => 176 | 53 => 185 | 175 => 214 | 46 => 161 | 210 => 218 | 127 => 220 | 145 => 232 | 143 => 230 | 21 => 21 | 171 => 184 | 173 => 188 | 212 => 222 | 51 => 169 | 20 => 20 | 213 => 223 | 232 => 244 | 233 => 245 | 80 => 183 | n => n, fun | 15 => 2 | 16 => 3 | 17 => 4 | 18 => 8 | 19 => 9 | n => n⟩
theorem Tryz.laysC172 : Go.Proofs.LaysC.n172 Tryz.prog Tryz.laysC172_ren := {
 mixed := by kernel_rfl
 f129 := Tryz.func134.trans (congrArg some (by kernel_rfl))
 f171 := Tryz.func35.trans (congrArg some (by kernel_rfl))
 f172 := Tryz.func54.trans (congrArg some (by kernel_rfl))
 f205 := Tryz.func130.trans (congrArg some (by kernel_rfl))
 f243 := Tryz.func56.trans (congrArg some (by kernel_rfl))
 f244 := Tryz.func75.trans (congrArg some (by kernel_rfl))
 f245 := Tryz.func76.trans (congrArg some (by kernel_rfl))
 f246 := Tryz.func80.trans (congrArg some (by kernel_rfl))
 f247 := Tryz.func96.trans (congrArg some (by kernel_rfl))
 f279 := Tryz.func97.trans (congrArg some (by kernel_rfl))
 f280 := Tryz.func98.trans (congrArg some (by kernel_rfl))
 f281 := Tryz.func99.trans (congrArg some (by kernel_rfl))
 f282 := Tryz.func100.trans (congrArg some (by kernel_rfl))
 f283 := Tryz.func104.trans (congrArg some (by kernel_rfl))
 f284 := Tryz.func105.trans (congrArg some (by kernel_rfl))
 f285 := Tryz.func106.trans (congrArg some (by kernel_rfl))
 f286 := Tryz.func107.trans (congrArg some (by kernel_rfl))
 f287 := Tryz.func128.trans (congrArg some (by kernel_rfl))
 f316 := Tryz.func129.trans (congrArg some (by kernel_rfl))
 f317 := Tryz.func133.trans (congrArg some (by kernel_rfl))
 f318 := Tryz.func135.trans (congrArg some (by kernel_rfl))
 f319 := Tryz.func136.trans (congrArg some (by kernel_rfl))
 f320 := Tryz.func137.trans (congrArg some (by kernel_rfl))
 f321 := Tryz.func150.trans (congrArg some (by kernel_rfl))
 f322 := Tryz.func151.trans (congrArg some (by kernel_rfl))
 f337 := Tryz.func154.trans (congrArg some (by kernel_rfl))
 f338 := Tryz.func155.trans (congrArg some (by kernel_rfl))
 t0 := Tryz.underlying0
 a0 := Tryz.isAgg0
 z0 := Tryz.sizeOf0
 v0 := Tryz.zeroValue0
 t2 := Tryz.underlying2
 a2 := Tryz.isAgg2
 z2 := Tryz.sizeOf2
 v2 := Tryz.zeroValue2
 t3 := Tryz.underlying3
 a3 := Tryz.isAgg3
 z3 := Tryz.sizeOf3
 v3 := Tryz.zeroValue3
 t4 := Tryz.underlying4
 a4 := Tryz.isAgg4
 z4 := Tryz.sizeOf4
 v4 := Tryz.zeroValue4
 t5 := Tryz.underlying5
 a5 := Tryz.isAgg5
 z5 := Tryz.sizeOf5
 v5 := Tryz.zeroValue5
 t9 := Tryz.underlying9
 a9 := Tryz.isAgg9
 z9 := Tryz.sizeOf9
 v9 := Tryz.zeroValue9
 t20 := Tryz.underlying20
 a20 := Tryz.isAgg20
 z20 := Tryz.sizeOf20
 v20 := Tryz.zeroValue20
 t21 := Tryz.underlying21
 a21 := Tryz.isAgg21
 z21 := Tryz.sizeOf21
 v21 := Tryz.zeroValue21
 t37 := Tryz.underlying173
 a37 := Tryz.isAgg173
 z37 := Tryz.sizeOf173
 v37 := Tryz.zeroValue173
 t46 := Tryz.underlying161
 a46 := Tryz.isAgg161
 z46 := Tryz.sizeOf161
 v46 := Tryz.zeroValue161
 t51 := Tryz.underlying169
 a51 := Tryz.isAgg169
 z51 := Tryz.sizeOf169
 v51 := Tryz.zeroValue169
 t53 := Tryz.underlying185
 a53 := Tryz.isAgg185
 z53 := Tryz.sizeOf185
 v53 := Tryz.zeroValue185
 t75 := Tryz.underlying111
 a75 := Tryz.isAgg111
 z75 := Tryz.sizeOf111
 v75 := Tryz.zeroValue111
 t76 := Tryz.underlying112
 a76 := Tryz.isAgg112
 z76 := Tryz.sizeOf112
 v76 := Tryz.zeroValue112
 t85 := Tryz.underlying174
 a85 := Tryz.isAgg174
 z85 := Tryz.sizeOf174
 v85 := Tryz.zeroValue174
 t127 := Tryz.underlying220
 a127 := Tryz.isAgg220
 z127 := Tryz.sizeOf220
 v127 := Tryz.zeroValue220
 t143 := Tryz.underlying230
 a143 := Tryz.isAgg230
 z143 := Tryz.sizeOf230
 v143 := Tryz.zeroValue230
 t145 := Tryz.underlying232
 a145 := Tryz.isAgg232
 z145 := Tryz.sizeOf232
 v145 := Tryz.zeroValue232
 t167 := Tryz.underlying172
 a167 := Tryz.isAgg172
 z167 := Tryz.sizeOf172
 v167 := Tryz.zeroValue172
 t168 := Tryz.underlying176
 a168 := Tryz.isAgg176
 z168 := Tryz.sizeOf176
 v168 := Tryz.zeroValue176
 t171 := Tryz.underlying184
 a171 := Tryz.isAgg184
 z171 := Tryz.sizeOf184
 v171 := Tryz.zeroValue184
 t173 := Tryz.underlying188
 a173 := Tryz.isAgg188
 z173 := Tryz.sizeOf188
 v173 := Tryz.zeroValue188
 t175 := Tryz.underlying214
 a175 := Tryz.isAgg214
 z175 := Tryz.sizeOf214
 v175 := Tryz.zeroValue214
 t210 := Tryz.underlying218
 a210 := Tryz.isAgg218
 z210 := Tryz.sizeOf218
 v210 := Tryz.zeroValue218
 t212 := Tryz.underlying222
 a212 := Tryz.isAgg222
 z212 := Tryz.sizeOf222
 v212 := Tryz.zeroValue222
 t213 := Tryz.underlying223
 a213 := Tryz.isAgg223
 z213 := Tryz.sizeOf223
 t232 := Tryz.underlying244
 a232 := Tryz.isAgg244
 z232 := Tryz.sizeOf244
 v232 := Tryz.zeroValue244
 t233 := Tryz.underlying245
 a233 := Tryz.isAgg245
 z233 := Tryz.sizeOf245
 v233 := Tryz.zeroValue245
 g15 := by kernel_rfl
 g16 := by kernel_rfl
 g17 := by kernel_rfl
 g18 := by kernel_rfl
 g19 := by kernel_rfl
 t80 := Tryz.underlying183
 a80 := Tryz.isAgg183
 z80 := Tryz.sizeOf183
 v80 := Tryz.zeroValue183
 i0 := by kernel_rfl
 i2 := by kernel_rfl
 i3 := by kernel_rfl
 i4 := by kernel_rfl
 i5 := by kernel_rfl
 i9 := by kernel_rfl
 i20 := by kernel_rfl
 i21 := by kernel_rfl
 i37 := by kernel_rfl
 i46 := by kernel_rfl
 i51 := by kernel_rfl
 i53 := by kernel_rfl
 i75 := by kernel_rfl
 i76 := by kernel_rfl
 i80 := by kernel_rfl
 i85 := by kernel_rfl
 i127 := by kernel_rfl
 i143 := by kernel_rfl
 i145 := by kernel_rfl
 i167 := by kernel_rfl
 i168 := by kernel_rfl
 i171 := by kernel_rfl
 i173 := by kernel_rfl
 i175 := by kernel_rfl
 i210 := by kernel_rfl
 i212 := by kernel_rfl
 i232 := by kernel_rfl
 i233 := by kernel_rfl
 m15 := by kernel_rfl
 m16 := by kernel_rfl
 m17 := by kernel_rfl
 m18 := by kernel_rfl
 m19 := by kernel_rfl
 c0 := by kernel_rfl
 c2 := by kernel_rfl
 c3 := by kernel_rfl
 c4 := by kernel_rfl
 c5 := by kernel_rfl
 c9 := by kernel_rfl
 c20 := by kernel_rfl
 c21 := by kernel_rfl
 c37 := by kernel_rfl
 c46 := by kernel_rfl
 c51 := by kernel_rfl
 c53 := by kernel_rfl
 c75 := by kernel_rfl
 c76 := by kernel_rfl
 c80 := by kernel_rfl
 c85 := by kernel_rfl
 c127 := by kernel_rfl
 c143 := by kernel_rfl
 c145 := by kernel_rfl
 c167 := by kernel_rfl
 c168 := by kernel_rfl
 c171 := by kernel_rfl
 c173 := by kernel_rfl
 c175 := by kernel_rfl
 c210 := by kernel_rfl
 c212 := by kernel_rfl
 c213 := by kernel_rfl
 c232 := by kernel_rfl
 c233 := by kernel_rfl }
open Go.RowKit in
theorem Tryz.strconv_Atoi_ok (s : ByteArray) (hmax : s.size ≤ 9223372036854775806) (v : Int) (h : Lib.atoiAll s.data.toList = .ok v) (w : World) :
 Calls Tryz.prog 54 #[.string s] w fun e w' => e = .returned (.tuple #[.int .i64 v, .nilIface]) ∧ (w' = w ∨ ∃ t, w' = Lib.bytesWorld w 5 t) := Any.strconv_Atoi_ok Tryz.laysC172 s hmax v h w
open Go.RowKit in
theorem Tryz.strconv_Atoi_range (s : ByteArray) (hlim : s.size ≤ 281474976710656) (h : Lib.atoiAll s.data.toList = .range) (ev : Value) (w : World) (hv : w.cell? ⟨3, 0, none⟩ = some ev) (hev : ev = .nilIface ∨ ∃ te pe, ev = .iface te pe) :
 Calls Tryz.prog 54 #[.string s] w fun e w' => ∃ N, e = .returned (.tuple #[.int .i64 (Lib.atoiSat s.data.toList), .iface 176 (.pointer (some ⟨N, 0, none⟩))]) ∧ w.heap.size ≤ N ∧ w'.heap[N]? = some (.cells #[.string ⟨#[65, 116, 111, 105]⟩, .string s, ev] 218 (0, 0)) ∧ Below w.heap.size w w' := Any.strconv_Atoi_range Tryz.laysC172 s hlim h ev w hv hev
def Tryz.lays217_ren : Go.Shelf.Ren := ⟨fun | 217 => 146 | 266 => 162 | n => n, fun | 9 => 9 | 5 => 5 | 3 => 3 | n => n, fun | n => n⟩
def Tryz.lays224_ren : Go.Shelf.Ren := ⟨fun | 224 => 148 | n => n, fun | 3 => 3 | n => n, fun | n => n⟩
def Tryz.lays314_ren : Go.Shelf.Ren := ⟨fun | 314 => 163 | n => n, fun | 9 => 9 | 51 => 169 | 3 => 3 | 4 => 4 | 5 => 5 | 46 => 161 | n => n, fun | n => n⟩
def Tryz.lays267_ren : Go.Shelf.Ren := ⟨fun | 267 => 149 | 314 => 163 | n => n, fun | 9 => 9 | 3 => 3 | 146 => 195 | 51 => 169 | 4 => 4 | 5 => 5 | 46 => 161 | n => n, fun | n => n⟩
def Tryz.lays219_ren : Go.Shelf.Ren := ⟨fun | 219 => 125 | 217 => 146 | 225 => 147 | 224 => 148 | 267 => 149 | 266 => 162 | 314 => 163 | n => n, fun | 9 => 9 | 3 => 3 | 4 => 4 | 5 => 5 | 46 => 161 | 146 => 195 | 51 => 169 | n => n, fun | 1 => 5 | n => n⟩
def Tryz.lays143_ren : Go.Shelf.Ren := ⟨fun | 143 => 94 | 219 => 125 | 217 => 146 | 225 => 147 | 224 => 148 | 267 => 149 | 266 => 162 | 314 => 163 | n => n, fun | 9 => 9 | 3 => 3 | 4 => 4 | 5 => 5 | 46 => 161 | 146 => 195 | 51 => 169 | n => n, fun | 1 => 5 | n => n⟩
def Tryz.lays138_ren : Go.Shelf.Ren := ⟨fun | 138 => 93 | 195 => 122 | 218 => 124 | 143 => 94 | 219 => 125 | 217 => 146 | 225 => 147 | 224 => 148 | 267 => 149 | 266 => 162 | 314 => 163 | n => n, fun | 9 => 9 | 3 => 3 | 4 => 4 | 5 => 5 | 0 => 0 | 46 => 161 | 146 => 195 | 51 => 169 | n => n, fun | 1 => 5 | n => n⟩
def Tryz.laysM219_ren : Go.Shelf.Ren := ⟨fun | 219 => 125 | 217 => 146 | 225 => 147 | 224 => 148 | 267 => 149 | 266 => 162 | 314 => 163 | n => n, fun | 9 => 9 | 3 => 3 | 4 => 4 | 5 => 5 | 46 => 161 | 146 => 195 | 51 => 169 | n => n, fun | 1 => 5 | n => n⟩
def Tryz.laysM143_ren : Go.Shelf.Ren := ⟨fun | 143 => 94 | 219 => 125 | 217 => 146 | 225 => 147 | 224 => 148 | 267 => 149 | 266 => 162 | 314 => 163 | n => n, fun | 9 => 9 | 3 => 3 | 4 => 4 | 5 => 5 | 46 => 161 | 146 => 195 | 51 => 169 | n => n, fun | 1 => 5 | n => n⟩
def Tryz.laysM138_ren : Go.Shelf.Ren := ⟨fun | 138 => 93 | 195 => 122 | 218 => 124 | 143 => 94 | 219 => 125 | 217 => 146 | 225 => 147 | 224 => 148 | 267 => 149 | 266 => 162 | 314 => 163 | n => n, fun | 9 => 9 | 3 => 3 | 4 => 4 | 5 => 5 | 0 => 0 | 46 => 161 | 146 => 195 | 51 => 169 | n => n, fun | 1 => 5 | n => n⟩
def Tryz.lays221_ren : Go.Shelf.Ren := ⟨fun | 221 => 72 | 268 => 92 | 138 => 93 | 143 => 94 | 195 => 122 | 197 => 123 | 218 => 124 | 219 => 125 | 260 => 145 | 217 => 146 | 225 => 147 | 224 => 148 | 267 => 149 | 266 => 162 | 314 => 163 | n => n, fun | 9 => 9 | 3 => 3 | 31 => 42 | 4 => 4 | 0 => 0 | 105 => 200 | 21 => 21 | 5 => 5 | 46 => 161 | 119 => 145 | 139 => 242 | 138 => 241 | 146 => 195 | 51 => 169 | n => n, fun | 1 => 5 | 3 => 6 | 4 => 7 | n => n⟩
def Tryz.lays146_ren : Go.Shelf.Ren := ⟨fun | 146 => 52 | 221 => 72 | 268 => 92 | 138 => 93 | 143 => 94 | 195 => 122 | 197 => 123 | 218 => 124 | 219 => 125 | 260 => 145 | 217 => 146 | 225 => 147 | 224 => 148 | 267 => 149 | 266 => 162 | 314 => 163 | n => n, fun | 9 => 9 | 31 => 42 | 3 => 3 | 4 => 4 | 0 => 0 | 105 => 200 | 21 => 21 | 5 => 5 | 46 => 161 | 119 => 145 | 139 => 242 | 138 => 241 | 146 => 195 | 51 => 169 | n => n, fun | 1 => 5 | 3 => 6 | 4 => 7 | n => n⟩
theorem Tryz.lays146 : Go.Proofs.Lays.n146 Tryz.prog Tryz.lays146_ren := {
 mixed := by kernel_rfl
 f138 := Tryz.func93.trans (congrArg some (by kernel_rfl))
 f143 := Tryz.func94.trans (congrArg some (by kernel_rfl))
 f146 := Tryz.func52.trans (congrArg some (by kernel_rfl))
 f195 := Tryz.func122.trans (congrArg some (by kernel_rfl))
 f197 := Tryz.func123.trans (congrArg some (by kernel_rfl))
 f217 := Tryz.func146.trans (congrArg some (by kernel_rfl))
 f218 := Tryz.func124.trans (congrArg some (by kernel_rfl))
 f219 := Tryz.func125.trans (congrArg some (by kernel_rfl))
 f221 := Tryz.func72.trans (congrArg some (by kernel_rfl))
 f224 := Tryz.func148.trans (congrArg some (by kernel_rfl))
 f225 := Tryz.func147.trans (congrArg some (by kernel_rfl))
 f260 := Tryz.func145.trans (congrArg some (by kernel_rfl))
 f266 := Tryz.func162.trans (congrArg some (by kernel_rfl))
 f267 := Tryz.func149.trans (congrArg some (by kernel_rfl))
 f268 := Tryz.func92.trans (congrArg some (by kernel_rfl))
 f314 := Tryz.func163.trans (congrArg some (by kernel_rfl))
 t0 := Tryz.underlying0
 a0 := Tryz.isAgg0
 z0 := Tryz.sizeOf0
 v0 := Tryz.zeroValue0
 t3 := Tryz.underlying3
 a3 := Tryz.isAgg3
 z3 := Tryz.sizeOf3
 v3 := Tryz.zeroValue3
 t4 := Tryz.underlying4
 a4 := Tryz.isAgg4
 z4 := Tryz.sizeOf4
 v4 := Tryz.zeroValue4
 t5 := Tryz.underlying5
 a5 := Tryz.isAgg5
 z5 := Tryz.sizeOf5
 v5 := Tryz.zeroValue5
 t9 := Tryz.underlying9
 a9 := Tryz.isAgg9
 z9 := Tryz.sizeOf9
 v9 := Tryz.zeroValue9
 t21 := Tryz.underlying21
 a21 := Tryz.isAgg21
 z21 := Tryz.sizeOf21
 v21 := Tryz.zeroValue21
 t31 := Tryz.underlying42
 a31 := Tryz.isAgg42
 z31 := Tryz.sizeOf42
 v31 := Tryz.zeroValue42
 t46 := Tryz.underlying161
 a46 := Tryz.isAgg161
 z46 := Tryz.sizeOf161
 v46 := Tryz.zeroValue161
 t51 := Tryz.underlying169
 a51 := Tryz.isAgg169
 z51 := Tryz.sizeOf169
 v51 := Tryz.zeroValue169
 t105 := Tryz.underlying200
 a105 := Tryz.isAgg200
 z105 := Tryz.sizeOf200
 v105 := Tryz.zeroValue200
 t119 := Tryz.underlying145
 a119 := Tryz.isAgg145
 z119 := Tryz.sizeOf145
 t138 := Tryz.underlying241
 a138 := Tryz.isAgg241
 z138 := Tryz.sizeOf241
 v138 := Tryz.zeroValue241
 t139 := Tryz.underlying242
 a139 := Tryz.isAgg242
 z139 := Tryz.sizeOf242
 v139 := Tryz.zeroValue242
 t146 := Tryz.underlying195
 a146 := Tryz.isAgg195
 z146 := Tryz.sizeOf195
 v146 := Tryz.zeroValue195
 g1 := by kernel_rfl
 g3 := by kernel_rfl
 g4 := by kernel_rfl }
open Go.RowKit Go.Lib in
theorem Tryz.strings_Split (s sep : ByteArray) (m : Int) (w : World) (hs : s.size < 4294967281) (hm : w.cell? ⟨5, 0, none⟩ = some (.int .i64 m)) (h1 : 1 ≤ sep.size) :
 Calls Tryz.prog 52 #[.string s, .string sep] w fun e w' =>
  e = .returned (.slice (some ⟨w.heap.size, 0, none⟩) (Lib.countB s sep + 1) (Lib.countB s sep + 1)) ∧ w' = w.alloc (.cells ((Lib.splitB sep 0 (Lib.countB s sep) s).map Value.string).toArray 9) := Any.strings_Split Tryz.lays146 (by kernel_rfl) s sep m w hs hm h1
def Tryz.lays157_ren : Go.Shelf.Ren := ⟨fun | 157 => 53 | 229 => 73 | 199 => 74 | 261 => 95 | 311 => 126 | 312 => 127 | n => n, fun | 9 => 9 | 31 => 42 | 3 => 3 | 5 => 5 | 4 => 4 | 119 => 145 | 0 => 0 | 40 => 147 | 152 => 166 | 21 => 21 | 154 => 168 | 51 => 169 | 141 => 171 | 196 => 206 | 193 => 203 | 198 => 209 | 49 => 207 | 194 => 204 | 201 => 212 | 226 => 226 | 46 => 161 | 227 => 227 | n => n, fun | 0 => 0 | 6 => 1 | n => n⟩
theorem Tryz.lays157 : Go.Proofs.Lays.n157 Tryz.prog Tryz.lays157_ren := {
 mixed := by kernel_rfl
 f157 := Tryz.func53.trans (congrArg some (by kernel_rfl))
 f199 := Tryz.func74.trans (congrArg some (by kernel_rfl))
 f229 := Tryz.func73.trans (congrArg some (by kernel_rfl))
 f261 := Tryz.func95.trans (congrArg some (by kernel_rfl))
 f311 := Tryz.func126.trans (congrArg some (by kernel_rfl))
 f312 := Tryz.func127.trans (congrArg some (by kernel_rfl))
 t0 := Tryz.underlying0
 a0 := Tryz.isAgg0
 z0 := Tryz.sizeOf0
 v0 := Tryz.zeroValue0
 t3 := Tryz.underlying3
 a3 := Tryz.isAgg3
 z3 := Tryz.sizeOf3
 v3 := Tryz.zeroValue3
 t4 := Tryz.underlying4
 a4 := Tryz.isAgg4
 z4 := Tryz.sizeOf4
 v4 := Tryz.zeroValue4
 t5 := Tryz.underlying5
 a5 := Tryz.isAgg5
 z5 := Tryz.sizeOf5
 v5 := Tryz.zeroValue5
 t9 := Tryz.underlying9
 a9 := Tryz.isAgg9
 z9 := Tryz.sizeOf9
 v9 := Tryz.zeroValue9
 t21 := Tryz.underlying21
 a21 := Tryz.isAgg21
 z21 := Tryz.sizeOf21
 v21 := Tryz.zeroValue21
 t31 := Tryz.underlying42
 a31 := Tryz.isAgg42
 z31 := Tryz.sizeOf42
 v31 := Tryz.zeroValue42
 t40 := Tryz.underlying147
 a40 := Tryz.isAgg147
 z40 := Tryz.sizeOf147
 v40 := Tryz.zeroValue147
 t46 := Tryz.underlying161
 a46 := Tryz.isAgg161
 z46 := Tryz.sizeOf161
 v46 := Tryz.zeroValue161
 t49 := Tryz.underlying207
 a49 := Tryz.isAgg207
 z49 := Tryz.sizeOf207
 v49 := Tryz.zeroValue207
 t51 := Tryz.underlying169
 a51 := Tryz.isAgg169
 z51 := Tryz.sizeOf169
 v51 := Tryz.zeroValue169
 t119 := Tryz.underlying145
 a119 := Tryz.isAgg145
 z119 := Tryz.sizeOf145
 t141 := Tryz.underlying171
 a141 := Tryz.isAgg171
 z141 := Tryz.sizeOf171
 v141 := Tryz.zeroValue171
 t152 := Tryz.underlying166
 a152 := Tryz.isAgg166
 z152 := Tryz.sizeOf166
 v152 := Tryz.zeroValue166
 t154 := Tryz.underlying168
 a154 := Tryz.isAgg168
 z154 := Tryz.sizeOf168
 v154 := Tryz.zeroValue168
 t193 := Tryz.underlying203
 a193 := Tryz.isAgg203
 z193 := Tryz.sizeOf203
 v193 := Tryz.zeroValue203
 t194 := Tryz.underlying204
 a194 := Tryz.isAgg204
 z194 := Tryz.sizeOf204
 v194 := Tryz.zeroValue204
 t196 := Tryz.underlying206
 a196 := Tryz.isAgg206
 z196 := Tryz.sizeOf206
 v196 := Tryz.zeroValue206
 t198 := Tryz.underlying209
 a198 := Tryz.isAgg209
 z198 := Tryz.sizeOf209
 v198 := Tryz.zeroValue209
 t201 := Tryz.underlying212
 a201 := Tryz.isAgg212
 z201 := Tryz.sizeOf212
 v201 := Tryz.zeroValue212
 t226 := Tryz.underlying226
 a226 := Tryz.isAgg226
 z226 := Tryz.sizeOf226
 v226 := Tryz.zeroValue226
 t227 := Tryz.underlying227
 a227 := Tryz.isAgg227
 z227 := Tryz.sizeOf227
 v227 := Tryz.zeroValue227
 g0 := by kernel_rfl
 g6 := by kernel_rfl }
open Go.RowKit Go.Lib in
theorem Tryz.strings_Fields (s : ByteArray) (w : World) (hs : s.size < 4294967281) (hascii : ∀ (j : Nat) b, s.data.toList[j]? = some b → b.toNat < 128) (htab : Lib.TabIs Tryz.prog w "strings.asciiSpace" .u8 Lib.asciiSpaceTab) :
 Calls Tryz.prog 53 #[.string s] w fun e w' =>
  e = .returned (.slice (some ⟨w.heap.size, 0, none⟩) (Lib.fields s.data.toList).length (Lib.fields s.data.toList).length) ∧ w' = w.alloc (.cells ((Lib.fields s.data.toList).map fun l => Value.string ⟨l.toArray⟩).toArray 9) := Any.strings_Fields Tryz.lays157 (by kernel_rfl) (by kernel_rfl) s w hs hascii htab
def Tryz.laysM146_ren : Go.Shelf.Ren := ⟨fun | 146 => 52 | 221 => 72 | 268 => 92 | 138 => 93 | 143 => 94 | 195 => 122 | 197 => 123 | 218 => 124 | 219 => 125 | 260 => 145 | 217 => 146 | 225 => 147 | 224 => 148 | 267 => 149 | 266 => 162 | 314 => 163 | n => n, fun | 9 => 9 | 31 => 42 | 3 => 3 | 4 => 4 | 0 => 0 | 105 => 200 | 21 => 21 | 5 => 5 | 46 => 161 | 119 => 145 | 139 => 242 | 138 => 241 | 146 => 195 | 51 => 169 | n => n, fun | 1 => 5 | 3 => 6 | 4 => 7 | n => n⟩
def Tryz.laysM157_ren : Go.Shelf.Ren := ⟨fun | 157 => 53 | 229 => 73 | 199 => 74 | 261 => 95 | 311 => 126 | 312 => 127 | n => n, fun | 9 => 9 | 31 => 42 | 3 => 3 | 5 => 5 | 4 => 4 | 119 => 145 | 0 => 0 | 40 => 147 | 152 => 166 | 21 => 21 | 154 => 168 | 51 => 169 | 141 => 171 | 196 => 206 | 193 => 203 | 198 => 209 | 49 => 207 | 194 => 204 | 201 => 212 | 226 => 226 | 46 => 161 | 227 => 227 | n => n, fun | 0 => 0 | 6 => 1 | n => n⟩
def Tryz.lays199_ren : Go.Shelf.Ren := ⟨fun | 199 => 74 | 261 => 95 | 311 => 126 | 312 => 127 | n => n, fun | 21 => 21 | 4 => 4 | 51 => 169 | 141 => 171 | 0 => 0 | 196 => 206 | 193 => 203 | 3 => 3 | 198 => 209 | 49 => 207 | 194 => 204 | 201 => 212 | 226 => 226 | 46 => 161 | 227 => 227 | n => n, fun | 6 => 1 | n => n⟩
def Tryz.lays264_ren : Go.Shelf.Ren := ⟨fun | 264 => 121 | n => n, fun | 53 => 185 | 46 => 161 | n => n, fun | n => n⟩
def Tryz.lays212_ren : Go.Shelf.Ren := ⟨fun | 212 => 91 | 263 => 120 | 264 => 121 | n => n, fun | 46 => 161 | 51 => 169 | 146 => 195 | 53 => 185 | 148 => 197 | n => n, fun | n => n⟩
theorem Tryz.lays212 : Go.Proofs.Lays.n212 Tryz.prog Tryz.lays212_ren := {
 mixed := by kernel_rfl
 f212 := Tryz.func91.trans (congrArg some (by kernel_rfl))
 f263 := Tryz.func120.trans (congrArg some (by kernel_rfl))
 f264 := Tryz.func121.trans (congrArg some (by kernel_rfl))
 t46 := Tryz.underlying161
 a46 := Tryz.isAgg161
 z46 := Tryz.sizeOf161
 v46 := Tryz.zeroValue161
 t51 := Tryz.underlying169
 a51 := Tryz.isAgg169
 z51 := Tryz.sizeOf169
 v51 := Tryz.zeroValue169
 t53 := Tryz.underlying185
 a53 := Tryz.isAgg185
 z53 := Tryz.sizeOf185
 v53 := Tryz.zeroValue185
 t146 := Tryz.underlying195
 a146 := Tryz.isAgg195
 z146 := Tryz.sizeOf195
 v146 := Tryz.zeroValue195
 t148 := Tryz.underlying197
 a148 := Tryz.isAgg197
 z148 := Tryz.sizeOf197
 v148 := Tryz.zeroValue197 }
open Go.RowKit Go.Lib in
theorem Tryz.bits_Mul (x y : Nat) (hx : x < 18446744073709551616) (hy : y < 18446744073709551616) (w : World) :
 Calls Tryz.prog 91 #[.int .u64 x, .int .u64 y] w fun e w' => e = .returned (.tuple #[.int .u64 ((x * y / 18446744073709551616 : Nat) : Int), .int .u64 ((x * y % 18446744073709551616 : Nat) : Int)]) ∧ w' = w := Any.bits_Mul Tryz.lays212 x y hx hy w
def Tryz.lays260_ren : Go.Shelf.Ren := ⟨fun | 260 => 145 | n => n, fun | 9 => 9 | 21 => 21 | 3 => 3 | 4 => 4 | 5 => 5 | 119 => 145 | 0 => 0 | 46 => 161 | 139 => 242 | 138 => 241 | n => n, fun | 3 => 6 | 4 => 7 | n => n⟩
def Tryz.lays311_ren : Go.Shelf.Ren := ⟨fun | 311 => 126 | n => n, fun | 193 => 203 | 49 => 207 | 4 => 4 | 3 => 3 | 0 => 0 | 226 => 226 | 198 => 209 | 46 => 161 | n => n, fun | n => n⟩
def Tryz.lays261_ren : Go.Shelf.Ren := ⟨fun | 261 => 95 | 311 => 126 | 312 => 127 | n => n, fun | 141 => 171 | 21 => 21 | 4 => 4 | 0 => 0 | 196 => 206 | 193 => 203 | 3 => 3 | 51 => 169 | 198 => 209 | 49 => 207 | 194 => 204 | 201 => 212 | 226 => 226 | 46 => 161 | 227 => 227 | n => n, fun | n => n⟩
def Tryz.lays229_ren : Go.Shelf.Ren := ⟨fun | 229 => 73 | n => n, fun | 9 => 9 | 40 => 147 | 31 => 42 | 152 => 166 | 3 => 3 | 0 => 0 | 4 => 4 | 21 => 21 | 154 => 168 | n => n, fun | n => n⟩
def Tryz.lays312_ren : Go.Shelf.Ren := ⟨fun | 312 => 127 | n => n, fun | 194 => 204 | 51 => 169 | 4 => 4 | 3 => 3 | 0 => 0 | 227 => 227 | 201 => 212 | 46 => 161 | n => n, fun | n => n⟩
def Tryz.lays113_ren : Go.Shelf.Ren := ⟨fun | 113 => 39 | n => n, fun | 28 => 24 | 3 => 3 | 4 => 4 | 9 => 9 | 20 => 20 | 0 => 0 | n => n, fun | n => n⟩
def Tryz.lays112_ren : Go.Shelf.Ren := ⟨fun | 112 => 62 | n => n, fun | 28 => 24 | 3 => 3 | 4 => 4 | 0 => 0 | n => n, fun | n => n⟩
theorem Tryz.lays112 : Go.Proofs.Lays.n112 Tryz.prog Tryz.lays112_ren := {
 mixed := by kernel_rfl
 f112 := Tryz.func62.trans (congrArg some (by kernel_rfl))
 t0 := Tryz.underlying0
 a0 := Tryz.isAgg0
 z0 := Tryz.sizeOf0
 v0 := Tryz.zeroValue0
 t3 := Tryz.underlying3
 a3 := Tryz.isAgg3
 z3 := Tryz.sizeOf3
 v3 := Tryz.zeroValue3
 t4 := Tryz.underlying4
 a4 := Tryz.isAgg4
 z4 := Tryz.sizeOf4
 v4 := Tryz.zeroValue4
 t28 := Tryz.underlying24
 a28 := Tryz.isAgg24
 z28 := Tryz.sizeOf24
 v28 := Tryz.zeroValue24 }
def Tryz.lays111_ren : Go.Shelf.Ren := ⟨fun | 111 => 24 | n => n, fun | 28 => 24 | 3 => 3 | 4 => 4 | 0 => 0 | n => n, fun | n => n⟩
def Tryz.lays193_ren : Go.Shelf.Ren := ⟨fun | 193 => 20 | n => n, fun | 31 => 42 | 9 => 9 | 4 => 4 | 3 => 3 | 0 => 0 | n => n, fun | n => n⟩
def Tryz.laysNm237_ren : Go.Shelf.Ren := ⟨fun | 37 => 71 | n => n, fun | 3 => 3 | 4 => 4 | n => n, fun | n => n⟩
def Tryz.laysNm231_ren : Go.Shelf.Ren := ⟨fun | 31 => 51 | 37 => 71 | n => n, fun | 3 => 3 | 4 => 4 | n => n, fun | n => n⟩
open Go.RowKit Go.Lib Go.Sort in
theorem Tryz.slices_Reverse_int_cells (b off n c : Nat) (zs : List Int) (w : World) (hz : n ≤ zs.length) (hbig : n ≤ 9223372036854775807) (hc : ∀ j, j < zs.length → w.cell? ⟨b, off + j, none⟩ = some (.int .i64 (zs.getD j 0))) (hf : ∀ j, j < n → w.frozen? ⟨b, off + j, none⟩ = false) :
 Calls Tryz.prog 62 #[.slice (some ⟨b, off, none⟩) n c] w fun e w' => e = .returned (.tuple #[]) ∧ ∃ q, w' = (w.drewN q).setCells b off ((zs.take n).reverse.map (Value.int .i64)) := Any.slices_Reverse_int_cells Tryz.lays112 b off n c zs w hz hbig hc hf
end Go.Proofs
namespace Go.Proofs.YtjjikhaaimfneaaGreatDoor
open Go.RowKit
set_option linter.unusedSimpArgs false
set_option linter.unusedVariables false
structure GL (w : World) : Prop where
 sp : Lib.TabIs Tryz.prog w "strings.asciiSpace" .u8 Lib.asciiSpaceTab
 pw : Lib.TabIs Tryz.prog w "internal/strconv.uint64pow10" .u64 Lib.pow10Tab
 ml : ∃ m : Int, w.cell? ⟨5, 0, none⟩ = some (.int .i64 m)
 es : ∃ ev, w.cell? ⟨2, 0, none⟩ = some ev ∧ (ev = .nilIface ∨ ∃ te pe, ev = .iface te pe)
 er : ∃ ev, w.cell? ⟨3, 0, none⟩ = some ev ∧ (ev = .nilIface ∨ ∃ te pe, ev = .iface te pe)
theorem cell_below {w w' : World} {b j : Nat} {v : Value} (h : w.cell? ⟨b, j, none⟩ = some v) (hb : Below w.heap.size w w') : w'.cell? ⟨b, j, none⟩ = some v := by
 have hlt := World.block_lt_of_cell? w _ h
 exact (World.cell?_of_block (a := ⟨b, j, none⟩) (hb.block b hlt)).trans h
theorem GL.below {w w' : World} (h : GL w) (hb : Below w.heap.size w w') : GL w' := by
 obtain ⟨h1, h2, ⟨m, h3⟩, ⟨e4, h4, h4'⟩, ⟨e5, h5, h5'⟩⟩ := h
 exact ⟨Joins.tab_stays (g := 0) (by kernel_rfl) h1 hb (Nat.le_refl _), Joins.tab_stays (g := 4) (by kernel_rfl) h2 hb (Nat.le_refl _), ⟨m, cell_below h3 hb⟩, ⟨e4, cell_below h4 hb, h4'⟩, ⟨e5, cell_below h5 hb, h5'⟩⟩
theorem fields_any (w : World) (h : GL w) : Calls Tryz.prog 53 #[.string ⟨#[118, 101, 103, 97, 115, 32, 99, 111, 112, 97, 32, 108, 101, 100, 98, 97, 116]⟩] w fun e w' => e = .returned (.slice (some ⟨w.heap.size, 0, none⟩) 3 3) ∧ w' = w.alloc (.cells #[.string ⟨veL.toArray⟩, .string ⟨coL.toArray⟩, .string ⟨leL.toArray⟩] 9) := by
 refine (Tryz.strings_Fields ⟨#[118, 101, 103, 97, 115, 32, 99, 111, 112, 97, 32, 108, 101, 100, 98, 97, 116]⟩ w (by decide) (fun j b hj => ?_) h.sp).mono ?_
 · have hm := List.mem_of_getElem? hj
   have : ∀ b ∈ ([118, 101, 103, 97, 115, 32, 99, 111, 112, 97, 32, 108, 101, 100, 98, 97, 116] : List UInt8), b.toNat < 128 := by decide
   exact this b hm
 · rintro e w' ⟨rfl, rfl⟩
   have e1 : Lib.fields (⟨#[118, 101, 103, 97, 115, 32, 99, 111, 112, 97, 32, 108, 101, 100, 98, 97, 116]⟩ : ByteArray).data.toList = [veL, coL, leL] := fields_names
   rw [e1]
   exact ⟨rfl, rfl⟩
theorem itoa_any (n : Int) (h0 : 0 ≤ n) (h1 : n < 100) (w : World) : Calls Tryz.prog 35 #[.int .i64 n] w fun e w' => e = .returned (.string ⟨(Lib.itoa n).toArray⟩) ∧ w' = w := by
 obtain ⟨i, rfl⟩ : ∃ i : Nat, n = (i : Int) := ⟨n.toNat, by omega⟩
 refine (Tryz.strconv_Itoa_small i (by omega) w).mono ?_
 rintro e w' ⟨rfl, rfl⟩
 refine ⟨?_, rfl⟩
 unfold Lib.itoa
 rw [if_neg (by omega)]
 rfl
end Go.Proofs.YtjjikhaaimfneaaGreatDoor
namespace Go.Proofs.YtjjikhaaimfneaaGreatDoor
open Go.RowKit
set_option linter.unusedSimpArgs false
set_option linter.unusedVariables false
set_option maxRecDepth 100000 in
set_option maxHeartbeats 4000000 in
theorem name_any (k : Int) (hk : 1 ≤ k ∧ k ≤ 3) (w : World) (h : GL w) : Calls Tryz.prog 78 #[.int .i64 k] w fun e w' => e = .returned (.string ⟨(nameL k).toArray⟩) ∧ Below w.heap.size w w' := by
 have HG := hide h
 clear h
 obtain ⟨S, hS⟩ : ∃ S, w.heap.size = S := ⟨_, rfl⟩
 rcases (show k = 1 ∨ k = 2 ∨ k = 3 by omega) with rfl | rfl | rfl
 all_goals
  go_enter Tryz.func78, Tryz.ntmps78
  go_wp2_with (go_at_call 53; refine (fields_any w HG.out).mono ?_; rintro e w1 ⟨rfl, hw1⟩; have c0 : w1.cell? ⟨S, 0, none⟩ = some (.string ⟨veL.toArray⟩) := (by rw [← hS, hw1]; simp); have c1 : w1.cell? ⟨S, 1, none⟩ = some (.string ⟨coL.toArray⟩) := (by rw [← hS, hw1]; simp); have c2 : w1.cell? ⟨S, 2, none⟩ = some (.string ⟨leL.toArray⟩) := (by rw [← hS, hw1]; simp); have hb := (by rw [hw1]; exact (Below.refl _ _).alloc (Nat.le_refl _) _ : Below w.heap.size w w1); clear hw1)
  go_ret
  exact ⟨rfl, hb⟩
end Go.Proofs.YtjjikhaaimfneaaGreatDoor
namespace Go.Proofs.YtjjikhaaimfneaaGreatDoor
open Go.RowKit
set_option linter.unusedSimpArgs false
set_option linter.unusedVariables false
theorem strInfoB : (Tryz.prog.info? 9).map (fun i => (i.zero, i.size, i.bytes)) = some (some (.string ByteArray.empty), 1, 16) := by kernel_rfl
theorem rok_of {k0 k1 R Q J : Int} (h1 : kindsOk k0 k1) (h2 : rangeOk R Q J) : ROk k0 k1 R Q J := by unfold kindsOk at h1; unfold rangeOk at h2; unfold ROk; omega
theorem rok_k {k0 k1 R Q J : Int} (h : ROk k0 k1 R Q J) : kindsOk k0 k1 ∧ rangeOk R Q J := by unfold ROk at h; unfold kindsOk rangeOk; omega
def W5 (k0 k1 R Q J : Int) : List (List UInt8) := [nameL k0, nameL k1, Lib.itoa R, Lib.itoa Q, Lib.itoa J]
def strV (l : List UInt8) : Value := .string ⟨l.toArray⟩
theorem w5_len (k0 k1 R Q J : Int) : (W5 k0 k1 R Q J).length = 5 := rfl
def num3 (R Q J : Int) (k : Nat) : Int := if k = 0 then R else if k = 1 then Q else J
theorem num3_at (k0 k1 R Q J : Int) {k : Nat} (h : k < 3) : Lib.itoa (num3 R Q J k) = (W5 k0 k1 R Q J).getD (2 + k) [] := by
 rcases (show k = 0 ∨ k = 1 ∨ k = 2 by omega) with rfl | rfl | rfl <;> rfl
theorem num3_b {k0 k1 R Q J : Int} (h : ROk k0 k1 R Q J) (k : Nat) : 0 ≤ num3 R Q J k ∧ num3 R Q J k < 100 := by
 unfold ROk at h; unfold num3; split
 · omega
 · split <;> omega
theorem take_next {α : Type} {l : List α} {k : Nat} {d : α} (h : k < l.length) : l.take (k + 1) = l.take k ++ [l.getD k d] := by
 rw [List.take_succ_eq_append_getElem h, List.getD_eq_getElem?_getD, List.getElem?_eq_getElem h]; rfl
theorem own_pair {w : World} {x y : Value} {t : TypeId} {B : Nat} (hB : B ≤ w.heap.size) : (w.alloc (.cells #[x, y] t)).ownsRow B t 1 (.slice (some ⟨w.heap.size, 0, none⟩) 2 2) 2 [x, y] :=
 ⟨rfl, .inr ⟨w.heap.size, 2, #[x, y], rfl, hB, World.alloc_heap_new w _, Nat.le_refl _, by unfold maxLen; omega, rfl, rfl⟩⟩
theorem ints_of {w : World} {H : Nat} {t : TypeId} {a b c : Int} (h : w.heap[H]? = some (.cells #[.int .i64 a, .int .i64 b, .int .i64 c] t (0, 0))) : w.cell? ⟨H, 0, none⟩ = some (.int .i64 a) ∧ w.cell? ⟨H, 1, none⟩ = some (.int .i64 b) ∧ w.cell? ⟨H, 2, none⟩ = some (.int .i64 c) := by
 refine ⟨?_, ?_, ?_⟩ <;> simp [World.cell?, h]
theorem row_cells {w : World} {B : Nat} {e : TypeId} {v : Value} {n : Nat} {xs : List Value} (h : w.ownsRow B e 1 v n xs) (hn : 0 < n) : ∃ g c, v = .slice (some ⟨g, 0, none⟩) n c ∧ g < w.heap.size ∧ n ≤ c ∧ ∀ (j : Nat) x, xs[j]? = some x → w.cell? ⟨g, 0 + j, none⟩ = some x := by
 rcases h.2 with ⟨_, h0⟩ | ⟨g, cap, cur, rfl, _, hg, hc, _, hs, hx⟩
 · omega
 · refine ⟨g, cap, rfl, (Array.getElem?_eq_some_iff.1 hg).1, hc, fun j x hj => ?_⟩
   have hlt : j < n := by
    have := (List.getElem?_eq_some_iff.1 hj).1
    rw [h.1] at this; omega
   rw [Nat.zero_add]
   have e2 : w.cell? ⟨g, j, none⟩ = cur[j]? := by simp [World.cell?, hg]
   rw [e2]
   rw [← hx, List.getElem?_take, if_pos (by omega)] at hj
   simpa using hj
theorem row_typeB {w : World} {B n size g : Nat} {e t : TypeId} {v : Value} {xs : List Value} {arr : Array Value} (h : w.ownsRow B e size v n xs) (hT : w.heap[g]? = some (.cells arr t (0, 0))) (hne : e ≠ t) : v.ownBlock ≠ some g := by
 intro hg
 rcases h.2 with ⟨rfl, _⟩ | ⟨g2, cap, cur, rfl, _, hh, _⟩
 · simp [Value.ownBlock] at hg
 · simp only [Value.ownBlock, Option.some.injEq] at hg
   subst hg
   rw [hT] at hh
   injection hh with hh
   injection hh with _ h2
   exact hne h2.symm
theorem name_len (k : Int) : (nameL k).length ≤ 6 := by
 unfold nameL; split
 · decide
 · split <;> decide
theorem itoa_len {n : Int} (h0 : 0 ≤ n) (h1 : n < 100) : (Lib.itoa n).length ≤ 2 := by
 obtain ⟨m, rfl⟩ : ∃ m : Nat, n = (m : Int) := ⟨n.toNat, by omega⟩
 rw [itoa_dig (by omega)]; unfold digL; split <;> simp
theorem text_len {k0 k1 R Q J : Int} (h : ROk k0 k1 R Q J) : (textL k0 k1 R Q J).length ≤ 100 := by
 unfold ROk at h
 have a := name_len k0; have b := name_len k1
 have c := itoa_len (n := R) (by omega) (by omega)
 have d := itoa_len (n := Q) (by omega) (by omega)
 have e := itoa_len (n := J) (by omega) (by omega)
 unfold textL join5
 simp only [List.length_append, List.length_cons]
 omega
set_option maxRecDepth 100000 in
set_option maxHeartbeats 8000000 in
theorem print_ok (k0 k1 R Q J : Int) (h : ROk k0 k1 R Q J) (w : World) (hG : GL w) : Calls Tryz.prog 55 #[.agg #[.int .i64 k0, .int .i64 k1, .int .i64 R, .int .i64 Q, .int .i64 J]] w fun e w' => e = .returned (.tuple #[.string ⟨(textL k0 k1 R Q J).toArray⟩, .int .i64 0]) ∧ Below w.heap.size w w' := by
 obtain ⟨i0, hi0, hz0, hz1, hz2⟩ := info_parts strInfoB
 have HR := hide h
 have HG0 := hide hG
 have hkr := rok_k h
 have hk0 : 1 ≤ k0 ∧ k0 ≤ 3 := by unfold ROk at h; omega
 have hk1 : 1 ≤ k1 ∧ k1 ≤ 3 := by unfold ROk at h; omega
 have HK0 := hide hk0; have HK1 := hide hk1; have HKR := hide hkr
 clear h hG hk0 hk1 hkr
 obtain ⟨S, hS⟩ : ∃ S, w.heap.size = S := ⟨_, rfl⟩
 go_enter Tryz.func55, Tryz.ntmps55
 go_upto_region 1 with fail
 obtain ⟨W, hW⟩ : ∃ W, W = w.alloc (.cells #[.int .i64 k0, .int .i64 k1, .int .i64 R, .int .i64 Q, .int .i64 J] 49) := ⟨_, rfl⟩
 rw [← hW]
 have R0 : Blk W S [.int .i64 k0, .int .i64 k1, .int .i64 R, .int .i64 Q, .int .i64 J] := by
  have := Blk.new w [.int .i64 k0, .int .i64 k1, .int .i64 R, .int .i64 Q, .int .i64 J] 49
  rw [hW]; simpa [hS] using this
 have BS : Below S w W := by rw [hW, ← hS]; exact (Below.refl _ _).alloc (Nat.le_refl _) _
 clear hW
 obtain ⟨r_0, r_1, r_2, r_3, r_4⟩ := R0.c5
 have H0 := hide R0; have HB := hide BS
 clear R0 BS
 go_wp2_with fail
 refine (dwrong_any k0 k1 R Q J W).mono ?_
 rintro e w1 ⟨he, hA⟩
 obtain rfl := he.ok HKR.out.1 HKR.out.2
 clear r_0 r_1 r_2 r_3 r_4 he
 have R0 := H0.out.below hA H0.out.lt
 have BS := HB.out.trans (hA.mono (Nat.le_of_lt H0.out.lt))
 clear hA H0 HB
 have H0 := hide R0; have HB := hide BS
 clear R0 BS
 go_upto_region 4 with fail
 obtain ⟨Z, hZ⟩ : ∃ Z, Z = w1 := ⟨_, rfl⟩
 rw [← hZ] at H0 HB ⊢
 clear hZ
 have HC : Hid (∀ w', Below Z.heap.size Z w' → w'.cell? ⟨S, 0, none⟩ = some (.int .i64 k0) ∧ w'.cell? ⟨S, 1, none⟩ = some (.int .i64 k1)) := hide (fun w' hb => by
  have q0 := H0.out.below hb H0.out.lt
  exact ⟨(q0 0 _ rfl).1, (q0 1 _ rfl).1⟩)
 have hSZ : S < Z.heap.size := H0.out.lt
 refine wp_region_G 7 (fun w' => w'.cell? ⟨S, 0, none⟩ = some (.int .i64 k0) ∧ w'.cell? ⟨S, 1, none⟩ = some (.int .i64 k1)) (by kernel_rfl) ?_
 obtain ⟨Y, hY⟩ : ∃ Y, Y = Z.drew := ⟨_, rfl⟩
 rw [← hY]
 have HBY : Hid (Below Z.heap.size Z Y) := hide (by rw [hY]; exact (Below.refl _ _).drew)
 clear hY
 have hF := hide (HC.out Y HBY.out)
 refine kB 0 hF.out ?_
 refine kB 1 hF.out ?_
 refine kB 2 hF.out ?_
 refine kB 4 hF.out ?_
 refine kB 5 hF.out ?_
 refine kB 6 hF.out ?_
 clear hF
 have HGY : Hid (GL Y) := hide (HG0.out.below (by rw [hS]; exact HB.out.trans (HBY.out.mono (by omega))))
 refine wpAnyG_oneF (i := 3) rfl (by kernel_rfl) (fun K hK => ?_)
 go_simp
 refine (name_any k0 HK0.out _ HGY.out).mono ?_
 rintro e w2 ⟨rfl, hb⟩
 have HB2 := hide (HBY.out.trans (hb.mono HBY.out.size))
 have HG2 := hide (HGY.out.below hb)
 refine hK.out _ _ (HC.out _ HB2.out) ?_
 clear hK K hb HGY
 refine kL ?_
 refine wpAnyG_one (i := 7) rfl (by kernel_rfl) (by kernel_rfl) (fun K hK => ?_)
 go_simp
 refine (name_any k1 HK1.out _ HG2.out).mono ?_
 rintro e w3 ⟨rfl, hb⟩
 have HB3 := hide (HB2.out.trans (hb.mono HB2.out.size))
 have HG3 := hide (HG2.out.below hb)
 refine hK.out _ _ ?_
 clear hK K hb HG2 HB2
 refine kL ?_
 refine wpAnyG_one (i := 8) rfl (by kernel_rfl) (by kernel_rfl) (fun K hK => ?_)
 go_simp
 obtain ⟨X, hX⟩ : ∃ X, X = w3.alloc (.cells #[.string ⟨(nameL k0).toArray⟩, .string ⟨(nameL k1).toArray⟩] 9) := ⟨_, rfl⟩
 obtain ⟨G, hGs⟩ : ∃ G, w3.heap.size = G := ⟨_, rfl⟩
 rw [← hX, hGs]
 refine hK.out _ _ ?_
 clear hK K
 refine kL ?_
 refine kC 9 ?_
 refine kL ?_
 refine wpAnyG_done (by kernel_rfl) ?_ _
 have HOX := hide (show X.ownsRow w.heap.size 9 1 (.slice (some ⟨G, 0, none⟩) 2 2) (2 + 0) (((W5 k0 k1 R Q J).take (2 + 0)).map strV) from by
  have := own_pair (w := w3) (x := .string ⟨(nameL k0).toArray⟩) (y := .string ⟨(nameL k1).toArray⟩) (t := 9) (B := w.heap.size) (by have := HB3.out.size; omega)
  rw [← hX, hGs] at this; exact this)
 have HBX := hide (show Below w.heap.size w X from by
  rw [hX]
  have h1 := HB.out.trans (HB3.out.mono (by omega))
  rw [← hS] at h1
  exact h1.alloc h1.size _)
 have R0 : Blk X S [.int .i64 k0, .int .i64 k1, .int .i64 R, .int .i64 Q, .int .i64 J] := by
  rw [hX]; exact (H0.out.below HB3.out H0.out.lt).alloc _
 obtain ⟨r_0, r_1, r_2, r_3, r_4⟩ := R0.c5
 clear hX hGs HB3 HG3 HC H0 HB HG0 R0
 go_upto_region 6 with fail
 obtain ⟨V, hV⟩ : ∃ V, V = X.alloc (.cells #[.int .i64 R, .int .i64 Q, .int .i64 J] 3) := ⟨_, rfl⟩
 obtain ⟨H, hH⟩ : ∃ H, X.heap.size = H := ⟨_, rfl⟩
 rw [← hV, hH]
 have HOV := hide (show V.ownsRow w.heap.size 9 1 (.slice (some ⟨G, 0, none⟩) 2 2) (2 + 0) (((W5 k0 k1 R Q J).take (2 + 0)).map strV) from by rw [hV]; exact HOX.out.alloc _)
 have HHV := hide (show V.heap[H]? = some (.cells #[.int .i64 R, .int .i64 Q, .int .i64 J] 3 (0, 0)) from by rw [hV, ← hH]; exact World.alloc_heap_new X _)
 have HBV := hide (show Below w.heap.size w V from by rw [hV]; exact HBX.out.alloc HBX.out.size _)
 clear hV hH HOX HBX r_0 r_1 r_2 r_3 r_4
 go_loopw [5, 30] (fun v i wr => ∃ k : Nat, k ≤ 3 ∧ i = .int .i64 k ∧ Hid (wr.ownsRow w.heap.size 9 1 v (2 + k) (((W5 k0 k1 R Q J).take (2 + k)).map strV)) ∧ Hid (wr.heap[H]? = some (.cells #[.int .i64 R, .int .i64 Q, .int .i64 J] 3 (0, 0))) ∧ Hid (Below w.heap.size w wr)) (fun _ i _ => 3 - (intOf i).toNat)
 case atStart => exact ⟨0, by omega, rfl, HOV, HHV, HBV⟩
 case round =>
  obtain ⟨k, hk, rfl, HO, HH, HB⟩ := hrel
  have k0' : (0 : Int) ≤ (k : Int) := Int.natCast_nonneg _
  by_cases hlt : k < 3
  · have k1' : (k : Int) < 3 := by omega
    have hown := HO.out
    have hnb := row_typeB hown HH.out (by decide)
    have hi := num3_b HR.out k
    have hv := num3_at k0 k1 R Q J hlt
    obtain ⟨x, hx⟩ : ∃ x, num3 R Q J k = x := ⟨_, rfl⟩
    have hc : wr.cell? ⟨H, k, none⟩ = some (.int .i64 x) := by
     obtain ⟨c0, c1, c2⟩ := ints_of HH.out
     rw [← hx]
     rcases (show k = 0 ∨ k = 1 ∨ k = 2 by omega) with rfl | rfl | rfl
     · exact c0
     · exact c1
     · exact c2
    rw [hx] at hi hv
    have HI := hide (fun w => itoa_any x hi.1 hi.2 w)
    have HV := hide hv
    have hBs := HB.out.size
    have hlH : H < wr.heap.size := (Array.getElem?_eq_some_iff.1 HH.out).1
    clear hx hi hv HO
    go_wp2_with (first | (go_at_call 35; refine (HI.out _).mono ?_; rintro e w1 ⟨rfl, hw1⟩; have hw2 := hw1.symm; clear hw1; subst hw2) | (at_builtin; refine wpList_append_own _ rfl _ _ 42 rfl w.heap.size 9 i0 (.string ByteArray.empty) 1 16 Tryz.underlying42 hi0 hz0 hz1 hz2 rfl (by decide) _ _ _ rfl (hown.alloc _) ⟨wr.heap.size, 0, none⟩ 1 1 [.string ⟨(Lib.itoa x).toArray⟩] rfl rfl (cell_one_new _ _ _) (by simp [Value.oneCell']) (by unfold maxLen; omega) (by omega) (by simp; omega) ?_; intro v' w1 hown1 hgrow _))
    refine ⟨⟨k + 1, by omega, by go_num, hide ?_, hide ?_, hide ((HB.out.alloc hBs _).grown hgrow (by simp; omega) (own_row hown))⟩, by simp [intOf]; omega⟩
    · have e1 : (W5 k0 k1 R Q J).take (2 + (k + 1)) = (W5 k0 k1 R Q J).take (2 + k) ++ [Lib.itoa x] := by
       rw [show 2 + (k + 1) = 2 + k + 1 by omega, take_next (d := []) (by rw [w5_len]; omega), ← HV.out]
      rw [e1, List.map_append]
      exact hown1
    · have := hgrow.block H (by simp; omega) (fun e => hnb e.symm)
      rw [this]
      exact (((Below.refl wr.heap.size wr).alloc (Nat.le_refl _) _).block H hlH).trans HH.out
  · obtain rfl : k = 3 := by omega
    obtain ⟨g, c, rfl, hg, hc, hcells⟩ := row_cells (n := 5) (xs := (W5 k0 k1 R Q J).map strV) HO.out (by omega)
    have hlen := text_len HR.out
    have e5 : (((W5 k0 k1 R Q J).map fun l => (⟨l.toArray⟩ : ByteArray)).map (·.data.toList)) = W5 k0 k1 R Q J := by simp [W5]
    have ej : Lib.join (W5 k0 k1 R Q J) [32] = textL k0 k1 R Q J := join5_is _ _ _ _ _
    have HJ : Hid (Calls Tryz.prog 79 #[.slice (some ⟨g, 0, none⟩) 5 c, .string ⟨#[32]⟩] wr fun e w' => e = .returned (.string ⟨(textL k0 k1 R Q J).toArray⟩) ∧ Below wr.heap.size wr w') := hide (by
     have h1 := Tryz.strings_Join g 0 c ((W5 k0 k1 R Q J).map fun l => ⟨l.toArray⟩) ⟨#[32]⟩ wr (fun j x hx => by
      refine hcells j _ ?_
      rw [List.getElem?_map] at hx ⊢
      obtain ⟨l, hl, rfl⟩ := Option.map_eq_some_iff.1 hx
      rw [hl]; rfl) hg (by simp [w5_len]) (by simpa [w5_len] using hc) (by
      rw [e5]; show (Lib.join (W5 k0 k1 R Q J) [32]).length ≤ _
      rw [ej]; exact Nat.le_trans hlen (by omega))
     refine h1.mono ?_
     rintro e w' ⟨rfl, hb⟩
     refine ⟨?_, hb⟩
     rw [e5]
     show Ending.returned (.string ⟨(Lib.join (W5 k0 k1 R Q J) [32]).toArray⟩) = _
     rw [ej])
    have hBs := HB.out.size
    clear hcells hlen hc HO e5 ej
    go_wp2_with (go_at_call 79; refine HJ.out.mono ?_; rintro e w1 ⟨rfl, hb⟩)
    go_ret2
    exact ⟨rfl, HB.out.trans (hb.mono hBs)⟩
end Go.Proofs.YtjjikhaaimfneaaGreatDoor
namespace Go.Proofs.YtjjikhaaimfneaaGreatDoor
open Go.RowKit
set_option linter.unusedSimpArgs false
set_option linter.unusedVariables false
set_option maxRecDepth 100000 in
set_option maxHeartbeats 4000000 in
theorem print_bad (k0 k1 R Q J r : Int) (hw : WrongSays k0 k1 R Q J r) (h0 : r ≠ 0) (w : World) : Calls Tryz.prog 55 #[.agg #[.int .i64 k0, .int .i64 k1, .int .i64 R, .int .i64 Q, .int .i64 J]] w fun e w' => e = .returned (.tuple #[.string ⟨#[]⟩, .int .i64 r]) ∧ Below w.heap.size w w' := by
 have hb1 : ((r : Int) != 0) = true := by simp; exact h0
 have hb2 : ((r : Int) == 0) = false := by simp; exact h0
 clear h0
 obtain ⟨S, hS⟩ : ∃ S, w.heap.size = S := ⟨_, rfl⟩
 go_enter Tryz.func55, Tryz.ntmps55
 go_upto_region 1 with fail
 obtain ⟨W, hW⟩ : ∃ W, W = w.alloc (.cells #[.int .i64 k0, .int .i64 k1, .int .i64 R, .int .i64 Q, .int .i64 J] 49) := ⟨_, rfl⟩
 rw [← hW]
 have R0 : Blk W S [.int .i64 k0, .int .i64 k1, .int .i64 R, .int .i64 Q, .int .i64 J] := by
  have := Blk.new w [.int .i64 k0, .int .i64 k1, .int .i64 R, .int .i64 Q, .int .i64 J] 49
  rw [hW]; simpa [hS] using this
 have BS : Below S w W := by rw [hW, ← hS]; exact (Below.refl _ _).alloc (Nat.le_refl _) _
 clear hW
 obtain ⟨r_0, r_1, r_2, r_3, r_4⟩ := R0.c5
 have H0 := hide R0; have HB := hide BS
 clear R0 BS
 go_wp2_with fail
 refine (dwrong_any k0 k1 R Q J W).mono ?_
 rintro e w1 ⟨he, hA⟩
 obtain ⟨r', rfl, hw'⟩ := he
 obtain rfl := wrongSays_one hw hw'
 clear r_0 r_1 r_2 r_3 r_4 hw hw'
 have BS := HB.out.trans (hA.mono (Nat.le_of_lt H0.out.lt))
 clear hA H0 HB
 go_wp2
 go_ret2
 exact ⟨rfl, by rw [hS]; exact BS⟩
theorem add_lists (x y : List UInt8) (hx : x.length ≤ 1000) (hy : y.length ≤ 1000) (w : World) : (Op.stringOp .add ⟨x.toArray⟩ ⟨y.toArray⟩).run Tryz.prog w = .ok (.string ⟨(x ++ y).toArray⟩) w := run_string_add_lists w x y (by omega) (by omega)
end Go.Proofs.YtjjikhaaimfneaaGreatDoor
