/- Texts for the law FilingDecodes (kept out of a larger one). -/
import Derived.Shelf.Strings.Builder1
import Derived.Shelf.Small.Bits
import Derived.Shelf.Small.Wraps
import Derived.Shelf.Strings.BuilderF
import Derived.Shelf.Strings.BuilderK
import Derived.Shelf.Utf8.RuneCount
import Derived.Shelf.Strconv.Atoi
import Derived.Shelf.Strconv.Itoa0
import Derived.Shelf.Strconv.Itoa1
import Derived.Shelf.LaysM
import Derived.Shelf.Strconv.Itoa2
import Derived.Shelf.Strconv.Itoa3
import Derived.Shelf.Strconv.AtoiErrFast
import Derived.Shelf.Strconv.ParseIntEmpty
import Derived.Shelf.Strconv.AtoiFail
import Derived.Shelf.Strconv.Clone
import Derived.Shelf.Strconv.SyntaxError
import Derived.Shelf.LaysC
import Derived.Shelf.Strconv.ToError
import Derived.Shelf.Strconv.Lower
import Derived.Shelf.Strconv.ParseUint10
import Derived.Shelf.Strconv.ParseUint10Empty
import Derived.Shelf.Strconv.ParseUint10Any
import Derived.Shelf.Strconv.ParseInt10
import Derived.Shelf.Strconv.AtoiLong
import Derived.Shelf.Strconv.AtoiInnerAll
import Derived.Shelf.Strconv.RangeError
import Derived.Shelf.Strconv.ToErrorRange
import Derived.Shelf.Strconv.AtoiAll
import Derived.Shelf.Strconv.ErrVarAll
import Derived.Shelf.Strings.Search1
import Derived.Shelf.Strings.Search2
import Derived.Shelf.Strings.Search3
import Derived.Shelf.Strings.Count
import Derived.Shelf.Strings.Shaped
import Derived.Shelf.Strings.Prefix
import Derived.Shelf.Strings.Split
import Derived.Shelf.Strings.SplitShaped
import Derived.Shelf.Unicode.Decode
import Derived.Shelf.Strings.RuneCount
import Derived.Shelf.Strings.Explode
import Derived.Shelf.Unicode.DecodeSlow
import Derived.Shelf.Unicode.DecodeAny
import Derived.Ground.Names2Prog
import Derived.Shelf.Slices.SearchI
import Derived.Test.YtejgfblphgcgkaaGreatDoorProg
import Derived.Lib.AtoiTie
import Derived.Test.YtejgfblphgcgkaaGreatDoorZFilingDecodes3
import Derived.Below
import Derived.Lib.AppendIntMem
import Derived.Lib.AtoiAllCases
import Derived.WalkKit
import Derived.Lib.SplitLaws
namespace Go.Proofs
open Go.Shelf
def Tryz.lays169_ren : Go.Shelf.Ren := ⟨fun | 169 => 38 | n => n, fun | 70 => 66 | 9 => 9 | 0 => 0 | 72 => 69 | 37 => 67 | 127 => 97 | 3 => 3 | 5 => 5 | n => n, fun | n => n⟩
theorem Tryz.lays169 : Go.Proofs.Lays.n169 Tryz.prog Tryz.lays169_ren := {
  mixed := by kernel_rfl
  f169 := Tryz.func38.trans (congrArg some (by kernel_rfl))
  t0 := Tryz.underlying0
  a0 := Tryz.isAgg0
  z0 := Tryz.sizeOf0
  v0 := Tryz.zeroValue0
  t3 := Tryz.underlying3
  a3 := Tryz.isAgg3
  z3 := Tryz.sizeOf3
  v3 := Tryz.zeroValue3
  t9 := Tryz.underlying9
  a9 := Tryz.isAgg9
  z9 := Tryz.sizeOf9
  v9 := Tryz.zeroValue9
  t37 := Tryz.underlying67
  a37 := Tryz.isAgg67
  z37 := Tryz.sizeOf67
  v37 := Tryz.zeroValue67
  t70 := Tryz.underlying66
  a70 := Tryz.isAgg66
  z70 := Tryz.sizeOf66
  v70 := Tryz.zeroValue66
  t72 := Tryz.underlying69
  a72 := Tryz.isAgg69
  z72 := Tryz.sizeOf69
  v72 := Tryz.zeroValue69
  t127 := Tryz.underlying97
  a127 := Tryz.isAgg97
  z127 := Tryz.sizeOf97
  v127 := Tryz.zeroValue97 }
theorem Tryz.Builder_Extra_169 : Builder.Extra Tryz.prog Tryz.lays169_ren := {
  sizeBuilder := by kernel_rfl
  liesBuilder := by kernel_rfl
  t5 := Tryz.underlying5
  a5 := Tryz.isAgg5
  z5 := Tryz.sizeOf5
  v5 := Tryz.zeroValue5
  infoByte := by kernel_rfl
  cellsByte := by kernel_rfl
  sizeByte := by kernel_rfl
  neB5 := by decide }
open Go.RowKit in
theorem Tryz.Builder_String_any (B b : Nat) (l : List UInt8) (w : World) (h : Lib.IsBuilder 69 5 B b (Lib.byteCells l) w) (hBw : B ≤ w.heap.size) :
    Calls Tryz.prog 38 #[.pointer (some ⟨b, 0, none⟩)] w fun e w' => e = .returned (.string ⟨l.toArray⟩) ∧ Below B w w' := Any.Builder_String_any Tryz.lays169 Tryz.Builder_Extra_169 B b l w h hBw
def Tryz.lays172_ren : Go.Shelf.Ren := ⟨fun | 172 => 86 | 244 => 101 | 245 => 102 | 247 => 122 | 279 => 123 | 280 => 124 | 281 => 125 | 282 => 126 | 287 => 141 | 316 => 142 | 171 => 36 | 205 => 143 | 321 => 149 | 322 => 150 | 243 => 62 | 246 => 79 | 283 => 90 | 284 => 91 | 285 => 92 | 286 => 93 | 129 => 113 | 317 => 114 | 318 => 115 | 319 => 116 | 320 => 117 | 337 => 134 | 338 => 135 | n => n, fun | 9 => 9 | 3 => 3 | 75 => 71 | 76 => 72 | 4 => 4 | 5 => 5 | 167 => 141 | 37 => 67 | 0 => 0 | 85 => 142 | 2 => 2 | 168 => 144 | 53 => 115 | 175 => 153 | 46 => 98 | 210 => 156 | 127 => 97 | 145 => 172 | 143 => 170 | 21 => 21 | 171 => 114 | 173 => 118 | 212 => 134 | 51 => 132 | 20 => 20 | 213 => 135 | 232 => 161 | 233 => 162 | 80 => 75 | n => n, fun | 15 => 2 | 16 => 3 | 17 => 0 | 18 => 4 | 19 => 5 | n => n⟩
def Tryz.laysM246_ren : Go.Shelf.Ren := ⟨fun | 246 => 79 | 283 => 90 | 284 => 91 | 285 => 92 | 286 => 93 | 129 => 113 | 317 => 114 | 318 => 115 | 319 => 116 | 320 => 117 | 337 => 134 | 338 => 135 | n => n, fun | 2 => 2 | 3 => 3 | 9 => 9 | 4 => 4 | 171 => 114 | 0 => 0 | 53 => 115 | 37 => 67 | 5 => 5 | 173 => 118 | 212 => 134 | 51 => 132 | 20 => 20 | 213 => 135 | 46 => 98 | 232 => 161 | 233 => 162 | n => n, fun | 17 => 0 | 18 => 4 | 19 => 5 | n => n⟩
def Tryz.laysM243_ren : Go.Shelf.Ren := ⟨fun | 243 => 62 | 246 => 79 | 283 => 90 | 284 => 91 | 285 => 92 | 286 => 93 | 129 => 113 | 317 => 114 | 318 => 115 | 319 => 116 | 320 => 117 | 337 => 134 | 338 => 135 | n => n, fun | 3 => 3 | 9 => 9 | 2 => 2 | 4 => 4 | 171 => 114 | 0 => 0 | 53 => 115 | 37 => 67 | 5 => 5 | 173 => 118 | 212 => 134 | 51 => 132 | 20 => 20 | 213 => 135 | 46 => 98 | 232 => 161 | 233 => 162 | n => n, fun | 17 => 0 | 18 => 4 | 19 => 5 | n => n⟩
def Tryz.laysM171_ren : Go.Shelf.Ren := ⟨fun | 171 => 36 | 243 => 62 | 246 => 79 | 283 => 90 | 284 => 91 | 285 => 92 | 286 => 93 | 129 => 113 | 317 => 114 | 318 => 115 | 319 => 116 | 320 => 117 | 337 => 134 | 338 => 135 | n => n, fun | 3 => 3 | 9 => 9 | 2 => 2 | 4 => 4 | 171 => 114 | 0 => 0 | 53 => 115 | 37 => 67 | 5 => 5 | 173 => 118 | 212 => 134 | 51 => 132 | 20 => 20 | 213 => 135 | 46 => 98 | 232 => 161 | 233 => 162 | n => n, fun | 17 => 0 | 18 => 4 | 19 => 5 | n => n⟩
theorem Tryz.laysM171 : Go.Proofs.LaysM.n171 Tryz.prog Tryz.laysM171_ren := {
  mixed := by kernel_rfl
  f129 := Tryz.func113.trans (congrArg some (by kernel_rfl))
  f171 := Tryz.func36.trans (congrArg some (by kernel_rfl))
  f243 := Tryz.func62.trans (congrArg some (by kernel_rfl))
  f246 := Tryz.func79.trans (congrArg some (by kernel_rfl))
  f283 := Tryz.func90.trans (congrArg some (by kernel_rfl))
  f284 := Tryz.func91.trans (congrArg some (by kernel_rfl))
  f285 := Tryz.func92.trans (congrArg some (by kernel_rfl))
  f286 := Tryz.func93.trans (congrArg some (by kernel_rfl))
  f317 := Tryz.func114.trans (congrArg some (by kernel_rfl))
  f318 := Tryz.func115.trans (congrArg some (by kernel_rfl))
  f319 := Tryz.func116.trans (congrArg some (by kernel_rfl))
  f320 := Tryz.func117.trans (congrArg some (by kernel_rfl))
  f337 := Tryz.func134.trans (congrArg some (by kernel_rfl))
  f338 := Tryz.func135.trans (congrArg some (by kernel_rfl))
  t0 := Tryz.underlying0
  a0 := Tryz.isAgg0
  z0 := Tryz.sizeOf0
  v0 := Tryz.zeroValue0
  t2 := Tryz.underlying2
  a2 := Tryz.isAgg2
  z2 := Tryz.sizeOf2
  v2 := Tryz.zeroValue2
  t3 := Tryz.underlying3
  a3 := Tryz.isAgg3
  z3 := Tryz.sizeOf3
  v3 := Tryz.zeroValue3
  t4 := Tryz.underlying4
  a4 := Tryz.isAgg4
  z4 := Tryz.sizeOf4
  v4 := Tryz.zeroValue4
  t5 := Tryz.underlying5
  a5 := Tryz.isAgg5
  z5 := Tryz.sizeOf5
  v5 := Tryz.zeroValue5
  t9 := Tryz.underlying9
  a9 := Tryz.isAgg9
  z9 := Tryz.sizeOf9
  v9 := Tryz.zeroValue9
  t20 := Tryz.underlying20
  a20 := Tryz.isAgg20
  z20 := Tryz.sizeOf20
  v20 := Tryz.zeroValue20
  t37 := Tryz.underlying67
  a37 := Tryz.isAgg67
  z37 := Tryz.sizeOf67
  v37 := Tryz.zeroValue67
  t46 := Tryz.underlying98
  a46 := Tryz.isAgg98
  z46 := Tryz.sizeOf98
  v46 := Tryz.zeroValue98
  t51 := Tryz.underlying132
  a51 := Tryz.isAgg132
  z51 := Tryz.sizeOf132
  v51 := Tryz.zeroValue132
  t53 := Tryz.underlying115
  a53 := Tryz.isAgg115
  z53 := Tryz.sizeOf115
  v53 := Tryz.zeroValue115
  t171 := Tryz.underlying114
  a171 := Tryz.isAgg114
  z171 := Tryz.sizeOf114
  v171 := Tryz.zeroValue114
  t173 := Tryz.underlying118
  a173 := Tryz.isAgg118
  z173 := Tryz.sizeOf118
  v173 := Tryz.zeroValue118
  t212 := Tryz.underlying134
  a212 := Tryz.isAgg134
  z212 := Tryz.sizeOf134
  v212 := Tryz.zeroValue134
  t213 := Tryz.underlying135
  a213 := Tryz.isAgg135
  z213 := Tryz.sizeOf135
  t232 := Tryz.underlying161
  a232 := Tryz.isAgg161
  z232 := Tryz.sizeOf161
  v232 := Tryz.zeroValue161
  t233 := Tryz.underlying162
  a233 := Tryz.isAgg162
  z233 := Tryz.sizeOf162
  v233 := Tryz.zeroValue162
  g17 := by kernel_rfl
  g18 := by kernel_rfl
  g19 := by kernel_rfl
  i0 := by kernel_rfl
  i2 := by kernel_rfl
  i3 := by kernel_rfl
  i4 := by kernel_rfl
  i5 := by kernel_rfl
  i9 := by kernel_rfl
  i20 := by kernel_rfl
  i37 := by kernel_rfl
  i46 := by kernel_rfl
  i51 := by kernel_rfl
  i53 := by kernel_rfl
  i171 := by kernel_rfl
  i173 := by kernel_rfl
  i212 := by kernel_rfl
  i232 := by kernel_rfl
  i233 := by kernel_rfl
  m17 := by kernel_rfl
  m18 := by kernel_rfl
  m19 := by kernel_rfl }
open Go.RowKit Go.Sort Go.Lib in
theorem Tryz.strconv_Itoa (n : Int) (h0 : -9223372036854775808 ≤ n) (h1 : n ≤ 9223372036854775807) (w : World) (htab : Lib.TabIs Tryz.prog w "internal/strconv.uint64pow10" .u64 Lib.pow10Tab) :
    Calls Tryz.prog 36 #[.int .i64 n] w fun e w' => e = .returned (.string ⟨(Lib.itoa n).toArray⟩) ∧ ∃ k os, w' = grow (w.drewN k) os := Any.strconv_Itoa Tryz.laysM171 n h0 h1 w htab
def Tryz.laysC172_ren : Go.Shelf.Ren := ⟨fun | 172 => 86 | 244 => 101 | 245 => 102 | 247 => 122 | 279 => 123 | 280 => 124 | 281 => 125 | 282 => 126 | 287 => 141 | 316 => 142 | 171 => 36 | 205 => 143 | 321 => 149 | 322 => 150 | 243 => 62 | 246 => 79 | 283 => 90 | 284 => 91 | 285 => 92 | 286 => 93 | 129 => 113 | 317 => 114 | 318 => 115 | 319 => 116 | 320 => 117 | 337 => 134 | 338 => 135 | n => n, fun | 9 => 9 | 3 => 3 | 75 => 71 | 76 => 72 | 4 => 4 | 5 => 5 | 167 => 141 | 37 => 67 | 0 => 0 | 85 => 142 | 2 => 2 | 168 => 144 | 53 => 115 | 175 => 153 | 46 => 98 | 210 => 156 | 127 => 97 | 145 => 172 | 143 => 170 | 21 => 21 | 171 => 114 | 173 => 118 | 212 => 134 | 51 => 132 | 20 => 20 | 213 => 135 | 232 => 161 | 233 => 162 | 80 => 75 | n => n, fun | 15 => 2 | 16 => 3 | 17 => 0 | 18 => 4 | 19 => 5 | n => n⟩
theorem Tryz.laysC172 : Go.Proofs.LaysC.n172 Tryz.prog Tryz.laysC172_ren := {
  mixed := by kernel_rfl
  f129 := Tryz.func113.trans (congrArg some (by kernel_rfl))
  f171 := Tryz.func36.trans (congrArg some (by kernel_rfl))
  f172 := Tryz.func86.trans (congrArg some (by kernel_rfl))
  f205 := Tryz.func143.trans (congrArg some (by kernel_rfl))
  f243 := Tryz.func62.trans (congrArg some (by kernel_rfl))
  f244 := Tryz.func101.trans (congrArg some (by kernel_rfl))
  f245 := Tryz.func102.trans (congrArg some (by kernel_rfl))
  f246 := Tryz.func79.trans (congrArg some (by kernel_rfl))
  f247 := Tryz.func122.trans (congrArg some (by kernel_rfl))
  f279 := Tryz.func123.trans (congrArg some (by kernel_rfl))
  f280 := Tryz.func124.trans (congrArg some (by kernel_rfl))
  f281 := Tryz.func125.trans (congrArg some (by kernel_rfl))
  f282 := Tryz.func126.trans (congrArg some (by kernel_rfl))
  f283 := Tryz.func90.trans (congrArg some (by kernel_rfl))
  f284 := Tryz.func91.trans (congrArg some (by kernel_rfl))
  f285 := Tryz.func92.trans (congrArg some (by kernel_rfl))
  f286 := Tryz.func93.trans (congrArg some (by kernel_rfl))
  f287 := Tryz.func141.trans (congrArg some (by kernel_rfl))
  f316 := Tryz.func142.trans (congrArg some (by kernel_rfl))
  f317 := Tryz.func114.trans (congrArg some (by kernel_rfl))
  f318 := Tryz.func115.trans (congrArg some (by kernel_rfl))
  f319 := Tryz.func116.trans (congrArg some (by kernel_rfl))
  f320 := Tryz.func117.trans (congrArg some (by kernel_rfl))
  f321 := Tryz.func149.trans (congrArg some (by kernel_rfl))
  f322 := Tryz.func150.trans (congrArg some (by kernel_rfl))
  f337 := Tryz.func134.trans (congrArg some (by kernel_rfl))
  f338 := Tryz.func135.trans (congrArg some (by kernel_rfl))
  t0 := Tryz.underlying0
  a0 := Tryz.isAgg0
  z0 := Tryz.sizeOf0
  v0 := Tryz.zeroValue0
  t2 := Tryz.underlying2
  a2 := Tryz.isAgg2
  z2 := Tryz.sizeOf2
  v2 := Tryz.zeroValue2
  t3 := Tryz.underlying3
  a3 := Tryz.isAgg3
  z3 := Tryz.sizeOf3
  v3 := Tryz.zeroValue3
  t4 := Tryz.underlying4
  a4 := Tryz.isAgg4
  z4 := Tryz.sizeOf4
  v4 := Tryz.zeroValue4
  t5 := Tryz.underlying5
  a5 := Tryz.isAgg5
  z5 := Tryz.sizeOf5
  v5 := Tryz.zeroValue5
  t9 := Tryz.underlying9
  a9 := Tryz.isAgg9
  z9 := Tryz.sizeOf9
  v9 := Tryz.zeroValue9
  t20 := Tryz.underlying20
  a20 := Tryz.isAgg20
  z20 := Tryz.sizeOf20
  v20 := Tryz.zeroValue20
  t21 := Tryz.underlying21
  a21 := Tryz.isAgg21
  z21 := Tryz.sizeOf21
  v21 := Tryz.zeroValue21
  t37 := Tryz.underlying67
  a37 := Tryz.isAgg67
  z37 := Tryz.sizeOf67
  v37 := Tryz.zeroValue67
  t46 := Tryz.underlying98
  a46 := Tryz.isAgg98
  z46 := Tryz.sizeOf98
  v46 := Tryz.zeroValue98
  t51 := Tryz.underlying132
  a51 := Tryz.isAgg132
  z51 := Tryz.sizeOf132
  v51 := Tryz.zeroValue132
  t53 := Tryz.underlying115
  a53 := Tryz.isAgg115
  z53 := Tryz.sizeOf115
  v53 := Tryz.zeroValue115
  t75 := Tryz.underlying71
  a75 := Tryz.isAgg71
  z75 := Tryz.sizeOf71
  v75 := Tryz.zeroValue71
  t76 := Tryz.underlying72
  a76 := Tryz.isAgg72
  z76 := Tryz.sizeOf72
  v76 := Tryz.zeroValue72
  t85 := Tryz.underlying142
  a85 := Tryz.isAgg142
  z85 := Tryz.sizeOf142
  v85 := Tryz.zeroValue142
  t127 := Tryz.underlying97
  a127 := Tryz.isAgg97
  z127 := Tryz.sizeOf97
  v127 := Tryz.zeroValue97
  t143 := Tryz.underlying170
  a143 := Tryz.isAgg170
  z143 := Tryz.sizeOf170
  v143 := Tryz.zeroValue170
  t145 := Tryz.underlying172
  a145 := Tryz.isAgg172
  z145 := Tryz.sizeOf172
  v145 := Tryz.zeroValue172
  t167 := Tryz.underlying141
  a167 := Tryz.isAgg141
  z167 := Tryz.sizeOf141
  v167 := Tryz.zeroValue141
  t168 := Tryz.underlying144
  a168 := Tryz.isAgg144
  z168 := Tryz.sizeOf144
  v168 := Tryz.zeroValue144
  t171 := Tryz.underlying114
  a171 := Tryz.isAgg114
  z171 := Tryz.sizeOf114
  v171 := Tryz.zeroValue114
  t173 := Tryz.underlying118
  a173 := Tryz.isAgg118
  z173 := Tryz.sizeOf118
  v173 := Tryz.zeroValue118
  t175 := Tryz.underlying153
  a175 := Tryz.isAgg153
  z175 := Tryz.sizeOf153
  v175 := Tryz.zeroValue153
  t210 := Tryz.underlying156
  a210 := Tryz.isAgg156
  z210 := Tryz.sizeOf156
  v210 := Tryz.zeroValue156
  t212 := Tryz.underlying134
  a212 := Tryz.isAgg134
  z212 := Tryz.sizeOf134
  v212 := Tryz.zeroValue134
  t213 := Tryz.underlying135
  a213 := Tryz.isAgg135
  z213 := Tryz.sizeOf135
  t232 := Tryz.underlying161
  a232 := Tryz.isAgg161
  z232 := Tryz.sizeOf161
  v232 := Tryz.zeroValue161
  t233 := Tryz.underlying162
  a233 := Tryz.isAgg162
  z233 := Tryz.sizeOf162
  v233 := Tryz.zeroValue162
  g15 := by kernel_rfl
  g16 := by kernel_rfl
  g17 := by kernel_rfl
  g18 := by kernel_rfl
  g19 := by kernel_rfl
  t80 := Tryz.underlying75
  a80 := Tryz.isAgg75
  z80 := Tryz.sizeOf75
  v80 := Tryz.zeroValue75
  i0 := by kernel_rfl
  i2 := by kernel_rfl
  i3 := by kernel_rfl
  i4 := by kernel_rfl
  i5 := by kernel_rfl
  i9 := by kernel_rfl
  i20 := by kernel_rfl
  i21 := by kernel_rfl
  i37 := by kernel_rfl
  i46 := by kernel_rfl
  i51 := by kernel_rfl
  i53 := by kernel_rfl
  i75 := by kernel_rfl
  i76 := by kernel_rfl
  i80 := by kernel_rfl
  i85 := by kernel_rfl
  i127 := by kernel_rfl
  i143 := by kernel_rfl
  i145 := by kernel_rfl
  i167 := by kernel_rfl
  i168 := by kernel_rfl
  i171 := by kernel_rfl
  i173 := by kernel_rfl
  i175 := by kernel_rfl
  i210 := by kernel_rfl
  i212 := by kernel_rfl
  i232 := by kernel_rfl
  i233 := by kernel_rfl
  m15 := by kernel_rfl
  m16 := by kernel_rfl
  m17 := by kernel_rfl
  m18 := by kernel_rfl
  m19 := by kernel_rfl
  c0 := by kernel_rfl
  c2 := by kernel_rfl
  c3 := by kernel_rfl
  c4 := by kernel_rfl
  c5 := by kernel_rfl
  c9 := by kernel_rfl
  c20 := by kernel_rfl
  c21 := by kernel_rfl
  c37 := by kernel_rfl
  c46 := by kernel_rfl
  c51 := by kernel_rfl
  c53 := by kernel_rfl
  c75 := by kernel_rfl
  c76 := by kernel_rfl
  c80 := by kernel_rfl
  c85 := by kernel_rfl
  c127 := by kernel_rfl
  c143 := by kernel_rfl
  c145 := by kernel_rfl
  c167 := by kernel_rfl
  c168 := by kernel_rfl
  c171 := by kernel_rfl
  c173 := by kernel_rfl
  c175 := by kernel_rfl
  c210 := by kernel_rfl
  c212 := by kernel_rfl
  c213 := by kernel_rfl
  c232 := by kernel_rfl
  c233 := by kernel_rfl }
open Go.RowKit in
theorem Tryz.strconv_Atoi_ok (s : ByteArray) (hmax : s.size ≤ 9223372036854775806) (v : Int) (h : Lib.atoiAll s.data.toList = .ok v) (w : World) :
    Calls Tryz.prog 86 #[.string s] w fun e w' => e = .returned (.tuple #[.int .i64 v, .nilIface]) ∧ (w' = w ∨ ∃ t, w' = Lib.bytesWorld w 5 t) := Any.strconv_Atoi_ok Tryz.laysC172 s hmax v h w
open Go.RowKit in
theorem Tryz.strconv_Atoi_syntax_var (s : ByteArray) (hlim : s.size ≤ 281474976710656) (h : Lib.atoiAll s.data.toList = (Go.Lib.NumEnd.ofOption none)) (tp : TypeId) (p : Value) (w : World) (hvar : w.var? Tryz.prog "strconv.ErrSyntax" = some #[.iface tp p]) :
    Calls Tryz.prog 86 #[.string s] w fun e w' => ∃ N, e = .returned (.tuple #[.int .i64 0, .iface 144 (.pointer (some ⟨N, 0, none⟩))]) ∧ w.heap.size ≤ N ∧ w'.heap[N]? = some (.cells #[.string ⟨#[65, 116, 111, 105]⟩, .string s, .iface tp p] 156 (0, 0)) ∧ Below w.heap.size w w' := Any.strconv_Atoi_syntax_var Tryz.laysC172 s hlim h tp p w hvar
open Go.RowKit in
theorem Tryz.strconv_Atoi_range_var (s : ByteArray) (hlim : s.size ≤ 281474976710656) (h : Lib.atoiAll s.data.toList = .range) (tp : TypeId) (p : Value) (w : World) (hvar : w.var? Tryz.prog "strconv.ErrRange" = some #[.iface tp p]) :
    Calls Tryz.prog 86 #[.string s] w fun e w' => ∃ N, e = .returned (.tuple #[.int .i64 (Lib.atoiSat s.data.toList), .iface 144 (.pointer (some ⟨N, 0, none⟩))]) ∧ w.heap.size ≤ N ∧ w'.heap[N]? = some (.cells #[.string ⟨#[65, 116, 111, 105]⟩, .string s, .iface tp p] 156 (0, 0)) ∧ Below w.heap.size w w' := Any.strconv_Atoi_range_var Tryz.laysC172 s hlim h tp p w hvar
def Tryz.lays221_ren : Go.Shelf.Ren := ⟨fun | 221 => 85 | 268 => 98 | 138 => 99 | 143 => 100 | 195 => 118 | 197 => 119 | 218 => 120 | 219 => 121 | 260 => 136 | 217 => 137 | 225 => 138 | 224 => 139 | 267 => 140 | 266 => 147 | 314 => 148 | n => n, fun | 9 => 9 | 3 => 3 | 31 => 39 | 4 => 4 | 0 => 0 | 105 => 138 | 21 => 21 | 5 => 5 | 46 => 98 | 119 => 163 | 139 => 166 | 138 => 165 | 146 => 167 | 51 => 132 | n => n, fun | 1 => 1 | 3 => 6 | 4 => 7 | n => n⟩
def Tryz.lays146_ren : Go.Shelf.Ren := ⟨fun | 146 => 71 | 221 => 85 | 268 => 98 | 138 => 99 | 143 => 100 | 195 => 118 | 197 => 119 | 218 => 120 | 219 => 121 | 260 => 136 | 217 => 137 | 225 => 138 | 224 => 139 | 267 => 140 | 266 => 147 | 314 => 148 | n => n, fun | 9 => 9 | 31 => 39 | 3 => 3 | 4 => 4 | 0 => 0 | 105 => 138 | 21 => 21 | 5 => 5 | 46 => 98 | 119 => 163 | 139 => 166 | 138 => 165 | 146 => 167 | 51 => 132 | n => n, fun | 1 => 1 | 3 => 6 | 4 => 7 | n => n⟩
theorem Tryz.lays146 : Go.Proofs.Lays.n146 Tryz.prog Tryz.lays146_ren := {
  mixed := by kernel_rfl
  f138 := Tryz.func99.trans (congrArg some (by kernel_rfl))
  f143 := Tryz.func100.trans (congrArg some (by kernel_rfl))
  f146 := Tryz.func71.trans (congrArg some (by kernel_rfl))
  f195 := Tryz.func118.trans (congrArg some (by kernel_rfl))
  f197 := Tryz.func119.trans (congrArg some (by kernel_rfl))
  f217 := Tryz.func137.trans (congrArg some (by kernel_rfl))
  f218 := Tryz.func120.trans (congrArg some (by kernel_rfl))
  f219 := Tryz.func121.trans (congrArg some (by kernel_rfl))
  f221 := Tryz.func85.trans (congrArg some (by kernel_rfl))
  f224 := Tryz.func139.trans (congrArg some (by kernel_rfl))
  f225 := Tryz.func138.trans (congrArg some (by kernel_rfl))
  f260 := Tryz.func136.trans (congrArg some (by kernel_rfl))
  f266 := Tryz.func147.trans (congrArg some (by kernel_rfl))
  f267 := Tryz.func140.trans (congrArg some (by kernel_rfl))
  f268 := Tryz.func98.trans (congrArg some (by kernel_rfl))
  f314 := Tryz.func148.trans (congrArg some (by kernel_rfl))
  t0 := Tryz.underlying0
  a0 := Tryz.isAgg0
  z0 := Tryz.sizeOf0
  v0 := Tryz.zeroValue0
  t3 := Tryz.underlying3
  a3 := Tryz.isAgg3
  z3 := Tryz.sizeOf3
  v3 := Tryz.zeroValue3
  t4 := Tryz.underlying4
  a4 := Tryz.isAgg4
  z4 := Tryz.sizeOf4
  v4 := Tryz.zeroValue4
  t5 := Tryz.underlying5
  a5 := Tryz.isAgg5
  z5 := Tryz.sizeOf5
  v5 := Tryz.zeroValue5
  t9 := Tryz.underlying9
  a9 := Tryz.isAgg9
  z9 := Tryz.sizeOf9
  v9 := Tryz.zeroValue9
  t21 := Tryz.underlying21
  a21 := Tryz.isAgg21
  z21 := Tryz.sizeOf21
  v21 := Tryz.zeroValue21
  t31 := Tryz.underlying39
  a31 := Tryz.isAgg39
  z31 := Tryz.sizeOf39
  v31 := Tryz.zeroValue39
  t46 := Tryz.underlying98
  a46 := Tryz.isAgg98
  z46 := Tryz.sizeOf98
  v46 := Tryz.zeroValue98
  t51 := Tryz.underlying132
  a51 := Tryz.isAgg132
  z51 := Tryz.sizeOf132
  v51 := Tryz.zeroValue132
  t105 := Tryz.underlying138
  a105 := Tryz.isAgg138
  z105 := Tryz.sizeOf138
  v105 := Tryz.zeroValue138
  t119 := Tryz.underlying163
  a119 := Tryz.isAgg163
  z119 := Tryz.sizeOf163
  t138 := Tryz.underlying165
  a138 := Tryz.isAgg165
  z138 := Tryz.sizeOf165
  v138 := Tryz.zeroValue165
  t139 := Tryz.underlying166
  a139 := Tryz.isAgg166
  z139 := Tryz.sizeOf166
  v139 := Tryz.zeroValue166
  t146 := Tryz.underlying167
  a146 := Tryz.isAgg167
  z146 := Tryz.sizeOf167
  v146 := Tryz.zeroValue167
  g1 := by kernel_rfl
  g3 := by kernel_rfl
  g4 := by kernel_rfl }
open Go.RowKit Go.Lib in
theorem Tryz.strings_Split (s sep : ByteArray) (m : Int) (w : World) (hs : s.size < 4294967281) (hm : w.cell? ⟨1, 0, none⟩ = some (.int .i64 m)) (h1 : 1 ≤ sep.size) :
    Calls Tryz.prog 71 #[.string s, .string sep] w fun e w' =>
      e = .returned (.slice (some ⟨w.heap.size, 0, none⟩) (Lib.countB s sep + 1) (Lib.countB s sep + 1)) ∧ w' = w.alloc (.cells ((Lib.splitB sep 0 (Lib.countB s sep) s).map Value.string).toArray 9) := Any.strings_Split Tryz.lays146 (by kernel_rfl) s sep m w hs hm h1
def Tryz.laysM146_ren : Go.Shelf.Ren := ⟨fun | 146 => 71 | 221 => 85 | 268 => 98 | 138 => 99 | 143 => 100 | 195 => 118 | 197 => 119 | 218 => 120 | 219 => 121 | 260 => 136 | 217 => 137 | 225 => 138 | 224 => 139 | 267 => 140 | 266 => 147 | 314 => 148 | n => n, fun | 9 => 9 | 31 => 39 | 3 => 3 | 4 => 4 | 0 => 0 | 105 => 138 | 21 => 21 | 5 => 5 | 46 => 98 | 119 => 163 | 139 => 166 | 138 => 165 | 146 => 167 | 51 => 132 | n => n, fun | 1 => 1 | 3 => 6 | 4 => 7 | n => n⟩
theorem Tryz.laysM146 : Go.Proofs.LaysM.n146 Tryz.prog Tryz.laysM146_ren := {
  mixed := by kernel_rfl
  f138 := Tryz.func99.trans (congrArg some (by kernel_rfl))
  f143 := Tryz.func100.trans (congrArg some (by kernel_rfl))
  f146 := Tryz.func71.trans (congrArg some (by kernel_rfl))
  f195 := Tryz.func118.trans (congrArg some (by kernel_rfl))
  f197 := Tryz.func119.trans (congrArg some (by kernel_rfl))
  f217 := Tryz.func137.trans (congrArg some (by kernel_rfl))
  f218 := Tryz.func120.trans (congrArg some (by kernel_rfl))
  f219 := Tryz.func121.trans (congrArg some (by kernel_rfl))
  f221 := Tryz.func85.trans (congrArg some (by kernel_rfl))
  f224 := Tryz.func139.trans (congrArg some (by kernel_rfl))
  f225 := Tryz.func138.trans (congrArg some (by kernel_rfl))
  f260 := Tryz.func136.trans (congrArg some (by kernel_rfl))
  f266 := Tryz.func147.trans (congrArg some (by kernel_rfl))
  f267 := Tryz.func140.trans (congrArg some (by kernel_rfl))
  f268 := Tryz.func98.trans (congrArg some (by kernel_rfl))
  f314 := Tryz.func148.trans (congrArg some (by kernel_rfl))
  t0 := Tryz.underlying0
  a0 := Tryz.isAgg0
  z0 := Tryz.sizeOf0
  v0 := Tryz.zeroValue0
  t3 := Tryz.underlying3
  a3 := Tryz.isAgg3
  z3 := Tryz.sizeOf3
  v3 := Tryz.zeroValue3
  t4 := Tryz.underlying4
  a4 := Tryz.isAgg4
  z4 := Tryz.sizeOf4
  v4 := Tryz.zeroValue4
  t5 := Tryz.underlying5
  a5 := Tryz.isAgg5
  z5 := Tryz.sizeOf5
  v5 := Tryz.zeroValue5
  t9 := Tryz.underlying9
  a9 := Tryz.isAgg9
  z9 := Tryz.sizeOf9
  v9 := Tryz.zeroValue9
  t21 := Tryz.underlying21
  a21 := Tryz.isAgg21
  z21 := Tryz.sizeOf21
  v21 := Tryz.zeroValue21
  t31 := Tryz.underlying39
  a31 := Tryz.isAgg39
  z31 := Tryz.sizeOf39
  v31 := Tryz.zeroValue39
  t46 := Tryz.underlying98
  a46 := Tryz.isAgg98
  z46 := Tryz.sizeOf98
  v46 := Tryz.zeroValue98
  t51 := Tryz.underlying132
  a51 := Tryz.isAgg132
  z51 := Tryz.sizeOf132
  v51 := Tryz.zeroValue132
  t105 := Tryz.underlying138
  a105 := Tryz.isAgg138
  z105 := Tryz.sizeOf138
  v105 := Tryz.zeroValue138
  t119 := Tryz.underlying163
  a119 := Tryz.isAgg163
  z119 := Tryz.sizeOf163
  t138 := Tryz.underlying165
  a138 := Tryz.isAgg165
  z138 := Tryz.sizeOf165
  v138 := Tryz.zeroValue165
  t139 := Tryz.underlying166
  a139 := Tryz.isAgg166
  z139 := Tryz.sizeOf166
  v139 := Tryz.zeroValue166
  t146 := Tryz.underlying167
  a146 := Tryz.isAgg167
  z146 := Tryz.sizeOf167
  v146 := Tryz.zeroValue167
  g1 := by kernel_rfl
  g3 := by kernel_rfl
  g4 := by kernel_rfl
  i0 := by kernel_rfl
  i3 := by kernel_rfl
  i4 := by kernel_rfl
  i5 := by kernel_rfl
  i9 := by kernel_rfl
  i21 := by kernel_rfl
  i31 := by kernel_rfl
  i46 := by kernel_rfl
  i51 := by kernel_rfl
  i105 := by kernel_rfl
  i138 := by kernel_rfl
  i139 := by kernel_rfl
  i146 := by kernel_rfl
  m1 := by kernel_rfl
  s1_3 := fun w h => Go.Proofs.cell_of_shapedOpen_int (zero := #[.int .i64 0]) (t := 3) h (of_decide_eq_true (by kernel_rfl)) (by kernel_rfl) rfl (by kernel_rfl) (by kernel_rfl) Tryz.underlying3
  m3 := by kernel_rfl
  m4 := by kernel_rfl }
end Go.Proofs
namespace Go.Proofs.YtejgfblphgcgkaaGreatDoor.P
open Go.RowKit
theorem var_stays {P : Program} {w w' : World} {name : String} {cs : Array Value} (h : w.var? P name = some cs) (hb : Below w.heap.size w w') : w'.var? P name = some cs := by
  unfold World.var? at *
  cases hg : P.globalNamed name with
  | none => simp [hg] at h
  | some g =>
    simp only [hg, Option.bind_some] at h ⊢
    have hlt : g < w.heap.size := by
      rcases Nat.lt_or_ge g w.heap.size with h' | h'
      · exact h'
      · rw [Array.getElem?_eq_none h'] at h; simp at h
    rw [hb.block g hlt]
    exact h
theorem cell_stays {w w' : World} {a : Addr} {v : Value} (h : w.cell? a = some v) (hb : Below w.heap.size w w') : w'.cell? a = some v := by
  have hlt : a.block < w.heap.size := by
    rcases Nat.lt_or_ge a.block w.heap.size with h' | h'
    · exact h'
    · simp [World.cell?, Array.getElem?_eq_none h'] at h
  simpa [World.cell?, hb.block a.block hlt] using h
def Tabs (w : World) : Prop :=
  Lib.TabIs Tryz.prog w "internal/strconv.uint64pow10" .u64 Lib.pow10Tab ∧ (∃ tp p, w.var? Tryz.prog "strconv.ErrSyntax" = some #[.iface tp p]) ∧ (∃ tp p, w.var? Tryz.prog "strconv.ErrRange" = some #[.iface tp p]) ∧ (∃ m, w.cell? ⟨Tryz.laysM146_ren.g 1, 0, none⟩ = some (.int .i64 m))
theorem Tabs.below {w w' : World} (h : Tabs w) (hb : Below w.heap.size w w') : Tabs w' := by
  obtain ⟨h1, ⟨tp, p, h2⟩, ⟨tq, q, h3⟩, m, h4⟩ := h
  exact ⟨var_stays h1 hb, ⟨tp, p, var_stays h2 hb⟩, ⟨tq, q, var_stays h3 hb⟩, m, cell_stays h4 hb⟩
theorem Tabs.noSyntax {w : World} (h : Tabs w) : ∃ tp p, w.var? Tryz.prog "strconv.ErrSyntax" = some #[.iface tp p] := h.2.1
theorem Tabs.noRange {w : World} (h : Tabs w) : ∃ tp p, w.var? Tryz.prog "strconv.ErrRange" = some #[.iface tp p] := h.2.2.1
theorem Tabs.maxLen {w : World} (h : Tabs w) : ∃ m, w.cell? ⟨Tryz.laysM146_ren.g 1, 0, none⟩ = some (.int .i64 m) := h.2.2.2
end Go.Proofs.YtejgfblphgcgkaaGreatDoor.P
namespace Go.Proofs.YtejgfblphgcgkaaGreatDoor.P
open Go.RowKit
def strconv_Itoa.f (a0 : Int) : Option (ByteArray) := if -9223372036854775808 ≤ a0 ∧ a0 ≤ 9223372036854775807 then some ⟨(Lib.itoa a0).toArray⟩ else none
theorem strconv_Itoa.calls (a0 : Int) (r : ByteArray) (w : World) (hT : Tabs w) (h : strconv_Itoa.f a0 = some r) :
 Calls Tryz.prog 36 #[.int .i64 a0] w fun e w' => e = .returned (.string r) ∧ Below w.heap.size w w' := by
 unfold strconv_Itoa.f at h
 split at h
 · rename_i hc
   obtain rfl := Option.some.inj h
   refine (Tryz.strconv_Itoa a0 hc.1 hc.2 w hT.1).mono ?_
   rintro e w' ⟨rfl, k, os, rfl⟩
   exact ⟨rfl, Lib.below_grow _ _ (Nat.le_refl _) _ _⟩
 · cases h
theorem atoi_ok (s : ByteArray) (v : Int) (w : World) (hs : s.size ≤ 281474976710656) (h : Lib.atoiAll s.data.toList = .ok v) :
 Calls Tryz.prog 86 #[.string s] w fun e w' => e = .returned (.tuple #[.int .i64 v, .nilIface]) ∧ Below w.heap.size w w' := by
 refine (Tryz.strconv_Atoi_ok s (by omega) v h w).mono ?_
 rintro e w' ⟨rfl, hw⟩
 refine ⟨rfl, ?_⟩
 rcases hw with rfl | ⟨t, rfl⟩
 · exact Below.refl _ _
 · exact Go.Proofs.YtejgfblphgcgkaaGreatDoorW.PrintWords.bytes_below (Below.refl _ _) (Nat.le_refl _) _ _
end Go.Proofs.YtejgfblphgcgkaaGreatDoor.P
namespace Go.Proofs.YtejgfblphgcgkaaGreatDoor.P
set_option linter.unusedVariables false
set_option linter.unusedSimpArgs false
open Go Go.RowKit Go.Proofs.YtejgfblphgcgkaaGreatDoorW.PrintWords Go.Proofs.YtejgfblphgcgkaaGreatDoorW.PrintLast Go.Proofs.YtejgfblphgcgkaaGreatDoorW.PrintMore
def itoaB (v : Int) : ByteArray := ⟨(Lib.itoa v).toArray⟩
def numRead (s : ByteArray) : Int × Bool := match Lib.atoiAll s.data.toList with
 | .ok v => (v, decide (itoaB v = s))
 | .range => (Lib.atoiSat s.data.toList, false)
 | _ => (0, false)
def filing_number.f (a0 : ByteArray) : Option (Int × Bool) := if a0.size ≤ 281474976710656 then some (numRead a0) else none
theorem bytes_ext {a b : ByteArray} (h : a.toList = b.toList) : a = b := by
 rw [Lib.toList_data, Lib.toList_data] at h
 exact ByteArray.ext (Array.toList_inj.mp h)
theorem atoi_bad (s : ByteArray) (w : World) (hs : s.size ≤ 281474976710656) (hT : Tabs w) (h : ∀ v, Lib.atoiAll s.data.toList ≠ .ok v) :
 Calls Tryz.prog 86 #[.string s] w fun e w' => ∃ (N : Nat), e = .returned (.tuple #[.int .i64 (numRead s).1, .iface 144 (.pointer (some ⟨N, 0, none⟩))]) ∧ Below w.heap.size w w' := by
 obtain ⟨tp, p, h2⟩ := hT.noSyntax
 obtain ⟨tq, q, h3⟩ := hT.noRange
 unfold numRead
 cases ha : Lib.atoiAll s.data.toList with
 | ok v => exact absurd ha (h v)
 | range =>
  refine (Tryz.strconv_Atoi_range_var s hs ha tq q w h3).mono ?_
  rintro e w' ⟨N, rfl, _, _, hb⟩
  exact ⟨N, rfl, hb⟩
 | _ =>
  refine (Tryz.strconv_Atoi_syntax_var s hs ha tp p w h2).mono ?_
  rintro e w' ⟨N, rfl, _, _, hb⟩
  exact ⟨N, rfl, hb⟩
theorem filing_number.calls (a0 : ByteArray) (r1 : Int) (r2 : Bool) (w : World) (hT : Tabs w) (h : filing_number.f a0 = some (r1, r2)) :
 Calls Tryz.prog 72 #[.string a0] w fun e w' => e = .returned (.tuple #[.int .i64 r1, .bool r2]) ∧ Below w.heap.size w w' := by
 unfold filing_number.f at h
 split at h
 · rename_i hc
   obtain hn := Option.some.inj h
   obtain ⟨rfl, rfl⟩ : (numRead a0).1 = r1 ∧ (numRead a0).2 = r2 := by rw [hn]; exact ⟨rfl, rfl⟩
   clear h hn
   have HT := Aside0.mk hT
   clear hT
   by_cases hv : ∃ v, Lib.atoiAll a0.data.toList = .ok v
   · obtain ⟨v, hv⟩ := hv
     have e1 : (numRead a0).1 = v := by unfold numRead; rw [hv]
     have e2 : (numRead a0).2 = decide (itoaB v = a0) := by unfold numRead; rw [hv]
     rw [e1, e2]
     have hr := Lib.atoiAll_bounds hv
     have HV := Aside0.mk hv
     have HR := Aside0.mk hr
     clear hv hr e1 e2
     go_enter Tryz.func72, Tryz.ntmps72
     go_wp2_with (go_at_call 86; refine (atoi_ok a0 v _ hc HV.out).mono ?_; rintro e w1 ⟨rfl, hb⟩; have HB := Aside0.mk hb; clear hb)
     refine (strconv_Itoa.calls v (itoaB v) _ (Tabs.below HT.out HB.out) (by unfold strconv_Itoa.f; rw [if_pos HR.out]; rfl)).mono ?_
     rintro e w2 ⟨rfl, hb2⟩
     go_wp2
     have hd : ((itoaB v).toList == a0.toList) = decide (itoaB v = a0) := by
      by_cases e : itoaB v = a0
      · rw [e]; simp
      · have : (itoaB v).toList ≠ a0.toList := fun h => e (bytes_ext h)
        simp [e, this]
     refine ⟨rfl, _, results_tmp2 (t := 2) (u := 3) rfl _ _ _, ?_, below_then HB.out HB.out.size hb2⟩
     rw [← hd]; rfl
   · have hn : ∀ v, Lib.atoiAll a0.data.toList ≠ .ok v := fun v h => hv ⟨v, h⟩
     have e2 : (numRead a0).2 = false := by
      unfold numRead
      cases ha : Lib.atoiAll a0.data.toList with
      | ok v => exact absurd ha (hn v)
      | _ => rfl
     rw [e2]
     have HN := Aside0.mk hn
     clear hn hv e2
     go_enter Tryz.func72, Tryz.ntmps72
     go_wp2_with (go_at_call 86; refine (atoi_bad a0 _ hc HT.out HN.out).mono ?_; rintro e w1 ⟨N, rfl, hb⟩; have HB := Aside0.mk hb; clear hb)
     exact ⟨rfl, _, results_tmp2 (t := 2) (u := 3) rfl _ _ _, rfl, HB.out⟩
 · cases h
end Go.Proofs.YtejgfblphgcgkaaGreatDoor.P
namespace Go.Proofs.YtejgfblphgcgkaaGreatDoor.P
open Go.RowKit Go.Proofs.YtejgfblphgcgkaaGreatDoorW.PrintWords Go.Proofs.YtejgfblphgcgkaaGreatDoorW.PrintLast Go.Proofs.YtejgfblphgcgkaaGreatDoorW.PrintMore
def splitS (s sep : ByteArray) : List ByteArray := Lib.splitB sep 0 (Lib.countB s sep) s
def strings_Split.f (a0 a1 : ByteArray) : Option (List ByteArray) := if a0.size < 4294967281 ∧ 1 ≤ a1.size then some (splitS a0 a1) else none
theorem strings_Split.calls (a0 a1 : ByteArray) (r1 : List ByteArray) (w : World) (hT : Tabs w) (h : strings_Split.f a0 a1 = some r1) :
 Calls Tryz.prog 71 #[.string a0, .string a1] w fun e w' => ∃ v0_ : Value, e = .returned (v0_) ∧ Kd.R Kd.string 9 w' w.heap.size (fun _ => True) v0_ r1 ∧ Below w.heap.size w w' := by
 unfold strings_Split.f at h
 split at h
 · rename_i hc
   obtain rfl := Option.some.inj h
   obtain ⟨m, hm⟩ := hT.maxLen
   refine (Tryz.strings_Split a0 a1 m w hc.1 hm hc.2).mono ?_
   rintro e w' ⟨rfl, rfl⟩
   have hl : (splitS a0 a1).length = Lib.countB a0 a1 + 1 := Lib.splitB_all a1 hc.2 0 _ a0 rfl
   have hle : Lib.countB a0 a1 ≤ a0.size := Lib.countB_le a1 hc.2 _ a0 (Nat.le_refl _)
   refine ⟨_, rfl, ?_, below_alloc (Below.refl _ _) _⟩
   refine Kd.R_of_own (enc := Value.string) ⟨by simp [encs], Or.inr ⟨w.heap.size, _, _, by rw [hl], Nat.le_refl _, blk_new _ _, by omega, by unfold maxLen; omega, by simp [← hl, splitS], ?_⟩⟩ (fun _ _ => trivial)
   rw [List.take_of_length_le (by simp [splitS])]
   rfl
 · cases h
end Go.Proofs.YtejgfblphgcgkaaGreatDoor.P
