/- Shelf -/
import Derived.Shelf.Strings.Builder1
import Derived.Shelf.Strings.Builder2
import Derived.Shelf.Strings.OnBuilder
import Derived.Shelf.Small.Utf8
import Derived.Shelf.Small.Strs
import Derived.Shelf.Small.Wraps
import Derived.Shelf.Strings.BuilderF
import Derived.Shelf.Strings.BuilderK
import Derived.Shelf.Utf8.RuneCount
import Derived.Shelf.Strings.Search1
import Derived.Shelf.Strings.Search2
import Derived.Shelf.Strings.Search3
import Derived.Shelf.Strings.Count
import Derived.Shelf.LaysM
import Derived.Shelf.Strings.Shaped
import Derived.Shelf.Strings.Prefix
import Derived.Shelf.Strings.Split
import Derived.Shelf.Strings.SplitShaped
import Derived.Shelf.Unicode.Latin
import Derived.Shelf.Unicode.Decode
import Derived.Shelf.Strings.RuneCount
import Derived.Shelf.Strings.Explode
import Derived.Shelf.Bits.Mul64
import Derived.Shelf.Strings.Repeat
import Derived.Shelf.Unicode.DecodeSlow
import Derived.Shelf.Unicode.DecodeAny
import Derived.Shelf.Unicode.CaseLookup
import Derived.Shelf.Unicode.CaseConvert
import Derived.Shelf.Unicode.CaseTo
import Derived.Shelf.Unicode.CaseLaid
import Derived.Test.YtoohondkpddmcaaGreatDoorProg
set_option linter.unusedVariables false
set_option linter.unusedSimpArgs false
namespace Go.Proofs
open Go.Shelf
def Tryz.lays158_ren : Go.Shelf.Ren:=⟨fun | 158 => 78 | 165 => 120 | 166 => 77 | 167 => 37 | 169 => 39 | 230 => 121 | 203 => 122 | 240 => 76 | 241 => 168 | 197 => 169 | 118 => 170 | 168 => 171 | 270 => 172 | 262 => 173 | 276 => 119 | 277 => 215 | 260 => 216 | 242 => 217 | 313 => 218 | 278 => 235 | 274 => 236 | 275 => 237 | n => n,fun | 9 => 9 | 4 => 4 | 3 => 3 | 5 => 5 | 72 => 71 | 0 => 0 | 76 => 114 | 75 => 73 | 107 => 161 | 70 => 69 | 20 => 20 | 37 => 48 | 127 => 118 | 21 => 21 | 105 => 179 | 164 => 157 | 162 => 211 | 203 => 209 | 119 => 223 | 46 => 93 | 139 => 226 | 138 => 225 | 51 => 204 | 160 => 227 | 208 => 238 | 206 => 236 | 80 => 76 | n => n,fun | 13 => 1 | 3 => 6 | 4 => 7 | n => n⟩
theorem Tryz.lays158 : Go.Proofs.Lays.n158 Tryz.prog Tryz.lays158_ren:={
 mixed:=by kernel_rfl
 f118:=Tryz.func170.trans (congrArg some (by kernel_rfl))
 f158:=Tryz.func78.trans (congrArg some (by kernel_rfl))
 f165:=Tryz.func120.trans (congrArg some (by kernel_rfl))
 f166:=Tryz.func77.trans (congrArg some (by kernel_rfl))
 f167:=Tryz.func37.trans (congrArg some (by kernel_rfl))
 f168:=Tryz.func171.trans (congrArg some (by kernel_rfl))
 f169:=Tryz.func39.trans (congrArg some (by kernel_rfl))
 f197:=Tryz.func169.trans (congrArg some (by kernel_rfl))
 f203:=Tryz.func122.trans (congrArg some (by kernel_rfl))
 f230:=Tryz.func121.trans (congrArg some (by kernel_rfl))
 f240:=Tryz.func76.trans (congrArg some (by kernel_rfl))
 f241:=Tryz.func168.trans (congrArg some (by kernel_rfl))
 f242:=Tryz.func217.trans (congrArg some (by kernel_rfl))
 f260:=Tryz.func216.trans (congrArg some (by kernel_rfl))
 f262:=Tryz.func173.trans (congrArg some (by kernel_rfl))
 f270:=Tryz.func172.trans (congrArg some (by kernel_rfl))
 f274:=Tryz.func236.trans (congrArg some (by kernel_rfl))
 f275:=Tryz.func237.trans (congrArg some (by kernel_rfl))
 f276:=Tryz.func119.trans (congrArg some (by kernel_rfl))
 f277:=Tryz.func215.trans (congrArg some (by kernel_rfl))
 f278:=Tryz.func235.trans (congrArg some (by kernel_rfl))
 f313:=Tryz.func218.trans (congrArg some (by kernel_rfl))
 t0:=Tryz.underlying0
 a0:=Tryz.isAgg0
 z0:=Tryz.sizeOf0
 v0:=Tryz.zeroValue0
 t3:=Tryz.underlying3
 a3:=Tryz.isAgg3
 z3:=Tryz.sizeOf3
 v3:=Tryz.zeroValue3
 t4:=Tryz.underlying4
 a4:=Tryz.isAgg4
 z4:=Tryz.sizeOf4
 v4:=Tryz.zeroValue4
 t5:=Tryz.underlying5
 a5:=Tryz.isAgg5
 z5:=Tryz.sizeOf5
 v5:=Tryz.zeroValue5
 t9:=Tryz.underlying9
 a9:=Tryz.isAgg9
 z9:=Tryz.sizeOf9
 v9:=Tryz.zeroValue9
 t20:=Tryz.underlying20
 a20:=Tryz.isAgg20
 z20:=Tryz.sizeOf20
 v20:=Tryz.zeroValue20
 t21:=Tryz.underlying21
 a21:=Tryz.isAgg21
 z21:=Tryz.sizeOf21
 v21:=Tryz.zeroValue21
 t37:=Tryz.underlying48
 a37:=Tryz.isAgg48
 z37:=Tryz.sizeOf48
 v37:=Tryz.zeroValue48
 t46:=Tryz.underlying93
 a46:=Tryz.isAgg93
 z46:=Tryz.sizeOf93
 v46:=Tryz.zeroValue93
 t51:=Tryz.underlying204
 a51:=Tryz.isAgg204
 z51:=Tryz.sizeOf204
 v51:=Tryz.zeroValue204
 t70:=Tryz.underlying69
 a70:=Tryz.isAgg69
 z70:=Tryz.sizeOf69
 v70:=Tryz.zeroValue69
 t72:=Tryz.underlying71
 a72:=Tryz.isAgg71
 z72:=Tryz.sizeOf71
 v72:=Tryz.zeroValue71
 t75:=Tryz.underlying73
 a75:=Tryz.isAgg73
 z75:=Tryz.sizeOf73
 v75:=Tryz.zeroValue73
 t76:=Tryz.underlying114
 a76:=Tryz.isAgg114
 z76:=Tryz.sizeOf114
 v76:=Tryz.zeroValue114
 t105:=Tryz.underlying179
 a105:=Tryz.isAgg179
 z105:=Tryz.sizeOf179
 v105:=Tryz.zeroValue179
 t107:=Tryz.underlying161
 a107:=Tryz.isAgg161
 z107:=Tryz.sizeOf161
 v107:=Tryz.zeroValue161
 t119:=Tryz.underlying223
 a119:=Tryz.isAgg223
 z119:=Tryz.sizeOf223
 t127:=Tryz.underlying118
 a127:=Tryz.isAgg118
 z127:=Tryz.sizeOf118
 v127:=Tryz.zeroValue118
 t138:=Tryz.underlying225
 a138:=Tryz.isAgg225
 z138:=Tryz.sizeOf225
 v138:=Tryz.zeroValue225
 t139:=Tryz.underlying226
 a139:=Tryz.isAgg226
 z139:=Tryz.sizeOf226
 v139:=Tryz.zeroValue226
 t160:=Tryz.underlying227
 a160:=Tryz.isAgg227
 z160:=Tryz.sizeOf227
 v160:=Tryz.zeroValue227
 t162:=Tryz.underlying211
 a162:=Tryz.isAgg211
 z162:=Tryz.sizeOf211
 v162:=Tryz.zeroValue211
 t164:=Tryz.underlying157
 a164:=Tryz.isAgg157
 z164:=Tryz.sizeOf157
 v164:=Tryz.zeroValue157
 t203:=Tryz.underlying209
 a203:=Tryz.isAgg209
 z203:=Tryz.sizeOf209
 v203:=Tryz.zeroValue209
 t206:=Tryz.underlying236
 a206:=Tryz.isAgg236
 z206:=Tryz.sizeOf236
 v206:=Tryz.zeroValue236
 t208:=Tryz.underlying238
 a208:=Tryz.isAgg238
 z208:=Tryz.sizeOf238
 v208:=Tryz.zeroValue238
 g3:=by kernel_rfl
 g4:=by kernel_rfl
 g13:=by kernel_rfl }
theorem Tryz.Builder_Extra_158 : Builder.Extra Tryz.prog Tryz.lays158_ren:={
 sizeBuilder:=by kernel_rfl
 liesBuilder:=by kernel_rfl
 t5:=Tryz.underlying5
 a5:=Tryz.isAgg5
 z5:=Tryz.sizeOf5
 v5:=Tryz.zeroValue5
 infoByte:=by kernel_rfl
 cellsByte:=by kernel_rfl
 sizeByte:=by kernel_rfl
 neB5:=by decide }
open Go.RowKit in
theorem Tryz.strings_ToUpper_ascii (s : ByteArray) (w : World) (hs : s.size ≤ 140737488355328) (hascii : ∀ (j : Nat) (b : UInt8),s.data.toList[j]? = some b → b.toNat < 128) :
 Calls Tryz.prog 78 #[.string s] w fun e w' => e = .returned (.string ⟨(Lib.toUpperA s.data.toList).toArray⟩) ∧ Below w.heap.size w w':=Any.strings_ToUpper_ascii Tryz.lays158 Tryz.Builder_Extra_158 s w hs hascii
open Go.RowKit in
open Go.RowKit in
def Tryz.lays137_ren : Go.Shelf.Ren:=⟨fun | 137 => 67 | 217 => 115 | 266 => 164 | n => n,fun | 9 => 9 | 5 => 5 | 3 => 3 | n => n,fun | n => n⟩
theorem Tryz.lays137 : Go.Proofs.Lays.n137 Tryz.prog Tryz.lays137_ren:={
 mixed:=by kernel_rfl
 f137:=Tryz.func67.trans (congrArg some (by kernel_rfl))
 f217:=Tryz.func115.trans (congrArg some (by kernel_rfl))
 f266:=Tryz.func164.trans (congrArg some (by kernel_rfl))
 t3:=Tryz.underlying3
 a3:=Tryz.isAgg3
 z3:=Tryz.sizeOf3
 v3:=Tryz.zeroValue3
 t5:=Tryz.underlying5
 a5:=Tryz.isAgg5
 z5:=Tryz.sizeOf5
 v5:=Tryz.zeroValue5
 t9:=Tryz.underlying9
 a9:=Tryz.isAgg9
 z9:=Tryz.sizeOf9
 v9:=Tryz.zeroValue9 }
open Go.RowKit in
theorem Tryz.strings_IndexByte (s : ByteArray) (c : Int) (w : World) :
 Calls Tryz.prog 67 #[.string s,.int .u8 c] w fun e w' => e = .returned (.int .i64 (Lib.indexByte s.data.toList c.toNat.toUInt8)) ∧ w' = w:=Any.strings_IndexByte Tryz.lays137 s c w
open Go.RowKit in
def Tryz.lays143_ren : Go.Shelf.Ren:=⟨fun | 143 => 68 | 219 => 116 | 217 => 115 | 225 => 165 | 224 => 166 | 267 => 167 | 266 => 164 | 314 => 214 | n => n,fun | 9 => 9 | 3 => 3 | 4 => 4 | 5 => 5 | 46 => 93 | 146 => 205 | 51 => 204 | n => n,fun | 1 => 0 | n => n⟩
theorem Tryz.lays143 : Go.Proofs.Lays.n143 Tryz.prog Tryz.lays143_ren:={
 mixed:=by kernel_rfl
 f143:=Tryz.func68.trans (congrArg some (by kernel_rfl))
 f217:=Tryz.func115.trans (congrArg some (by kernel_rfl))
 f219:=Tryz.func116.trans (congrArg some (by kernel_rfl))
 f224:=Tryz.func166.trans (congrArg some (by kernel_rfl))
 f225:=Tryz.func165.trans (congrArg some (by kernel_rfl))
 f266:=Tryz.func164.trans (congrArg some (by kernel_rfl))
 f267:=Tryz.func167.trans (congrArg some (by kernel_rfl))
 f314:=Tryz.func214.trans (congrArg some (by kernel_rfl))
 t3:=Tryz.underlying3
 a3:=Tryz.isAgg3
 z3:=Tryz.sizeOf3
 v3:=Tryz.zeroValue3
 t4:=Tryz.underlying4
 a4:=Tryz.isAgg4
 z4:=Tryz.sizeOf4
 v4:=Tryz.zeroValue4
 t5:=Tryz.underlying5
 a5:=Tryz.isAgg5
 z5:=Tryz.sizeOf5
 v5:=Tryz.zeroValue5
 t9:=Tryz.underlying9
 a9:=Tryz.isAgg9
 z9:=Tryz.sizeOf9
 v9:=Tryz.zeroValue9
 t46:=Tryz.underlying93
 a46:=Tryz.isAgg93
 z46:=Tryz.sizeOf93
 v46:=Tryz.zeroValue93
 t51:=Tryz.underlying204
 a51:=Tryz.isAgg204
 z51:=Tryz.sizeOf204
 v51:=Tryz.zeroValue204
 t146:=Tryz.underlying205
 a146:=Tryz.isAgg205
 z146:=Tryz.sizeOf205
 v146:=Tryz.zeroValue205
 g1:=by kernel_rfl }
open Go.RowKit Go.Lib in
theorem Tryz.strings_Index (s sub : ByteArray) (m : Int) (w : World) (hs : s.size < 4294967281) (hm : w.cell? ⟨0,0,none⟩ = some (.int .i64 m)) :
 Calls Tryz.prog 68 #[.string s,.string sub] w fun e w' => e = .returned (.int .i64 (Lib.index s.data.toList sub.data.toList)) ∧ w' = w:=Any.strings_Index Tryz.lays143 s sub m w hs hm
open Go.RowKit Go.Lib in
def Tryz.lays99_ren : Go.Shelf.Ren:=⟨fun | 99 => 66 | 206 => 114 | n => n,fun | 9 => 9 | 4 => 4 | 3 => 3 | n => n,fun | n => n⟩
theorem Tryz.lays99 : Go.Proofs.Lays.n99 Tryz.prog Tryz.lays99_ren:={
 mixed:=by kernel_rfl
 f99:=Tryz.func66.trans (congrArg some (by kernel_rfl))
 f206:=Tryz.func114.trans (congrArg some (by kernel_rfl))
 t3:=Tryz.underlying3
 a3:=Tryz.isAgg3
 z3:=Tryz.sizeOf3
 v3:=Tryz.zeroValue3
 t4:=Tryz.underlying4
 a4:=Tryz.isAgg4
 z4:=Tryz.sizeOf4
 v4:=Tryz.zeroValue4
 t9:=Tryz.underlying9
 a9:=Tryz.isAgg9
 z9:=Tryz.sizeOf9
 v9:=Tryz.zeroValue9 }
open Go.RowKit Go.Lib in
theorem Tryz.strings_HasPrefix (s p : ByteArray) (w : World) :
 Calls Tryz.prog 66 #[.string s,.string p] w fun e w' => e = .returned (.bool (Lib.hasPrefix s.data.toList p.data.toList)) ∧ w' = w:=Any.strings_HasPrefix Tryz.lays99 s p w
open Go.RowKit Go.Lib in
open Go.RowKit Go.Lib in
open Go.Shelf Go.RowKit
def Tryz.lays166_ren : Go.Shelf.Ren:=⟨fun | 166 => 77 | 240 => 76 | 276 => 119 | n => n,fun | 70 => 69 | 3 => 3 | 0 => 0 | 4 => 4 | 9 => 9 | 20 => 20 | 72 => 71 | 37 => 48 | 164 => 157 | 5 => 5 | 75 => 73 | 80 => 76 | 127 => 118 | 53 => 32 | 46 => 93 | n => n,fun | n => n⟩
theorem Tryz.lays166 : Go.Proofs.Lays.n166 Tryz.prog Tryz.lays166_ren:={
 mixed:=by kernel_rfl
 f166:=Tryz.func77.trans (congrArg some (by kernel_rfl))
 f240:=Tryz.func76.trans (congrArg some (by kernel_rfl))
 f276:=Tryz.func119.trans (congrArg some (by kernel_rfl))
 t0:=Tryz.underlying0
 a0:=Tryz.isAgg0
 z0:=Tryz.sizeOf0
 v0:=Tryz.zeroValue0
 t3:=Tryz.underlying3
 a3:=Tryz.isAgg3
 z3:=Tryz.sizeOf3
 v3:=Tryz.zeroValue3
 t4:=Tryz.underlying4
 a4:=Tryz.isAgg4
 z4:=Tryz.sizeOf4
 v4:=Tryz.zeroValue4
 t9:=Tryz.underlying9
 a9:=Tryz.isAgg9
 z9:=Tryz.sizeOf9
 v9:=Tryz.zeroValue9
 t20:=Tryz.underlying20
 a20:=Tryz.isAgg20
 z20:=Tryz.sizeOf20
 v20:=Tryz.zeroValue20
 t37:=Tryz.underlying48
 a37:=Tryz.isAgg48
 z37:=Tryz.sizeOf48
 v37:=Tryz.zeroValue48
 t70:=Tryz.underlying69
 a70:=Tryz.isAgg69
 z70:=Tryz.sizeOf69
 v70:=Tryz.zeroValue69
 t72:=Tryz.underlying71
 a72:=Tryz.isAgg71
 z72:=Tryz.sizeOf71
 v72:=Tryz.zeroValue71
 t75:=Tryz.underlying73
 a75:=Tryz.isAgg73
 z75:=Tryz.sizeOf73
 v75:=Tryz.zeroValue73
 t164:=Tryz.underlying157
 a164:=Tryz.isAgg157
 z164:=Tryz.sizeOf157
 v164:=Tryz.zeroValue157 }
theorem Tryz.Builder_Extra_166 : Builder.Extra Tryz.prog Tryz.lays166_ren:={
 sizeBuilder:=by kernel_rfl
 liesBuilder:=by kernel_rfl
 t5:=Tryz.underlying5
 a5:=Tryz.isAgg5
 z5:=Tryz.sizeOf5
 v5:=Tryz.zeroValue5
 infoByte:=by kernel_rfl
 cellsByte:=by kernel_rfl
 sizeByte:=by kernel_rfl
 neB5:=by decide }
def Tryz.lays167_ren : Go.Shelf.Ren:=⟨fun | 167 => 37 | 240 => 76 | 276 => 119 | n => n,fun | 70 => 69 | 3 => 3 | 0 => 0 | 4 => 4 | 9 => 9 | 20 => 20 | 72 => 71 | 37 => 48 | 164 => 157 | 5 => 5 | 75 => 73 | 80 => 76 | 127 => 118 | 53 => 32 | 46 => 93 | n => n,fun | n => n⟩
theorem Tryz.lays167 : Go.Proofs.Lays.n167 Tryz.prog Tryz.lays167_ren:={
 mixed:=by kernel_rfl
 f167:=Tryz.func37.trans (congrArg some (by kernel_rfl))
 f240:=Tryz.func76.trans (congrArg some (by kernel_rfl))
 f276:=Tryz.func119.trans (congrArg some (by kernel_rfl))
 t0:=Tryz.underlying0
 a0:=Tryz.isAgg0
 z0:=Tryz.sizeOf0
 v0:=Tryz.zeroValue0
 t4:=Tryz.underlying4
 a4:=Tryz.isAgg4
 z4:=Tryz.sizeOf4
 v4:=Tryz.zeroValue4
 t5:=Tryz.underlying5
 a5:=Tryz.isAgg5
 z5:=Tryz.sizeOf5
 v5:=Tryz.zeroValue5
 t9:=Tryz.underlying9
 a9:=Tryz.isAgg9
 z9:=Tryz.sizeOf9
 v9:=Tryz.zeroValue9
 t20:=Tryz.underlying20
 a20:=Tryz.isAgg20
 z20:=Tryz.sizeOf20
 v20:=Tryz.zeroValue20
 t37:=Tryz.underlying48
 a37:=Tryz.isAgg48
 z37:=Tryz.sizeOf48
 v37:=Tryz.zeroValue48
 t70:=Tryz.underlying69
 a70:=Tryz.isAgg69
 z70:=Tryz.sizeOf69
 v70:=Tryz.zeroValue69
 t72:=Tryz.underlying71
 a72:=Tryz.isAgg71
 z72:=Tryz.sizeOf71
 v72:=Tryz.zeroValue71
 t75:=Tryz.underlying73
 a75:=Tryz.isAgg73
 z75:=Tryz.sizeOf73
 v75:=Tryz.zeroValue73
 t164:=Tryz.underlying157
 a164:=Tryz.isAgg157
 z164:=Tryz.sizeOf157
 v164:=Tryz.zeroValue157 }
theorem Tryz.Builder_Extra_167 : Builder.Extra Tryz.prog Tryz.lays167_ren:={
 sizeBuilder:=by kernel_rfl
 liesBuilder:=by kernel_rfl
 t5:=Tryz.underlying5
 a5:=Tryz.isAgg5
 z5:=Tryz.sizeOf5
 v5:=Tryz.zeroValue5
 infoByte:=by kernel_rfl
 cellsByte:=by kernel_rfl
 sizeByte:=by kernel_rfl
 neB5:=by decide }
def Tryz.lays169_ren : Go.Shelf.Ren:=⟨fun | 169 => 39 | n => n,fun | 70 => 69 | 3 => 3 | 0 => 0 | 4 => 4 | 9 => 9 | 20 => 20 | 72 => 71 | 37 => 48 | 164 => 157 | 5 => 5 | 75 => 73 | 80 => 76 | 127 => 118 | 53 => 32 | 46 => 93 | n => n,fun | n => n⟩
theorem Tryz.lays169 : Go.Proofs.Lays.n169 Tryz.prog Tryz.lays169_ren:={
 mixed:=by kernel_rfl
 f169:=Tryz.func39.trans (congrArg some (by kernel_rfl))
 t0:=Tryz.underlying0
 a0:=Tryz.isAgg0
 z0:=Tryz.sizeOf0
 v0:=Tryz.zeroValue0
 t3:=Tryz.underlying3
 a3:=Tryz.isAgg3
 z3:=Tryz.sizeOf3
 v3:=Tryz.zeroValue3
 t9:=Tryz.underlying9
 a9:=Tryz.isAgg9
 z9:=Tryz.sizeOf9
 v9:=Tryz.zeroValue9
 t37:=Tryz.underlying48
 a37:=Tryz.isAgg48
 z37:=Tryz.sizeOf48
 v37:=Tryz.zeroValue48
 t70:=Tryz.underlying69
 a70:=Tryz.isAgg69
 z70:=Tryz.sizeOf69
 v70:=Tryz.zeroValue69
 t72:=Tryz.underlying71
 a72:=Tryz.isAgg71
 z72:=Tryz.sizeOf71
 v72:=Tryz.zeroValue71
 t127:=Tryz.underlying118
 a127:=Tryz.isAgg118
 z127:=Tryz.sizeOf118
 v127:=Tryz.zeroValue118 }
theorem Tryz.Builder_Extra_169 : Builder.Extra Tryz.prog Tryz.lays169_ren:={
 sizeBuilder:=by kernel_rfl
 liesBuilder:=by kernel_rfl
 t5:=Tryz.underlying5
 a5:=Tryz.isAgg5
 z5:=Tryz.sizeOf5
 v5:=Tryz.zeroValue5
 infoByte:=by kernel_rfl
 cellsByte:=by kernel_rfl
 sizeByte:=by kernel_rfl
 neB5:=by decide }
end Go.Proofs
