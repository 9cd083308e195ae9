/- Shelf -/
import Derived.Test.YtoohondkpddmcaaGreatDoorUzz
import Derived.Shelf.Strings.Builder1
import Derived.Shelf.Strings.Builder2
import Derived.Shelf.Strings.OnBuilder
import Derived.Shelf.Small.Utf8
import Derived.Shelf.Small.Strs
import Derived.Shelf.Small.Wraps
import Derived.Shelf.Strings.BuilderF
import Derived.Shelf.Strings.BuilderK
import Derived.Shelf.Utf8.RuneCount
import Derived.Shelf.Strings.Search1
import Derived.Shelf.Strings.Search2
import Derived.Shelf.Strings.Search3
import Derived.Shelf.Strings.Count
import Derived.Shelf.LaysM
import Derived.Shelf.Strings.Shaped
import Derived.Shelf.Strings.Prefix
import Derived.Shelf.Strings.Split
import Derived.Shelf.Strings.SplitShaped
import Derived.Shelf.Unicode.Latin
import Derived.Shelf.Unicode.Decode
import Derived.Shelf.Strings.RuneCount
import Derived.Shelf.Strings.Explode
import Derived.Shelf.Bits.Mul64
import Derived.Shelf.Strings.Repeat
import Derived.Shelf.Unicode.DecodeSlow
import Derived.Shelf.Unicode.DecodeAny
import Derived.Shelf.Unicode.CaseLookup
import Derived.Shelf.Unicode.CaseConvert
import Derived.Shelf.Unicode.CaseTo
import Derived.Shelf.Unicode.CaseLaid
import Derived.Test.YtoohondkpddmcaaGreatDoorProg
namespace Go.Proofs
set_option linter.unusedVariables false
set_option linter.unusedSimpArgs false
open Go.Shelf
open Go.RowKit in
def Tryz.lays156_ren:Go.Shelf.Ren:=⟨fun|156=>206|165=>120|166=>77|169=>39|240=>76|241=>168|276=>119|277=>215|n=>n,fun|31=>49|9=>9|3=>3|4=>4|0=>0|20=>20|72=>71|76=>114|70=>69|37=>48|75=>73|127=>118|164=>157|5=>5|80=>76|n=>n,fun|n=>n⟩
theorem Tryz.lays156:Go.Proofs.Lays.n156 Tryz.prog Tryz.lays156_ren:={
 mixed:=by kernel_rfl
 f156:=Tryz.func206.trans (congrArg some (by kernel_rfl))
 f165:=Tryz.func120.trans (congrArg some (by kernel_rfl))
 f166:=Tryz.func77.trans (congrArg some (by kernel_rfl))
 f169:=Tryz.func39.trans (congrArg some (by kernel_rfl))
 f240:=Tryz.func76.trans (congrArg some (by kernel_rfl))
 f241:=Tryz.func168.trans (congrArg some (by kernel_rfl))
 f276:=Tryz.func119.trans (congrArg some (by kernel_rfl))
 f277:=Tryz.func215.trans (congrArg some (by kernel_rfl))
 t0:=Tryz.underlying0
 a0:=Tryz.isAgg0
 z0:=Tryz.sizeOf0
 v0:=Tryz.zeroValue0
 t3:=Tryz.underlying3
 a3:=Tryz.isAgg3
 z3:=Tryz.sizeOf3
 v3:=Tryz.zeroValue3
 t4:=Tryz.underlying4
 a4:=Tryz.isAgg4
 z4:=Tryz.sizeOf4
 v4:=Tryz.zeroValue4
 t9:=Tryz.underlying9
 a9:=Tryz.isAgg9
 z9:=Tryz.sizeOf9
 v9:=Tryz.zeroValue9
 t20:=Tryz.underlying20
 a20:=Tryz.isAgg20
 z20:=Tryz.sizeOf20
 v20:=Tryz.zeroValue20
 t31:=Tryz.underlying49
 a31:=Tryz.isAgg49
 z31:=Tryz.sizeOf49
 v31:=Tryz.zeroValue49
 t37:=Tryz.underlying48
 a37:=Tryz.isAgg48
 z37:=Tryz.sizeOf48
 v37:=Tryz.zeroValue48
 t70:=Tryz.underlying69
 a70:=Tryz.isAgg69
 z70:=Tryz.sizeOf69
 v70:=Tryz.zeroValue69
 t72:=Tryz.underlying71
 a72:=Tryz.isAgg71
 z72:=Tryz.sizeOf71
 v72:=Tryz.zeroValue71
 t75:=Tryz.underlying73
 a75:=Tryz.isAgg73
 z75:=Tryz.sizeOf73
 v75:=Tryz.zeroValue73
 t76:=Tryz.underlying114
 a76:=Tryz.isAgg114
 z76:=Tryz.sizeOf114
 v76:=Tryz.zeroValue114
 t127:=Tryz.underlying118
 a127:=Tryz.isAgg118
 z127:=Tryz.sizeOf118
 v127:=Tryz.zeroValue118
 t164:=Tryz.underlying157
 a164:=Tryz.isAgg157
 z164:=Tryz.sizeOf157
 v164:=Tryz.zeroValue157 }
theorem Tryz.Builder_Extra_156:Builder.Extra Tryz.prog Tryz.lays156_ren:={
 sizeBuilder:=by kernel_rfl
 liesBuilder:=by kernel_rfl
 t5:=Tryz.underlying5
 a5:=Tryz.isAgg5
 z5:=Tryz.sizeOf5
 v5:=Tryz.zeroValue5
 infoByte:=by kernel_rfl
 cellsByte:=by kernel_rfl
 sizeByte:=by kernel_rfl
 neB5:=by decide }
open Go.RowKit in
theorem Tryz.strings_Join_none (a:Option Addr) (c:Nat) (sep:ByteArray) (w:World) :
 Calls Tryz.prog 206 #[.slice a 0 c,.string sep] w fun e w'=>e = .returned (.string ⟨#[]⟩)/\w'=w:=Any.strings_Join_none Tryz.lays156 Tryz.Builder_Extra_156 a c sep w
open Go.RowKit in
theorem Tryz.strings_Join (bk o c:Nat) (xs:List ByteArray) (sep:ByteArray) (w:World) (hcells:∀ (j:Nat) x,xs[j]?=some x->w.cell? ⟨bk,o+j,none⟩=some (.string x)) (hbk:bk<w.heap.size) (hN:xs.length<=140737488355328) (hcap:xs.length<=c) (hlen:(Lib.join (xs.map (·.data.toList)) sep.data.toList).length<=140737488355328) :
 Calls Tryz.prog 206 #[.slice (some ⟨bk,o,none⟩) xs.length c,.string sep] w fun e w'=>e = .returned (.string ⟨(Lib.join (xs.map (·.data.toList)) sep.data.toList).toArray⟩)/\Below w.heap.size w w':=Any.strings_Join Tryz.lays156 Tryz.Builder_Extra_156 bk o c xs sep w hcells hbk hN hcap hlen
open Go.RowKit in
def Tryz.lays103_ren:Go.Shelf.Ren:=⟨fun|103=>184|210=>224|206=>114|n=>n,fun|9=>9|4=>4|24=>97|3=>3|n=>n,fun|n=>n⟩
theorem Tryz.lays103:Go.Proofs.Lays.n103 Tryz.prog Tryz.lays103_ren:={
 mixed:=by kernel_rfl
 f103:=Tryz.func184.trans (congrArg some (by kernel_rfl))
 f206:=Tryz.func114.trans (congrArg some (by kernel_rfl))
 f210:=Tryz.func224.trans (congrArg some (by kernel_rfl))
 t3:=Tryz.underlying3
 a3:=Tryz.isAgg3
 z3:=Tryz.sizeOf3
 v3:=Tryz.zeroValue3
 t4:=Tryz.underlying4
 a4:=Tryz.isAgg4
 z4:=Tryz.sizeOf4
 v4:=Tryz.zeroValue4
 t9:=Tryz.underlying9
 a9:=Tryz.isAgg9
 z9:=Tryz.sizeOf9
 v9:=Tryz.zeroValue9
 t24:=Tryz.underlying97
 a24:=Tryz.isAgg97
 z24:=Tryz.sizeOf97
 v24:=Tryz.zeroValue97 }
open Go.RowKit in
theorem Tryz.strings_CutPrefix (s p:ByteArray) (w:World) :
 Calls Tryz.prog 184 #[.string s,.string p] w fun e w'=>e = .returned (.tuple #[.string ⟨(Lib.trimPrefix s.data.toList p.data.toList).toArray⟩,.bool (Lib.hasPrefix s.data.toList p.data.toList)])/\w'=w:=Any.strings_CutPrefix Tryz.lays103 s p w
open Go.RowKit Go.Lib in
def Tryz.lays138_ren:Go.Shelf.Ren:=⟨fun|138=>185|195=>225|218=>226|143=>68|219=>116|217=>115|225=>165|224=>166|267=>167|266=>164|314=>214|n=>n,fun|9=>9|3=>3|4=>4|5=>5|0=>0|46=>93|146=>205|51=>204|n=>n,fun|1=>0|n=>n⟩
theorem Tryz.lays138:Go.Proofs.Lays.n138 Tryz.prog Tryz.lays138_ren:={
 mixed:=by kernel_rfl
 f138:=Tryz.func185.trans (congrArg some (by kernel_rfl))
 f143:=Tryz.func68.trans (congrArg some (by kernel_rfl))
 f195:=Tryz.func225.trans (congrArg some (by kernel_rfl))
 f217:=Tryz.func115.trans (congrArg some (by kernel_rfl))
 f218:=Tryz.func226.trans (congrArg some (by kernel_rfl))
 f219:=Tryz.func116.trans (congrArg some (by kernel_rfl))
 f224:=Tryz.func166.trans (congrArg some (by kernel_rfl))
 f225:=Tryz.func165.trans (congrArg some (by kernel_rfl))
 f266:=Tryz.func164.trans (congrArg some (by kernel_rfl))
 f267:=Tryz.func167.trans (congrArg some (by kernel_rfl))
 f314:=Tryz.func214.trans (congrArg some (by kernel_rfl))
 t0:=Tryz.underlying0
 a0:=Tryz.isAgg0
 z0:=Tryz.sizeOf0
 v0:=Tryz.zeroValue0
 t3:=Tryz.underlying3
 a3:=Tryz.isAgg3
 z3:=Tryz.sizeOf3
 v3:=Tryz.zeroValue3
 t4:=Tryz.underlying4
 a4:=Tryz.isAgg4
 z4:=Tryz.sizeOf4
 v4:=Tryz.zeroValue4
 t5:=Tryz.underlying5
 a5:=Tryz.isAgg5
 z5:=Tryz.sizeOf5
 v5:=Tryz.zeroValue5
 t9:=Tryz.underlying9
 a9:=Tryz.isAgg9
 z9:=Tryz.sizeOf9
 v9:=Tryz.zeroValue9
 t46:=Tryz.underlying93
 a46:=Tryz.isAgg93
 z46:=Tryz.sizeOf93
 v46:=Tryz.zeroValue93
 t51:=Tryz.underlying204
 a51:=Tryz.isAgg204
 z51:=Tryz.sizeOf204
 v51:=Tryz.zeroValue204
 t146:=Tryz.underlying205
 a146:=Tryz.isAgg205
 z146:=Tryz.sizeOf205
 v146:=Tryz.zeroValue205
 g1:=by kernel_rfl }
open Go.RowKit Go.Lib in
theorem Tryz.strings_Count_one (s:ByteArray) (c:UInt8) (w:World) :
 Calls Tryz.prog 185 #[.string s,.string ⟨#[c]⟩] w fun e w'=>e = .returned (.int .i64 (Lib.countByte s.data.toList c))/\w'=w:=Any.strings_Count_one Tryz.lays138 s c w
def Tryz.lays99_ren:Go.Shelf.Ren:=⟨fun|99=>66|206=>114|n=>n,fun|9=>9|4=>4|3=>3|n=>n,fun|n=>n⟩
theorem Tryz.lays99:Go.Proofs.Lays.n99 Tryz.prog Tryz.lays99_ren:={
 mixed:=by kernel_rfl
 f99:=Tryz.func66.trans (congrArg some (by kernel_rfl))
 f206:=Tryz.func114.trans (congrArg some (by kernel_rfl))
 t3:=Tryz.underlying3
 a3:=Tryz.isAgg3
 z3:=Tryz.sizeOf3
 v3:=Tryz.zeroValue3
 t4:=Tryz.underlying4
 a4:=Tryz.isAgg4
 z4:=Tryz.sizeOf4
 v4:=Tryz.zeroValue4
 t9:=Tryz.underlying9
 a9:=Tryz.isAgg9
 z9:=Tryz.sizeOf9
 v9:=Tryz.zeroValue9 }
open Go.RowKit Go.Lib in
theorem Tryz.strings_HasPrefix (s p:ByteArray) (w:World) :
 Calls Tryz.prog 66 #[.string s,.string p] w fun e w'=>e = .returned (.bool (Lib.hasPrefix s.data.toList p.data.toList))/\w'=w:=Any.strings_HasPrefix Tryz.lays99 s p w
def Tryz.lays146_ren:Go.Shelf.Ren:=⟨fun|146=>186|221=>227|268=>240|138=>185|143=>68|195=>225|197=>169|218=>226|219=>116|260=>216|217=>115|225=>165|224=>166|267=>167|266=>164|314=>214|n=>n,fun|9=>9|31=>49|3=>3|4=>4|0=>0|105=>179|21=>21|5=>5|46=>93|119=>223|139=>226|138=>225|146=>205|51=>204|n=>n,fun|1=>0|3=>6|4=>7|n=>n⟩
theorem Tryz.lays146:Go.Proofs.Lays.n146 Tryz.prog Tryz.lays146_ren:={
 mixed:=by kernel_rfl
 f138:=Tryz.func185.trans (congrArg some (by kernel_rfl))
 f143:=Tryz.func68.trans (congrArg some (by kernel_rfl))
 f146:=Tryz.func186.trans (congrArg some (by kernel_rfl))
 f195:=Tryz.func225.trans (congrArg some (by kernel_rfl))
 f197:=Tryz.func169.trans (congrArg some (by kernel_rfl))
 f217:=Tryz.func115.trans (congrArg some (by kernel_rfl))
 f218:=Tryz.func226.trans (congrArg some (by kernel_rfl))
 f219:=Tryz.func116.trans (congrArg some (by kernel_rfl))
 f221:=Tryz.func227.trans (congrArg some (by kernel_rfl))
 f224:=Tryz.func166.trans (congrArg some (by kernel_rfl))
 f225:=Tryz.func165.trans (congrArg some (by kernel_rfl))
 f260:=Tryz.func216.trans (congrArg some (by kernel_rfl))
 f266:=Tryz.func164.trans (congrArg some (by kernel_rfl))
 f267:=Tryz.func167.trans (congrArg some (by kernel_rfl))
 f268:=Tryz.func240.trans (congrArg some (by kernel_rfl))
 f314:=Tryz.func214.trans (congrArg some (by kernel_rfl))
 t0:=Tryz.underlying0
 a0:=Tryz.isAgg0
 z0:=Tryz.sizeOf0
 v0:=Tryz.zeroValue0
 t3:=Tryz.underlying3
 a3:=Tryz.isAgg3
 z3:=Tryz.sizeOf3
 v3:=Tryz.zeroValue3
 t4:=Tryz.underlying4
 a4:=Tryz.isAgg4
 z4:=Tryz.sizeOf4
 v4:=Tryz.zeroValue4
 t5:=Tryz.underlying5
 a5:=Tryz.isAgg5
 z5:=Tryz.sizeOf5
 v5:=Tryz.zeroValue5
 t9:=Tryz.underlying9
 a9:=Tryz.isAgg9
 z9:=Tryz.sizeOf9
 v9:=Tryz.zeroValue9
 t21:=Tryz.underlying21
 a21:=Tryz.isAgg21
 z21:=Tryz.sizeOf21
 v21:=Tryz.zeroValue21
 t31:=Tryz.underlying49
 a31:=Tryz.isAgg49
 z31:=Tryz.sizeOf49
 v31:=Tryz.zeroValue49
 t46:=Tryz.underlying93
 a46:=Tryz.isAgg93
 z46:=Tryz.sizeOf93
 v46:=Tryz.zeroValue93
 t51:=Tryz.underlying204
 a51:=Tryz.isAgg204
 z51:=Tryz.sizeOf204
 v51:=Tryz.zeroValue204
 t105:=Tryz.underlying179
 a105:=Tryz.isAgg179
 z105:=Tryz.sizeOf179
 v105:=Tryz.zeroValue179
 t119:=Tryz.underlying223
 a119:=Tryz.isAgg223
 z119:=Tryz.sizeOf223
 t138:=Tryz.underlying225
 a138:=Tryz.isAgg225
 z138:=Tryz.sizeOf225
 v138:=Tryz.zeroValue225
 t139:=Tryz.underlying226
 a139:=Tryz.isAgg226
 z139:=Tryz.sizeOf226
 v139:=Tryz.zeroValue226
 t146:=Tryz.underlying205
 a146:=Tryz.isAgg205
 z146:=Tryz.sizeOf205
 v146:=Tryz.zeroValue205
 g1:=by kernel_rfl
 g3:=by kernel_rfl
 g4:=by kernel_rfl }
open Go.RowKit Go.Lib in
theorem Tryz.strings_Split (s sep:ByteArray) (m:Int) (w:World) (hs:s.size<4294967281) (hm:w.cell? ⟨0,0,none⟩=some (.int .i64 m)) (h1:1<=sep.size) :
 Calls Tryz.prog 186 #[.string s,.string sep] w fun e w' =>
  e = .returned (.slice (some ⟨w.heap.size,0,none⟩) (Lib.countB s sep+1) (Lib.countB s sep+1))/\w'=w.alloc (.cells ((Lib.splitB sep 0 (Lib.countB s sep) s).map Value.string).toArray 9):=Any.strings_Split Tryz.lays146 (by kernel_rfl) s sep m w hs hm h1
def Tryz.lays105_ren:Go.Shelf.Ren:=⟨fun|105=>188|212=>229|99=>66|165=>120|166=>77|170=>230|169=>39|263=>241|264=>242|206=>114|240=>76|241=>168|276=>119|277=>215|n=>n,fun|9=>9|3=>3|4=>4|20=>20|0=>0|46=>93|109=>220|5=>5|72=>71|76=>114|51=>204|146=>205|53=>32|148=>233|70=>69|37=>48|75=>73|127=>118|164=>157|80=>76|n=>n,fun|n=>n⟩
theorem Tryz.lays105:Go.Proofs.Lays.n105 Tryz.prog Tryz.lays105_ren:={
 mixed:=by kernel_rfl
 f99:=Tryz.func66.trans (congrArg some (by kernel_rfl))
 f105:=Tryz.func188.trans (congrArg some (by kernel_rfl))
 f165:=Tryz.func120.trans (congrArg some (by kernel_rfl))
 f166:=Tryz.func77.trans (congrArg some (by kernel_rfl))
 f169:=Tryz.func39.trans (congrArg some (by kernel_rfl))
 f170:=Tryz.func230.trans (congrArg some (by kernel_rfl))
 f206:=Tryz.func114.trans (congrArg some (by kernel_rfl))
 f212:=Tryz.func229.trans (congrArg some (by kernel_rfl))
 f240:=Tryz.func76.trans (congrArg some (by kernel_rfl))
 f241:=Tryz.func168.trans (congrArg some (by kernel_rfl))
 f263:=Tryz.func241.trans (congrArg some (by kernel_rfl))
 f264:=Tryz.func242.trans (congrArg some (by kernel_rfl))
 f276:=Tryz.func119.trans (congrArg some (by kernel_rfl))
 f277:=Tryz.func215.trans (congrArg some (by kernel_rfl))
 t0:=Tryz.underlying0
 a0:=Tryz.isAgg0
 z0:=Tryz.sizeOf0
 v0:=Tryz.zeroValue0
 t3:=Tryz.underlying3
 a3:=Tryz.isAgg3
 z3:=Tryz.sizeOf3
 v3:=Tryz.zeroValue3
 t4:=Tryz.underlying4
 a4:=Tryz.isAgg4
 z4:=Tryz.sizeOf4
 v4:=Tryz.zeroValue4
 t5:=Tryz.underlying5
 a5:=Tryz.isAgg5
 z5:=Tryz.sizeOf5
 v5:=Tryz.zeroValue5
 t9:=Tryz.underlying9
 a9:=Tryz.isAgg9
 z9:=Tryz.sizeOf9
 v9:=Tryz.zeroValue9
 t20:=Tryz.underlying20
 a20:=Tryz.isAgg20
 z20:=Tryz.sizeOf20
 v20:=Tryz.zeroValue20
 t37:=Tryz.underlying48
 a37:=Tryz.isAgg48
 z37:=Tryz.sizeOf48
 v37:=Tryz.zeroValue48
 t46:=Tryz.underlying93
 a46:=Tryz.isAgg93
 z46:=Tryz.sizeOf93
 v46:=Tryz.zeroValue93
 t51:=Tryz.underlying204
 a51:=Tryz.isAgg204
 z51:=Tryz.sizeOf204
 v51:=Tryz.zeroValue204
 t53:=Tryz.underlying32
 a53:=Tryz.isAgg32
 z53:=Tryz.sizeOf32
 v53:=Tryz.zeroValue32
 t70:=Tryz.underlying69
 a70:=Tryz.isAgg69
 z70:=Tryz.sizeOf69
 v70:=Tryz.zeroValue69
 t72:=Tryz.underlying71
 a72:=Tryz.isAgg71
 z72:=Tryz.sizeOf71
 v72:=Tryz.zeroValue71
 t75:=Tryz.underlying73
 a75:=Tryz.isAgg73
 z75:=Tryz.sizeOf73
 v75:=Tryz.zeroValue73
 t76:=Tryz.underlying114
 a76:=Tryz.isAgg114
 z76:=Tryz.sizeOf114
 v76:=Tryz.zeroValue114
 t109:=Tryz.underlying220
 a109:=Tryz.isAgg220
 z109:=Tryz.sizeOf220
 v109:=Tryz.zeroValue220
 t127:=Tryz.underlying118
 a127:=Tryz.isAgg118
 z127:=Tryz.sizeOf118
 v127:=Tryz.zeroValue118
 t146:=Tryz.underlying205
 a146:=Tryz.isAgg205
 z146:=Tryz.sizeOf205
 v146:=Tryz.zeroValue205
 t148:=Tryz.underlying233
 a148:=Tryz.isAgg233
 z148:=Tryz.sizeOf233
 v148:=Tryz.zeroValue233
 t164:=Tryz.underlying157
 a164:=Tryz.isAgg157
 z164:=Tryz.sizeOf157
 v164:=Tryz.zeroValue157 }
theorem Tryz.Builder_Extra_105:Builder.Extra Tryz.prog Tryz.lays105_ren:={
 sizeBuilder:=by kernel_rfl
 liesBuilder:=by kernel_rfl
 t5:=Tryz.underlying5
 a5:=Tryz.isAgg5
 z5:=Tryz.sizeOf5
 v5:=Tryz.zeroValue5
 infoByte:=by kernel_rfl
 cellsByte:=by kernel_rfl
 sizeByte:=by kernel_rfl
 neB5:=by decide }
open Go.RowKit Go.Lib in
theorem Tryz.strings_Repeat (s:ByteArray) (c:Nat) (w:World) (hc:c<=9223372036854775807) (hlen:s.size * c<=140737488355328) :
 Calls Tryz.prog 188 #[.string s,.int .i64 c] w fun e w'=>e = .returned (.string ⟨(Lib.repeatL s.data.toList c).toArray⟩)/\Below w.heap.size w w':=Any.strings_Repeat Tryz.lays105 Tryz.Builder_Extra_105 s c w hc hlen
open Go.Shelf Go.RowKit
def Tryz.lays166_ren:Go.Shelf.Ren:=⟨fun|166=>77|240=>76|276=>119|n=>n,fun|70=>69|3=>3|0=>0|4=>4|9=>9|20=>20|72=>71|37=>48|164=>157|5=>5|75=>73|80=>76|127=>118|53=>32|46=>93|n=>n,fun|n=>n⟩
theorem Tryz.lays166:Go.Proofs.Lays.n166 Tryz.prog Tryz.lays166_ren:={
 mixed:=by kernel_rfl
 f166:=Tryz.func77.trans (congrArg some (by kernel_rfl))
 f240:=Tryz.func76.trans (congrArg some (by kernel_rfl))
 f276:=Tryz.func119.trans (congrArg some (by kernel_rfl))
 t0:=Tryz.underlying0
 a0:=Tryz.isAgg0
 z0:=Tryz.sizeOf0
 v0:=Tryz.zeroValue0
 t3:=Tryz.underlying3
 a3:=Tryz.isAgg3
 z3:=Tryz.sizeOf3
 v3:=Tryz.zeroValue3
 t4:=Tryz.underlying4
 a4:=Tryz.isAgg4
 z4:=Tryz.sizeOf4
 v4:=Tryz.zeroValue4
 t9:=Tryz.underlying9
 a9:=Tryz.isAgg9
 z9:=Tryz.sizeOf9
 v9:=Tryz.zeroValue9
 t20:=Tryz.underlying20
 a20:=Tryz.isAgg20
 z20:=Tryz.sizeOf20
 v20:=Tryz.zeroValue20
 t37:=Tryz.underlying48
 a37:=Tryz.isAgg48
 z37:=Tryz.sizeOf48
 v37:=Tryz.zeroValue48
 t70:=Tryz.underlying69
 a70:=Tryz.isAgg69
 z70:=Tryz.sizeOf69
 v70:=Tryz.zeroValue69
 t72:=Tryz.underlying71
 a72:=Tryz.isAgg71
 z72:=Tryz.sizeOf71
 v72:=Tryz.zeroValue71
 t75:=Tryz.underlying73
 a75:=Tryz.isAgg73
 z75:=Tryz.sizeOf73
 v75:=Tryz.zeroValue73
 t164:=Tryz.underlying157
 a164:=Tryz.isAgg157
 z164:=Tryz.sizeOf157
 v164:=Tryz.zeroValue157 }
theorem Tryz.Builder_Extra_166:Builder.Extra Tryz.prog Tryz.lays166_ren:={
 sizeBuilder:=by kernel_rfl
 liesBuilder:=by kernel_rfl
 t5:=Tryz.underlying5
 a5:=Tryz.isAgg5
 z5:=Tryz.sizeOf5
 v5:=Tryz.zeroValue5
 infoByte:=by kernel_rfl
 cellsByte:=by kernel_rfl
 sizeByte:=by kernel_rfl
 neB5:=by decide }
theorem Tryz.Builder_WriteString (B b:Nat) (bs:List Value) (s:ByteArray) (w:World) (h:Lib.IsBuilder 71 5 B b bs w) (hlen:bs.length+s.size<=140737488355328) (hBw:B<=w.heap.size) :
 Calls Tryz.prog 77 #[.pointer (some ⟨b,0,none⟩),.string s] w fun e w'=>e = .returned (.tuple #[.int .i64 s.size,.nilIface])/\(Lib.BuilderAt 71 5 B b (.pointer (some ⟨b,0,none⟩)) (bs++Lib.strCells s) w'/\Below B w w'):=Any.Builder_WriteString Tryz.lays166 Tryz.Builder_Extra_166 B b bs s w h hlen hBw
def Tryz.lays167_ren:Go.Shelf.Ren:=⟨fun|167=>37|240=>76|276=>119|n=>n,fun|70=>69|3=>3|0=>0|4=>4|9=>9|20=>20|72=>71|37=>48|164=>157|5=>5|75=>73|80=>76|127=>118|53=>32|46=>93|n=>n,fun|n=>n⟩
theorem Tryz.lays167:Go.Proofs.Lays.n167 Tryz.prog Tryz.lays167_ren:={
 mixed:=by kernel_rfl
 f167:=Tryz.func37.trans (congrArg some (by kernel_rfl))
 f240:=Tryz.func76.trans (congrArg some (by kernel_rfl))
 f276:=Tryz.func119.trans (congrArg some (by kernel_rfl))
 t0:=Tryz.underlying0
 a0:=Tryz.isAgg0
 z0:=Tryz.sizeOf0
 v0:=Tryz.zeroValue0
 t4:=Tryz.underlying4
 a4:=Tryz.isAgg4
 z4:=Tryz.sizeOf4
 v4:=Tryz.zeroValue4
 t5:=Tryz.underlying5
 a5:=Tryz.isAgg5
 z5:=Tryz.sizeOf5
 v5:=Tryz.zeroValue5
 t9:=Tryz.underlying9
 a9:=Tryz.isAgg9
 z9:=Tryz.sizeOf9
 v9:=Tryz.zeroValue9
 t20:=Tryz.underlying20
 a20:=Tryz.isAgg20
 z20:=Tryz.sizeOf20
 v20:=Tryz.zeroValue20
 t37:=Tryz.underlying48
 a37:=Tryz.isAgg48
 z37:=Tryz.sizeOf48
 v37:=Tryz.zeroValue48
 t70:=Tryz.underlying69
 a70:=Tryz.isAgg69
 z70:=Tryz.sizeOf69
 v70:=Tryz.zeroValue69
 t72:=Tryz.underlying71
 a72:=Tryz.isAgg71
 z72:=Tryz.sizeOf71
 v72:=Tryz.zeroValue71
 t75:=Tryz.underlying73
 a75:=Tryz.isAgg73
 z75:=Tryz.sizeOf73
 v75:=Tryz.zeroValue73
 t164:=Tryz.underlying157
 a164:=Tryz.isAgg157
 z164:=Tryz.sizeOf157
 v164:=Tryz.zeroValue157 }
theorem Tryz.Builder_Extra_167:Builder.Extra Tryz.prog Tryz.lays167_ren:={
 sizeBuilder:=by kernel_rfl
 liesBuilder:=by kernel_rfl
 t5:=Tryz.underlying5
 a5:=Tryz.isAgg5
 z5:=Tryz.sizeOf5
 v5:=Tryz.zeroValue5
 infoByte:=by kernel_rfl
 cellsByte:=by kernel_rfl
 sizeByte:=by kernel_rfl
 neB5:=by decide }
theorem Tryz.Builder_WriteByte (B b:Nat) (bs:List Value) (c:Int) (w:World) (h:Lib.IsBuilder 71 5 B b bs w) (hlen:bs.length+1<=140737488355328) (hBw:B<=w.heap.size) :
 Calls Tryz.prog 37 #[.pointer (some ⟨b,0,none⟩),.int .u8 c] w fun e w'=>e = .returned .nilIface/\(Lib.BuilderAt 71 5 B b (.pointer (some ⟨b,0,none⟩)) (bs++[.int .u8 c]) w'/\Below B w w'):=Any.Builder_WriteByte Tryz.lays167 Tryz.Builder_Extra_167 B b bs c w h hlen hBw
def Tryz.lays169_ren:Go.Shelf.Ren:=⟨fun|169=>39|n=>n,fun|70=>69|3=>3|0=>0|4=>4|9=>9|20=>20|72=>71|37=>48|164=>157|5=>5|75=>73|80=>76|127=>118|53=>32|46=>93|n=>n,fun|n=>n⟩
theorem Tryz.lays169:Go.Proofs.Lays.n169 Tryz.prog Tryz.lays169_ren:={
 mixed:=by kernel_rfl
 f169:=Tryz.func39.trans (congrArg some (by kernel_rfl))
 t0:=Tryz.underlying0
 a0:=Tryz.isAgg0
 z0:=Tryz.sizeOf0
 v0:=Tryz.zeroValue0
 t3:=Tryz.underlying3
 a3:=Tryz.isAgg3
 z3:=Tryz.sizeOf3
 v3:=Tryz.zeroValue3
 t9:=Tryz.underlying9
 a9:=Tryz.isAgg9
 z9:=Tryz.sizeOf9
 v9:=Tryz.zeroValue9
 t37:=Tryz.underlying48
 a37:=Tryz.isAgg48
 z37:=Tryz.sizeOf48
 v37:=Tryz.zeroValue48
 t70:=Tryz.underlying69
 a70:=Tryz.isAgg69
 z70:=Tryz.sizeOf69
 v70:=Tryz.zeroValue69
 t72:=Tryz.underlying71
 a72:=Tryz.isAgg71
 z72:=Tryz.sizeOf71
 v72:=Tryz.zeroValue71
 t127:=Tryz.underlying118
 a127:=Tryz.isAgg118
 z127:=Tryz.sizeOf118
 v127:=Tryz.zeroValue118 }
theorem Tryz.Builder_Extra_169:Builder.Extra Tryz.prog Tryz.lays169_ren:={
 sizeBuilder:=by kernel_rfl
 liesBuilder:=by kernel_rfl
 t5:=Tryz.underlying5
 a5:=Tryz.isAgg5
 z5:=Tryz.sizeOf5
 v5:=Tryz.zeroValue5
 infoByte:=by kernel_rfl
 cellsByte:=by kernel_rfl
 sizeByte:=by kernel_rfl
 neB5:=by decide }
theorem Tryz.Builder_String_any (B b:Nat) (l:List UInt8) (w:World) (h:Lib.IsBuilder 71 5 B b (Lib.byteCells l) w) (hBw:B<=w.heap.size) :
 Calls Tryz.prog 39 #[.pointer (some ⟨b,0,none⟩)] w fun e w'=>e = .returned (.string ⟨l.toArray⟩)/\Below B w w':=Any.Builder_String_any Tryz.lays169 Tryz.Builder_Extra_169 B b l w h hBw
end Go.Proofs
