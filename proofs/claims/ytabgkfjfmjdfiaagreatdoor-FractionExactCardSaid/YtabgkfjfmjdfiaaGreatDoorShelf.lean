import Derived.Shelf.Strings.Builder1
import Derived.Shelf.Strings.Builder2
import Derived.Shelf.Strings.OnBuilder
import Derived.Shelf.Strings.Trim
import Derived.Shelf.Small.Utf8
import Derived.Shelf.Small.Bits
import Derived.Shelf.Small.Strs
import Derived.Shelf.Small.Wraps
import Derived.Shelf.Strings.BuilderF
import Derived.Shelf.Strings.BuilderK
import Derived.Shelf.Strings.Builder2Cap
import Derived.Shelf.Strconv.Itoa0
import Derived.Shelf.Strconv.Itoa1
import Derived.Shelf.LaysM
import Derived.Shelf.Strconv.Itoa2
import Derived.Shelf.Strconv.Itoa3
import Derived.Shelf.Strings.Search1
import Derived.Shelf.Strings.Search2
import Derived.Shelf.Strings.Cut
import Derived.Shelf.Strings.Shaped
import Derived.Shelf.Strings.Prefix
import Derived.Shelf.Strings.Runes
import Derived.Shelf.Strings.AsciiSet
import Derived.Shelf.Bits.Mul64
import Derived.Shelf.Strings.Repeat
import Derived.Shelf.Unicode.DecodeSlow
import Derived.Shelf.Strings.BuilderCap
import Derived.Ground.Names2Prog
import Derived.Shelf.Slices.SearchI
import Derived.Test.YtabgkfjfmjdfiaaGreatDoorProg
namespace Go.Proofs.YtabgkfjfmjdfiaaGreatDoor
open Go.Shelf
def Tryz.lays156_ren:Go.Shelf.Ren:=⟨fun|156=>86|165=>114|166=>115|169=>117|240=>132|241=>133|276=>143|277=>144|n=>n,fun|31=>62|9=>9|3=>3|4=>4|0=>0|20=>20|72=>108|76=>112|70=>106|37=>22|75=>111|127=>129|164=>139|5=>5|80=>115|n=>n,fun|n=>n⟩
theorem Tryz.lays156:Go.Proofs.Lays.n156 Tryz.prog Tryz.lays156_ren:={
  mixed:=by kernel_rfl
  f156:=Tryz.func86.trans (congrArg some (by kernel_rfl))
  f165:=Tryz.func114.trans (congrArg some (by kernel_rfl))
  f166:=Tryz.func115.trans (congrArg some (by kernel_rfl))
  f169:=Tryz.func117.trans (congrArg some (by kernel_rfl))
  f240:=Tryz.func132.trans (congrArg some (by kernel_rfl))
  f241:=Tryz.func133.trans (congrArg some (by kernel_rfl))
  f276:=Tryz.func143.trans (congrArg some (by kernel_rfl))
  f277:=Tryz.func144.trans (congrArg some (by kernel_rfl))
  t0:=Tryz.underlying0
  a0:=Tryz.isAgg0
  z0:=Tryz.sizeOf0
  v0:=Tryz.zeroValue0
  t3:=Tryz.underlying3
  a3:=Tryz.isAgg3
  z3:=Tryz.sizeOf3
  v3:=Tryz.zeroValue3
  t4:=Tryz.underlying4
  a4:=Tryz.isAgg4
  z4:=Tryz.sizeOf4
  v4:=Tryz.zeroValue4
  t9:=Tryz.underlying9
  a9:=Tryz.isAgg9
  z9:=Tryz.sizeOf9
  v9:=Tryz.zeroValue9
  t20:=Tryz.underlying20
  a20:=Tryz.isAgg20
  z20:=Tryz.sizeOf20
  v20:=Tryz.zeroValue20
  t31:=Tryz.underlying62
  a31:=Tryz.isAgg62
  z31:=Tryz.sizeOf62
  v31:=Tryz.zeroValue62
  t37:=Tryz.underlying22
  a37:=Tryz.isAgg22
  z37:=Tryz.sizeOf22
  v37:=Tryz.zeroValue22
  t70:=Tryz.underlying106
  a70:=Tryz.isAgg106
  z70:=Tryz.sizeOf106
  v70:=Tryz.zeroValue106
  t72:=Tryz.underlying108
  a72:=Tryz.isAgg108
  z72:=Tryz.sizeOf108
  v72:=Tryz.zeroValue108
  t75:=Tryz.underlying111
  a75:=Tryz.isAgg111
  z75:=Tryz.sizeOf111
  v75:=Tryz.zeroValue111
  t76:=Tryz.underlying112
  a76:=Tryz.isAgg112
  z76:=Tryz.sizeOf112
  v76:=Tryz.zeroValue112
  t127:=Tryz.underlying129
  a127:=Tryz.isAgg129
  z127:=Tryz.sizeOf129
  v127:=Tryz.zeroValue129
  t164:=Tryz.underlying139
  a164:=Tryz.isAgg139
  z164:=Tryz.sizeOf139
  v164:=Tryz.zeroValue139 }
theorem Tryz.Builder_Extra_156:Builder.Extra Tryz.prog Tryz.lays156_ren:={
  sizeBuilder:=by kernel_rfl
  liesBuilder:=by kernel_rfl
  t5:=Tryz.underlying5
  a5:=Tryz.isAgg5
  z5:=Tryz.sizeOf5
  v5:=Tryz.zeroValue5
  infoByte:=by kernel_rfl
  cellsByte:=by kernel_rfl
  sizeByte:=by kernel_rfl
  neB5:=by decide }
open Go.RowKit in
theorem Tryz.strings_Join (bk o c:Nat) (xs:List ByteArray) (sep:ByteArray) (w:World) (hcells:∀ (j:Nat) x,xs[j]? = some x→w.cell? ⟨bk,o+j,none⟩=some (.string x)) (hbk:bk<w.heap.size) (hN:xs.length≤140737488355328) (hcap:xs.length≤c) (hlen:(Lib.join (xs.map (·.data.toList)) sep.data.toList).length≤140737488355328) :
    Calls Tryz.prog 86 #[.slice (some ⟨bk,o,none⟩) xs.length c,.string sep] w fun e w'=>e=.returned (.string ⟨(Lib.join (xs.map (·.data.toList)) sep.data.toList).toArray⟩)∧Below w.heap.size w w':=Any.strings_Join Tryz.lays156 Tryz.Builder_Extra_156 bk o c xs sep w hcells hbk hN hcap hlen
def Tryz.lays160_ren:Go.Shelf.Ren:=⟨fun|160=>90|232=>119|231=>118|227=>120|234=>122|233=>121|236=>124|235=>123|228=>134|271=>137|151=>136|197=>135|120=>147|152=>146|260=>145|137=>156|119=>157|224=>150|225=>149|217=>148|266=>158|n=>n,fun|9=>9|4=>4|3=>3|5=>5|117=>119|116=>118|0=>0|124=>122|21=>21|105=>131|46=>69|119=>147|139=>150|138=>149|n=>n,fun|3=>2|4=>3|n=>n⟩
theorem Tryz.lays160:Go.Proofs.Lays.n160 Tryz.prog Tryz.lays160_ren:={
  mixed:=by kernel_rfl
  f119:=Tryz.func157.trans (congrArg some (by kernel_rfl))
  f120:=Tryz.func147.trans (congrArg some (by kernel_rfl))
  f137:=Tryz.func156.trans (congrArg some (by kernel_rfl))
  f151:=Tryz.func136.trans (congrArg some (by kernel_rfl))
  f152:=Tryz.func146.trans (congrArg some (by kernel_rfl))
  f160:=Tryz.func90.trans (congrArg some (by kernel_rfl))
  f197:=Tryz.func135.trans (congrArg some (by kernel_rfl))
  f217:=Tryz.func148.trans (congrArg some (by kernel_rfl))
  f224:=Tryz.func150.trans (congrArg some (by kernel_rfl))
  f225:=Tryz.func149.trans (congrArg some (by kernel_rfl))
  f227:=Tryz.func120.trans (congrArg some (by kernel_rfl))
  f228:=Tryz.func134.trans (congrArg some (by kernel_rfl))
  f231:=Tryz.func118.trans (congrArg some (by kernel_rfl))
  f232:=Tryz.func119.trans (congrArg some (by kernel_rfl))
  f233:=Tryz.func121.trans (congrArg some (by kernel_rfl))
  f234:=Tryz.func122.trans (congrArg some (by kernel_rfl))
  f235:=Tryz.func123.trans (congrArg some (by kernel_rfl))
  f236:=Tryz.func124.trans (congrArg some (by kernel_rfl))
  f260:=Tryz.func145.trans (congrArg some (by kernel_rfl))
  f266:=Tryz.func158.trans (congrArg some (by kernel_rfl))
  f271:=Tryz.func137.trans (congrArg some (by kernel_rfl))
  t0:=Tryz.underlying0
  a0:=Tryz.isAgg0
  z0:=Tryz.sizeOf0
  v0:=Tryz.zeroValue0
  t3:=Tryz.underlying3
  a3:=Tryz.isAgg3
  z3:=Tryz.sizeOf3
  v3:=Tryz.zeroValue3
  t4:=Tryz.underlying4
  a4:=Tryz.isAgg4
  z4:=Tryz.sizeOf4
  v4:=Tryz.zeroValue4
  t5:=Tryz.underlying5
  a5:=Tryz.isAgg5
  z5:=Tryz.sizeOf5
  v5:=Tryz.zeroValue5
  t9:=Tryz.underlying9
  a9:=Tryz.isAgg9
  z9:=Tryz.sizeOf9
  v9:=Tryz.zeroValue9
  t21:=Tryz.underlying21
  a21:=Tryz.isAgg21
  z21:=Tryz.sizeOf21
  v21:=Tryz.zeroValue21
  t46:=Tryz.underlying69
  a46:=Tryz.isAgg69
  z46:=Tryz.sizeOf69
  v46:=Tryz.zeroValue69
  t105:=Tryz.underlying131
  a105:=Tryz.isAgg131
  z105:=Tryz.sizeOf131
  v105:=Tryz.zeroValue131
  t116:=Tryz.underlying118
  a116:=Tryz.isAgg118
  z116:=Tryz.sizeOf118
  t117:=Tryz.underlying119
  a117:=Tryz.isAgg119
  z117:=Tryz.sizeOf119
  v117:=Tryz.zeroValue119
  t119:=Tryz.underlying147
  a119:=Tryz.isAgg147
  z119:=Tryz.sizeOf147
  t124:=Tryz.underlying122
  a124:=Tryz.isAgg122
  z124:=Tryz.sizeOf122
  v124:=Tryz.zeroValue122
  t138:=Tryz.underlying149
  a138:=Tryz.isAgg149
  z138:=Tryz.sizeOf149
  v138:=Tryz.zeroValue149
  t139:=Tryz.underlying150
  a139:=Tryz.isAgg150
  z139:=Tryz.sizeOf150
  v139:=Tryz.zeroValue150
  g3:=by kernel_rfl
  g4:=by kernel_rfl }
def Tryz.lays125_ren:Go.Shelf.Ren:=⟨fun|125=>76|128=>108|129=>109|n=>n,fun|46=>69|3=>3|51=>100|53=>84|4=>4|5=>5|9=>9|n=>n,fun|n=>n⟩
theorem Tryz.lays125:Go.Proofs.Lays.n125 Tryz.prog Tryz.lays125_ren:={
  mixed:=by kernel_rfl
  f125:=Tryz.func76.trans (congrArg some (by kernel_rfl))
  f128:=Tryz.func108.trans (congrArg some (by kernel_rfl))
  f129:=Tryz.func109.trans (congrArg some (by kernel_rfl))
  t3:=Tryz.underlying3
  a3:=Tryz.isAgg3
  z3:=Tryz.sizeOf3
  v3:=Tryz.zeroValue3
  t4:=Tryz.underlying4
  a4:=Tryz.isAgg4
  z4:=Tryz.sizeOf4
  v4:=Tryz.zeroValue4
  t5:=Tryz.underlying5
  a5:=Tryz.isAgg5
  z5:=Tryz.sizeOf5
  v5:=Tryz.zeroValue5
  t9:=Tryz.underlying9
  a9:=Tryz.isAgg9
  z9:=Tryz.sizeOf9
  v9:=Tryz.zeroValue9
  t46:=Tryz.underlying69
  a46:=Tryz.isAgg69
  z46:=Tryz.sizeOf69
  v46:=Tryz.zeroValue69
  t51:=Tryz.underlying100
  a51:=Tryz.isAgg100
  z51:=Tryz.sizeOf100
  v51:=Tryz.zeroValue100
  t53:=Tryz.underlying84
  a53:=Tryz.isAgg84
  z53:=Tryz.sizeOf84
  v53:=Tryz.zeroValue84 }
theorem Tryz.bits_Len (x:Int) (w:World) (h0:0≤x) (h1:x≤18446744073709551615) :
    Calls Tryz.prog 76 #[.int .u64 x] w fun e w'=>e=.returned (.int .i64 (Lib.bitLen x.toNat))∧w'=w:=Any.bits_Len Tryz.lays125 x w h0 h1
def Tryz.lays103_ren:Go.Shelf.Ren:=⟨fun|103=>105|210=>126|206=>131|n=>n,fun|9=>9|4=>4|24=>94|3=>3|n=>n,fun|n=>n⟩
theorem Tryz.lays103:Go.Proofs.Lays.n103 Tryz.prog Tryz.lays103_ren:={
  mixed:=by kernel_rfl
  f103:=Tryz.func105.trans (congrArg some (by kernel_rfl))
  f206:=Tryz.func131.trans (congrArg some (by kernel_rfl))
  f210:=Tryz.func126.trans (congrArg some (by kernel_rfl))
  t3:=Tryz.underlying3
  a3:=Tryz.isAgg3
  z3:=Tryz.sizeOf3
  v3:=Tryz.zeroValue3
  t4:=Tryz.underlying4
  a4:=Tryz.isAgg4
  z4:=Tryz.sizeOf4
  v4:=Tryz.zeroValue4
  t9:=Tryz.underlying9
  a9:=Tryz.isAgg9
  z9:=Tryz.sizeOf9
  v9:=Tryz.zeroValue9
  t24:=Tryz.underlying94
  a24:=Tryz.isAgg94
  z24:=Tryz.sizeOf94
  v24:=Tryz.zeroValue94 }
open Go.RowKit in
theorem Tryz.strings_CutPrefix (s p:ByteArray) (w:World) :
    Calls Tryz.prog 105 #[.string s,.string p] w fun e w'=>e=.returned (.tuple #[.string ⟨(Lib.trimPrefix s.data.toList p.data.toList).toArray⟩,.bool (Lib.hasPrefix s.data.toList p.data.toList)])∧w'=w:=Any.strings_CutPrefix Tryz.lays103 s p w
def Tryz.laysM171_ren:Go.Shelf.Ren:=⟨fun|171=>83|243=>111|246=>128|283=>139|284=>140|285=>141|286=>142|129=>109|317=>152|318=>153|319=>154|320=>155|337=>160|338=>161|n=>n,fun|3=>3|9=>9|2=>2|4=>4|171=>135|0=>0|53=>84|37=>22|5=>5|173=>137|212=>145|51=>100|20=>20|213=>146|46=>69|232=>153|233=>154|n=>n,fun|17=>1|18=>4|19=>5|n=>n⟩
theorem Tryz.laysM171:Go.Proofs.LaysM.n171 Tryz.prog Tryz.laysM171_ren:={
  mixed:=by kernel_rfl
  f129:=Tryz.func109.trans (congrArg some (by kernel_rfl))
  f171:=Tryz.func83.trans (congrArg some (by kernel_rfl))
  f243:=Tryz.func111.trans (congrArg some (by kernel_rfl))
  f246:=Tryz.func128.trans (congrArg some (by kernel_rfl))
  f283:=Tryz.func139.trans (congrArg some (by kernel_rfl))
  f284:=Tryz.func140.trans (congrArg some (by kernel_rfl))
  f285:=Tryz.func141.trans (congrArg some (by kernel_rfl))
  f286:=Tryz.func142.trans (congrArg some (by kernel_rfl))
  f317:=Tryz.func152.trans (congrArg some (by kernel_rfl))
  f318:=Tryz.func153.trans (congrArg some (by kernel_rfl))
  f319:=Tryz.func154.trans (congrArg some (by kernel_rfl))
  f320:=Tryz.func155.trans (congrArg some (by kernel_rfl))
  f337:=Tryz.func160.trans (congrArg some (by kernel_rfl))
  f338:=Tryz.func161.trans (congrArg some (by kernel_rfl))
  t0:=Tryz.underlying0
  a0:=Tryz.isAgg0
  z0:=Tryz.sizeOf0
  v0:=Tryz.zeroValue0
  t2:=Tryz.underlying2
  a2:=Tryz.isAgg2
  z2:=Tryz.sizeOf2
  v2:=Tryz.zeroValue2
  t3:=Tryz.underlying3
  a3:=Tryz.isAgg3
  z3:=Tryz.sizeOf3
  v3:=Tryz.zeroValue3
  t4:=Tryz.underlying4
  a4:=Tryz.isAgg4
  z4:=Tryz.sizeOf4
  v4:=Tryz.zeroValue4
  t5:=Tryz.underlying5
  a5:=Tryz.isAgg5
  z5:=Tryz.sizeOf5
  v5:=Tryz.zeroValue5
  t9:=Tryz.underlying9
  a9:=Tryz.isAgg9
  z9:=Tryz.sizeOf9
  v9:=Tryz.zeroValue9
  t20:=Tryz.underlying20
  a20:=Tryz.isAgg20
  z20:=Tryz.sizeOf20
  v20:=Tryz.zeroValue20
  t37:=Tryz.underlying22
  a37:=Tryz.isAgg22
  z37:=Tryz.sizeOf22
  v37:=Tryz.zeroValue22
  t46:=Tryz.underlying69
  a46:=Tryz.isAgg69
  z46:=Tryz.sizeOf69
  v46:=Tryz.zeroValue69
  t51:=Tryz.underlying100
  a51:=Tryz.isAgg100
  z51:=Tryz.sizeOf100
  v51:=Tryz.zeroValue100
  t53:=Tryz.underlying84
  a53:=Tryz.isAgg84
  z53:=Tryz.sizeOf84
  v53:=Tryz.zeroValue84
  t171:=Tryz.underlying135
  a171:=Tryz.isAgg135
  z171:=Tryz.sizeOf135
  v171:=Tryz.zeroValue135
  t173:=Tryz.underlying137
  a173:=Tryz.isAgg137
  z173:=Tryz.sizeOf137
  v173:=Tryz.zeroValue137
  t212:=Tryz.underlying145
  a212:=Tryz.isAgg145
  z212:=Tryz.sizeOf145
  v212:=Tryz.zeroValue145
  t213:=Tryz.underlying146
  a213:=Tryz.isAgg146
  z213:=Tryz.sizeOf146
  t232:=Tryz.underlying153
  a232:=Tryz.isAgg153
  z232:=Tryz.sizeOf153
  v232:=Tryz.zeroValue153
  t233:=Tryz.underlying154
  a233:=Tryz.isAgg154
  z233:=Tryz.sizeOf154
  v233:=Tryz.zeroValue154
  g17:=by kernel_rfl
  g18:=by kernel_rfl
  g19:=by kernel_rfl
  i0:=by kernel_rfl
  i2:=by kernel_rfl
  i3:=by kernel_rfl
  i4:=by kernel_rfl
  i5:=by kernel_rfl
  i9:=by kernel_rfl
  i20:=by kernel_rfl
  i37:=by kernel_rfl
  i46:=by kernel_rfl
  i51:=by kernel_rfl
  i53:=by kernel_rfl
  i171:=by kernel_rfl
  i173:=by kernel_rfl
  i212:=by kernel_rfl
  i232:=by kernel_rfl
  i233:=by kernel_rfl
  m17:=by kernel_rfl
  m18:=by kernel_rfl
  m19:=by kernel_rfl }
open Go.RowKit Go.Sort Go.Lib in
theorem Tryz.strconv_Itoa (n:Int) (h0:-9223372036854775808≤n) (h1:n≤9223372036854775807) (w:World) (htab:Lib.TabIs Tryz.prog w "internal/strconv.uint64pow10" .u64 Lib.pow10Tab) :
    Calls Tryz.prog 83 #[.int .i64 n] w fun e w'=>e=.returned (.string ⟨(Lib.itoa n).toArray⟩)∧∃ k os,w'=grow (w.drewN k) os:=Any.strconv_Itoa Tryz.laysM171 n h0 h1 w htab
def Tryz.lays219_ren:Go.Shelf.Ren:=⟨fun|219=>138|217=>148|225=>149|224=>150|267=>151|266=>158|314=>159|n=>n,fun|9=>9|3=>3|4=>4|5=>5|46=>69|146=>125|51=>100|n=>n,fun|1=>0|n=>n⟩
theorem Tryz.lays219:Go.Proofs.Lays.n219 Tryz.prog Tryz.lays219_ren:={
  mixed:=by kernel_rfl
  f217:=Tryz.func148.trans (congrArg some (by kernel_rfl))
  f219:=Tryz.func138.trans (congrArg some (by kernel_rfl))
  f224:=Tryz.func150.trans (congrArg some (by kernel_rfl))
  f225:=Tryz.func149.trans (congrArg some (by kernel_rfl))
  f266:=Tryz.func158.trans (congrArg some (by kernel_rfl))
  f267:=Tryz.func151.trans (congrArg some (by kernel_rfl))
  f314:=Tryz.func159.trans (congrArg some (by kernel_rfl))
  t3:=Tryz.underlying3
  a3:=Tryz.isAgg3
  z3:=Tryz.sizeOf3
  v3:=Tryz.zeroValue3
  t4:=Tryz.underlying4
  a4:=Tryz.isAgg4
  z4:=Tryz.sizeOf4
  v4:=Tryz.zeroValue4
  t5:=Tryz.underlying5
  a5:=Tryz.isAgg5
  z5:=Tryz.sizeOf5
  v5:=Tryz.zeroValue5
  t9:=Tryz.underlying9
  a9:=Tryz.isAgg9
  z9:=Tryz.sizeOf9
  v9:=Tryz.zeroValue9
  t46:=Tryz.underlying69
  a46:=Tryz.isAgg69
  z46:=Tryz.sizeOf69
  v46:=Tryz.zeroValue69
  t51:=Tryz.underlying100
  a51:=Tryz.isAgg100
  z51:=Tryz.sizeOf100
  v51:=Tryz.zeroValue100
  t146:=Tryz.underlying125
  a146:=Tryz.isAgg125
  z146:=Tryz.sizeOf125
  v146:=Tryz.zeroValue125
  g1:=by kernel_rfl }
open Go.RowKit Go.Lib in
theorem Tryz.stringslite_Index_one (s:ByteArray) (c:UInt8) (w:World) :
    Calls Tryz.prog 138 #[.string s,.string ⟨#[c]⟩] w fun e w'=>e=.returned (.int .i64 (Lib.indexByte s.data.toList c))∧w'=w:=Any.stringslite_Index_one Tryz.lays219 s c w
def Tryz.lays105_ren:Go.Shelf.Ren:=⟨fun|105=>84|212=>112|99=>113|165=>114|166=>115|170=>116|169=>117|263=>129|264=>130|206=>131|240=>132|241=>133|276=>143|277=>144|n=>n,fun|9=>9|3=>3|4=>4|20=>20|0=>0|46=>69|109=>103|5=>5|72=>108|76=>112|51=>100|146=>125|53=>84|148=>127|70=>106|37=>22|75=>111|127=>129|164=>139|80=>115|n=>n,fun|n=>n⟩
theorem Tryz.lays105:Go.Proofs.Lays.n105 Tryz.prog Tryz.lays105_ren:={
  mixed:=by kernel_rfl
  f99:=Tryz.func113.trans (congrArg some (by kernel_rfl))
  f105:=Tryz.func84.trans (congrArg some (by kernel_rfl))
  f165:=Tryz.func114.trans (congrArg some (by kernel_rfl))
  f166:=Tryz.func115.trans (congrArg some (by kernel_rfl))
  f169:=Tryz.func117.trans (congrArg some (by kernel_rfl))
  f170:=Tryz.func116.trans (congrArg some (by kernel_rfl))
  f206:=Tryz.func131.trans (congrArg some (by kernel_rfl))
  f212:=Tryz.func112.trans (congrArg some (by kernel_rfl))
  f240:=Tryz.func132.trans (congrArg some (by kernel_rfl))
  f241:=Tryz.func133.trans (congrArg some (by kernel_rfl))
  f263:=Tryz.func129.trans (congrArg some (by kernel_rfl))
  f264:=Tryz.func130.trans (congrArg some (by kernel_rfl))
  f276:=Tryz.func143.trans (congrArg some (by kernel_rfl))
  f277:=Tryz.func144.trans (congrArg some (by kernel_rfl))
  t0:=Tryz.underlying0
  a0:=Tryz.isAgg0
  z0:=Tryz.sizeOf0
  v0:=Tryz.zeroValue0
  t3:=Tryz.underlying3
  a3:=Tryz.isAgg3
  z3:=Tryz.sizeOf3
  v3:=Tryz.zeroValue3
  t4:=Tryz.underlying4
  a4:=Tryz.isAgg4
  z4:=Tryz.sizeOf4
  v4:=Tryz.zeroValue4
  t5:=Tryz.underlying5
  a5:=Tryz.isAgg5
  z5:=Tryz.sizeOf5
  v5:=Tryz.zeroValue5
  t9:=Tryz.underlying9
  a9:=Tryz.isAgg9
  z9:=Tryz.sizeOf9
  v9:=Tryz.zeroValue9
  t20:=Tryz.underlying20
  a20:=Tryz.isAgg20
  z20:=Tryz.sizeOf20
  v20:=Tryz.zeroValue20
  t37:=Tryz.underlying22
  a37:=Tryz.isAgg22
  z37:=Tryz.sizeOf22
  v37:=Tryz.zeroValue22
  t46:=Tryz.underlying69
  a46:=Tryz.isAgg69
  z46:=Tryz.sizeOf69
  v46:=Tryz.zeroValue69
  t51:=Tryz.underlying100
  a51:=Tryz.isAgg100
  z51:=Tryz.sizeOf100
  v51:=Tryz.zeroValue100
  t53:=Tryz.underlying84
  a53:=Tryz.isAgg84
  z53:=Tryz.sizeOf84
  v53:=Tryz.zeroValue84
  t70:=Tryz.underlying106
  a70:=Tryz.isAgg106
  z70:=Tryz.sizeOf106
  v70:=Tryz.zeroValue106
  t72:=Tryz.underlying108
  a72:=Tryz.isAgg108
  z72:=Tryz.sizeOf108
  v72:=Tryz.zeroValue108
  t75:=Tryz.underlying111
  a75:=Tryz.isAgg111
  z75:=Tryz.sizeOf111
  v75:=Tryz.zeroValue111
  t76:=Tryz.underlying112
  a76:=Tryz.isAgg112
  z76:=Tryz.sizeOf112
  v76:=Tryz.zeroValue112
  t109:=Tryz.underlying103
  a109:=Tryz.isAgg103
  z109:=Tryz.sizeOf103
  v109:=Tryz.zeroValue103
  t127:=Tryz.underlying129
  a127:=Tryz.isAgg129
  z127:=Tryz.sizeOf129
  v127:=Tryz.zeroValue129
  t146:=Tryz.underlying125
  a146:=Tryz.isAgg125
  z146:=Tryz.sizeOf125
  v146:=Tryz.zeroValue125
  t148:=Tryz.underlying127
  a148:=Tryz.isAgg127
  z148:=Tryz.sizeOf127
  v148:=Tryz.zeroValue127
  t164:=Tryz.underlying139
  a164:=Tryz.isAgg139
  z164:=Tryz.sizeOf139
  v164:=Tryz.zeroValue139 }
theorem Tryz.Builder_Extra_105:Builder.Extra Tryz.prog Tryz.lays105_ren:={
  sizeBuilder:=by kernel_rfl
  liesBuilder:=by kernel_rfl
  t5:=Tryz.underlying5
  a5:=Tryz.isAgg5
  z5:=Tryz.sizeOf5
  v5:=Tryz.zeroValue5
  infoByte:=by kernel_rfl
  cellsByte:=by kernel_rfl
  sizeByte:=by kernel_rfl
  neB5:=by decide }
open Go.RowKit Go.Lib in
theorem Tryz.strings_Repeat (s:ByteArray) (c:Nat) (w:World) (hc:c≤9223372036854775807) (hlen:s.size * c≤140737488355328) :
    Calls Tryz.prog 84 #[.string s,.int .i64 c] w fun e w'=>e=.returned (.string ⟨(Lib.repeatL s.data.toList c).toArray⟩)∧Below w.heap.size w w':=Any.strings_Repeat Tryz.lays105 Tryz.Builder_Extra_105 s c w hc hlen
end Go.Proofs.YtabgkfjfmjdfiaaGreatDoor
