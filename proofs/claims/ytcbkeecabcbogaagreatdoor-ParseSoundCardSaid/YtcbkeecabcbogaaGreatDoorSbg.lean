/- DERIVED: THE SHELF's CONTRACTS AT THIS DUMP, IN PLAIN WORDS -/
import Derived.Shelf.Strings.Trim
import Derived.Shelf.Strings.SlTrimAscii
import Derived.Shelf.Small.Utf8
import Derived.Shelf.Small.Strs
import Derived.Shelf.Strconv.Itoa0
import Derived.Shelf.Strconv.Itoa1
import Derived.Shelf.LaysM
import Derived.Shelf.Strconv.Itoa2
import Derived.Shelf.Strconv.Itoa3
import Derived.Shelf.Strconv.Clone
import Derived.Shelf.Strconv.SyntaxError
import Derived.Shelf.LaysC
import Derived.Shelf.Strconv.ToError
import Derived.Shelf.Strconv.Lower
import Derived.Shelf.Strconv.RangeError
import Derived.Shelf.Strconv.ToErrorRange
import Derived.Ground.MpProg
import Derived.Shelf.Pu.ParseUintPublic10
import Derived.Shelf.Pu.ErrVarParseUint
import Derived.Shelf.Strings.Search1
import Derived.Shelf.Strings.Search2
import Derived.Shelf.Strings.Search3
import Derived.Shelf.Strings.Shaped
import Derived.Shelf.Strings.Prefix
import Derived.Shelf.Unicode.Decode
import Derived.Shelf.Strings.Runes
import Derived.Shelf.Strings.AsciiSet
import Derived.Shelf.Unicode.DecodeSlow
import Derived.Shelf.Unicode.DecodeAny
import Derived.Shelf.Slices.Turned
import Derived.Test.YtcbkeecabcbogaaGreatDoorProg
import Derived.WalkKit
import Derived.Test.YtcbkeecabcbogaaGreatDoorChecked
import Derived.Test.YtcbkeecabcbogaaGreatDoorSaj
import Derived.Test.YtcbkeecabcbogaaGreatDoorSaa
import Derived.Test.YtcbkeecabcbogaaGreatDoorSab
import Derived.Laws.RangeAny
set_option maxHeartbeats 1000000
set_option linter.unusedSimpArgs false
set_option linter.unusedVariables false
namespace Go.Proofs
open YtcbkeecabcbogaaGreatDoor (Dd Dk Dw Dh Ds Da Dx)
open Go.Shelf Go.RowKit Go.Lib
def Tryz.Qk9:Go.Shelf.Ren:=⟨fun|161=>59|231=>84|227=>85|233=>86|235=>87|228=>103|197=>83|151=>104|260=>102|152=>111|137=>61|119=>115|224=>116|225=>117|217=>89|266=>105|n=>n,fun|9=>9|4=>4|3=>3|5=>5|117=>91|116=>90|0=>0|124=>94|105=>86|21=>21|119=>105|46=>106|139=>109|138=>108|n=>n,fun|3=>2|4=>3|n=>n⟩
theorem Tryz.lays161:Go.Proofs.Lays.n161 Tryz.prog Tryz.Qk9:={
 mixed:=by kernel_rfl
 f119:=Tryz.func115.trans (congrArg some Dk)
 f137:=Tryz.func61.trans (congrArg some Dk)
 f151:=Tryz.func104.trans (congrArg some Dk)
 f152:=Tryz.func111.trans (congrArg some Dk)
 f161:=Tryz.func59.trans (congrArg some Dk)
 f197:=Tryz.func83.trans (congrArg some Dk)
 f217:=Tryz.func89.trans (congrArg some Dk)
 f224:=Tryz.func116.trans (congrArg some Dk)
 f225:=Tryz.func117.trans (congrArg some Dk)
 f227:=Tryz.func85.trans (congrArg some Dk)
 f228:=Tryz.func103.trans (congrArg some Dk)
 f231:=Tryz.func84.trans (congrArg some Dk)
 f233:=Tryz.func86.trans (congrArg some Dk)
 f235:=Tryz.func87.trans (congrArg some Dk)
 f260:=Tryz.func102.trans (congrArg some Dk)
 f266:=Tryz.func105.trans (congrArg some Dk)
 t0:=Tryz.underlying0
 a0:=Tryz.isAgg0
 z0:=Tryz.sizeOf0
 v0:=Tryz.zeroValue0
 t3:=Tryz.underlying3
 a3:=Tryz.isAgg3
 z3:=Tryz.sizeOf3
 v3:=Tryz.zeroValue3
 t4:=Tryz.underlying4
 a4:=Tryz.isAgg4
 z4:=Tryz.sizeOf4
 v4:=Tryz.zeroValue4
 t5:=Tryz.underlying5
 a5:=Tryz.isAgg5
 z5:=Tryz.sizeOf5
 v5:=Tryz.zeroValue5
 t9:=Tryz.underlying9
 a9:=Tryz.isAgg9
 z9:=Tryz.sizeOf9
 v9:=Tryz.zeroValue9
 t21:=Tryz.underlying21
 a21:=Tryz.isAgg21
 z21:=Tryz.sizeOf21
 v21:=Tryz.zeroValue21
 t46:=Tryz.underlying106
 a46:=Tryz.isAgg106
 z46:=Tryz.sizeOf106
 v46:=Tryz.zeroValue106
 t105:=Tryz.underlying86
 a105:=Tryz.isAgg86
 z105:=Tryz.sizeOf86
 v105:=Tryz.zeroValue86
 t116:=Tryz.underlying90
 a116:=Tryz.isAgg90
 z116:=Tryz.sizeOf90
 t117:=Tryz.underlying91
 a117:=Tryz.isAgg91
 z117:=Tryz.sizeOf91
 v117:=Tryz.zeroValue91
 t119:=Tryz.underlying105
 a119:=Tryz.isAgg105
 z119:=Tryz.sizeOf105
 t124:=Tryz.underlying94
 a124:=Tryz.isAgg94
 z124:=Tryz.sizeOf94
 v124:=Tryz.zeroValue94
 t138:=Tryz.underlying108
 a138:=Tryz.isAgg108
 z138:=Tryz.sizeOf108
 v138:=Tryz.zeroValue108
 t139:=Tryz.underlying109
 a139:=Tryz.isAgg109
 z139:=Tryz.sizeOf109
 v139:=Tryz.zeroValue109
 g3:=by kernel_rfl
 g4:=by kernel_rfl }
def Tryz.Qlc:Go.Shelf.Ren:=⟨fun|119=>115|n=>n,fun|21=>21|4=>4|n=>n,fun|n=>n⟩
theorem Tryz.lays119:Go.Proofs.Lays.n119 Tryz.prog Tryz.Qlc:={
 mixed:=by kernel_rfl
 f119:=Tryz.func115.trans (congrArg some Dk)
 t4:=Tryz.underlying4
 a4:=Tryz.isAgg4
 z4:=Tryz.sizeOf4
 v4:=Tryz.zeroValue4
 t21:=Tryz.underlying21
 a21:=Tryz.isAgg21
 z21:=Tryz.sizeOf21
 v21:=Tryz.zeroValue21 }
/-- utf8.ValidRune: "ValidRune reports whether r can be legally encoded as UTF-8. Code points that are out of range or a surrogate half are illegal.": IT RETURNS 'Lib.validRune r';the world is as it was. (LAID: no walk: one application.) -/
theorem Tryz.utf8_ValidRune (r:Int)(w:World):
  Calls Tryz.prog 115 #[.int .i32 r] w fun e w'=>e=.returned (.bool (Lib.validRune r))∧w'=w:=Any.utf8_ValidRune Tryz.lays119 r w
def Tryz.Qlb:Go.Shelf.Ren:=⟨fun|137=>61|217=>89|266=>105|n=>n,fun|9=>9|5=>5|3=>3|n=>n,fun|n=>n⟩
theorem Tryz.lays137:Go.Proofs.Lays.n137 Tryz.prog Tryz.Qlb:={
 mixed:=by kernel_rfl
 f137:=Tryz.func61.trans (congrArg some Dk)
 f217:=Tryz.func89.trans (congrArg some Dk)
 f266:=Tryz.func105.trans (congrArg some Dk)
 t3:=Tryz.underlying3
 a3:=Tryz.isAgg3
 z3:=Tryz.sizeOf3
 v3:=Tryz.zeroValue3
 t5:=Tryz.underlying5
 a5:=Tryz.isAgg5
 z5:=Tryz.sizeOf5
 v5:=Tryz.zeroValue5
 t9:=Tryz.underlying9
 a9:=Tryz.isAgg9
 z9:=Tryz.sizeOf9
 v9:=Tryz.zeroValue9 }
/-- strings.IndexByte: "IndexByte returns the index of the first instance of c in s, or -1 if c is not present in s.": IT RETURNS 'Lib.indexByte s c';the world is as it was. (LAID: no walk: one application.) -/
theorem Tryz.strings_IndexByte (s:ByteArray)(c:Int)(w:World):
  Calls Tryz.prog 61 #[.string s,.int .u8 c] w fun e w'=>e=.returned (.int .i64 (Lib.indexByte s.data.toList c.toNat.toUInt8))∧w'=w:=Any.strings_IndexByte Tryz.lays137 s c w
def Tryz.Qi4:Go.Shelf.Ren:=⟨fun|245=>114|279=>121|280=>122|281=>123|282=>124|316=>126|171=>128|205=>127|243=>130|246=>131|283=>132|284=>133|285=>134|286=>135|129=>137|317=>136|318=>138|319=>139|320=>140|337=>141|338=>142|n=>n,fun|9=>9|3=>3|75=>102|167=>114|4=>4|168=>116|210=>121|37=>100|0=>0|127=>127|145=>130|143=>128|2=>2|171=>132|53=>23|5=>5|173=>135|212=>138|51=>124|20=>20|213=>139|46=>106|232=>143|233=>144|80=>145|n=>n,fun|15=>5|16=>6|17=>7|18=>8|19=>9|n=>n⟩
theorem Tryz.laysC245:Go.Proofs.LaysC.n245 Tryz.prog Tryz.Qi4:={
 mixed:=by kernel_rfl
 f129:=Tryz.func137.trans (congrArg some Dk)
 f171:=Tryz.func128.trans (congrArg some Dk)
 f205:=Tryz.func127.trans (congrArg some Dk)
 f243:=Tryz.func130.trans (congrArg some Dk)
 f245:=Tryz.func114.trans (congrArg some Dk)
 f246:=Tryz.func131.trans (congrArg some Dk)
 f279:=Tryz.func121.trans (congrArg some Dk)
 f280:=Tryz.func122.trans (congrArg some Dk)
 f281:=Tryz.func123.trans (congrArg some Dk)
 f282:=Tryz.func124.trans (congrArg some Dk)
 f283:=Tryz.func132.trans (congrArg some Dk)
 f284:=Tryz.func133.trans (congrArg some Dk)
 f285:=Tryz.func134.trans (congrArg some Dk)
 f286:=Tryz.func135.trans (congrArg some Dk)
 f316:=Tryz.func126.trans (congrArg some Dk)
 f317:=Tryz.func136.trans (congrArg some Dk)
 f318:=Tryz.func138.trans (congrArg some Dk)
 f319:=Tryz.func139.trans (congrArg some Dk)
 f320:=Tryz.func140.trans (congrArg some Dk)
 f337:=Tryz.func141.trans (congrArg some Dk)
 f338:=Tryz.func142.trans (congrArg some Dk)
 t0:=Tryz.underlying0
 a0:=Tryz.isAgg0
 z0:=Tryz.sizeOf0
 v0:=Tryz.zeroValue0
 t2:=Tryz.underlying2
 a2:=Tryz.isAgg2
 z2:=Tryz.sizeOf2
 v2:=Tryz.zeroValue2
 t3:=Tryz.underlying3
 a3:=Tryz.isAgg3
 z3:=Tryz.sizeOf3
 v3:=Tryz.zeroValue3
 t4:=Tryz.underlying4
 a4:=Tryz.isAgg4
 z4:=Tryz.sizeOf4
 v4:=Tryz.zeroValue4
 t5:=Tryz.underlying5
 a5:=Tryz.isAgg5
 z5:=Tryz.sizeOf5
 v5:=Tryz.zeroValue5
 t9:=Tryz.underlying9
 a9:=Tryz.isAgg9
 z9:=Tryz.sizeOf9
 v9:=Tryz.zeroValue9
 t20:=Tryz.underlying20
 a20:=Tryz.isAgg20
 z20:=Tryz.sizeOf20
 v20:=Tryz.zeroValue20
 t37:=Tryz.underlying100
 a37:=Tryz.isAgg100
 z37:=Tryz.sizeOf100
 v37:=Tryz.zeroValue100
 t46:=Tryz.underlying106
 a46:=Tryz.isAgg106
 z46:=Tryz.sizeOf106
 v46:=Tryz.zeroValue106
 t51:=Tryz.underlying124
 a51:=Tryz.isAgg124
 z51:=Tryz.sizeOf124
 v51:=Tryz.zeroValue124
 t53:=Tryz.underlying23
 a53:=Tryz.isAgg23
 z53:=Tryz.sizeOf23
 v53:=Tryz.zeroValue23
 t75:=Tryz.underlying102
 a75:=Tryz.isAgg102
 z75:=Tryz.sizeOf102
 v75:=Tryz.zeroValue102
 t127:=Tryz.underlying127
 a127:=Tryz.isAgg127
 z127:=Tryz.sizeOf127
 v127:=Tryz.zeroValue127
 t143:=Tryz.underlying128
 a143:=Tryz.isAgg128
 z143:=Tryz.sizeOf128
 v143:=Tryz.zeroValue128
 t145:=Tryz.underlying130
 a145:=Tryz.isAgg130
 z145:=Tryz.sizeOf130
 v145:=Tryz.zeroValue130
 t167:=Tryz.underlying114
 a167:=Tryz.isAgg114
 z167:=Tryz.sizeOf114
 v167:=Tryz.zeroValue114
 t168:=Tryz.underlying116
 a168:=Tryz.isAgg116
 z168:=Tryz.sizeOf116
 v168:=Tryz.zeroValue116
 t171:=Tryz.underlying132
 a171:=Tryz.isAgg132
 z171:=Tryz.sizeOf132
 v171:=Tryz.zeroValue132
 t173:=Tryz.underlying135
 a173:=Tryz.isAgg135
 z173:=Tryz.sizeOf135
 v173:=Tryz.zeroValue135
 t210:=Tryz.underlying121
 a210:=Tryz.isAgg121
 z210:=Tryz.sizeOf121
 v210:=Tryz.zeroValue121
 t212:=Tryz.underlying138
 a212:=Tryz.isAgg138
 z212:=Tryz.sizeOf138
 v212:=Tryz.zeroValue138
 t213:=Tryz.underlying139
 a213:=Tryz.isAgg139
 z213:=Tryz.sizeOf139
 t232:=Tryz.underlying143
 a232:=Tryz.isAgg143
 z232:=Tryz.sizeOf143
 v232:=Tryz.zeroValue143
 t233:=Tryz.underlying144
 a233:=Tryz.isAgg144
 z233:=Tryz.sizeOf144
 v233:=Tryz.zeroValue144
 g15:=by kernel_rfl
 g16:=by kernel_rfl
 g17:=by kernel_rfl
 g18:=by kernel_rfl
 g19:=by kernel_rfl
 t80:=Tryz.underlying145
 a80:=Tryz.isAgg145
 z80:=Tryz.sizeOf145
 v80:=Tryz.zeroValue145
 i0:=by kernel_rfl
 i2:=by kernel_rfl
 i3:=by kernel_rfl
 i4:=by kernel_rfl
 i5:=by kernel_rfl
 i9:=by kernel_rfl
 i20:=by kernel_rfl
 i37:=by kernel_rfl
 i46:=by kernel_rfl
 i51:=by kernel_rfl
 i53:=by kernel_rfl
 i75:=by kernel_rfl
 i80:=by kernel_rfl
 i127:=by kernel_rfl
 i143:=by kernel_rfl
 i145:=by kernel_rfl
 i167:=by kernel_rfl
 i168:=by kernel_rfl
 i171:=by kernel_rfl
 i173:=by kernel_rfl
 i210:=by kernel_rfl
 i212:=by kernel_rfl
 i232:=by kernel_rfl
 i233:=by kernel_rfl
 m15:=by kernel_rfl
 m16:=by kernel_rfl
 m17:=by kernel_rfl
 m18:=by kernel_rfl
 m19:=by kernel_rfl
 c0:=by kernel_rfl
 c2:=by kernel_rfl
 c3:=by kernel_rfl
 c4:=by kernel_rfl
 c5:=by kernel_rfl
 c9:=by kernel_rfl
 c20:=by kernel_rfl
 c37:=by kernel_rfl
 c46:=by kernel_rfl
 c51:=by kernel_rfl
 c53:=by kernel_rfl
 c75:=by kernel_rfl
 c80:=by kernel_rfl
 c127:=by kernel_rfl
 c143:=by kernel_rfl
 c145:=by kernel_rfl
 c167:=by kernel_rfl
 c168:=by kernel_rfl
 c171:=by kernel_rfl
 c173:=by kernel_rfl
 c210:=by kernel_rfl
 c212:=by kernel_rfl
 c213:=by kernel_rfl
 c232:=by kernel_rfl
 c233:=by kernel_rfl }
theorem Tryz.strconv_toError_range (fn s:ByteArray)(base bits:Int)(ev:Value)(w:World)(hlim:s.size≤281474976710656)(hv:w.cell? ⟨6,0,none⟩=some ev)(hev:ev=.nilIface∨∃ te pe,ev=.iface te pe):
  Calls Tryz.prog 114 #[.string fn,.string s,.int .i64 base,.int .i64 bits,.iface 114 (.int .i64 1)] w fun e w'=>∃ N,e=.returned (.iface 116 (.pointer (some ⟨N,0,none⟩)))∧w.heap.size≤N∧w'.heap[N]? = some (.cells #[.string fn,.string s,ev] 121 (0,0))∧Below w.heap.size w w':=Any.strconv_toError_range Tryz.laysC245 fn s base bits ev w hlim hv hev
def Tryz.Qla:Go.Shelf.Ren:=⟨fun|144=>107|143=>112|219=>118|217=>89|225=>117|224=>116|267=>125|266=>105|314=>129|n=>n,fun|9=>9|4=>4|3=>3|5=>5|46=>106|146=>125|51=>124|n=>n,fun|1=>4|n=>n⟩
theorem Tryz.lays144:Go.Proofs.Lays.n144 Tryz.prog Tryz.Qla:={
 mixed:=by kernel_rfl
 f143:=Tryz.func112.trans (congrArg some Dk)
 f144:=Tryz.func107.trans (congrArg some Dk)
 f217:=Tryz.func89.trans (congrArg some Dk)
 f219:=Tryz.func118.trans (congrArg some Dk)
 f224:=Tryz.func116.trans (congrArg some Dk)
 f225:=Tryz.func117.trans (congrArg some Dk)
 f266:=Tryz.func105.trans (congrArg some Dk)
 f267:=Tryz.func125.trans (congrArg some Dk)
 f314:=Tryz.func129.trans (congrArg some Dk)
 t3:=Tryz.underlying3
 a3:=Tryz.isAgg3
 z3:=Tryz.sizeOf3
 v3:=Tryz.zeroValue3
 t4:=Tryz.underlying4
 a4:=Tryz.isAgg4
 z4:=Tryz.sizeOf4
 v4:=Tryz.zeroValue4
 t5:=Tryz.underlying5
 a5:=Tryz.isAgg5
 z5:=Tryz.sizeOf5
 v5:=Tryz.zeroValue5
 t9:=Tryz.underlying9
 a9:=Tryz.isAgg9
 z9:=Tryz.sizeOf9
 v9:=Tryz.zeroValue9
 t46:=Tryz.underlying106
 a46:=Tryz.isAgg106
 z46:=Tryz.sizeOf106
 v46:=Tryz.zeroValue106
 t51:=Tryz.underlying124
 a51:=Tryz.isAgg124
 z51:=Tryz.sizeOf124
 v51:=Tryz.zeroValue124
 t146:=Tryz.underlying125
 a146:=Tryz.isAgg125
 z146:=Tryz.sizeOf125
 v146:=Tryz.zeroValue125
 g1:=by kernel_rfl }
/-- strings.Contains: "Contains reports whether substr is within s.": AT A substr OF ONE BYTE c: IT RETURNS 'decide (0≤Lib.indexByte s c)';the world is as it was. (LAID: no walk: one application.) -/
theorem Tryz.strings_Contains_one (s:ByteArray)(c:UInt8)(w:World):
  Calls Tryz.prog 107 #[.string s,.string ⟨#[c]⟩] w fun e w'=>e=.returned (.bool (decide (0≤Lib.indexByte s.data.toList c)))∧w'=w:=Any.strings_Contains_one Tryz.lays144 s c w
/-- strings.Contains: "Contains reports whether substr is within s.": IT RETURNS 'Lib.contains s substr';the world is as it was. (LAID: no walk: one application.) -/
theorem Tryz.strings_Contains (s sub:ByteArray)(m:Int)(w:World)(hs:s.size<4294967281)(hm:w.cell? ⟨4,0,none⟩=some (.int .i64 m)):
  Calls Tryz.prog 107 #[.string s,.string sub] w fun e w'=>e=.returned (.bool (Lib.contains s.data.toList sub.data.toList))∧w'=w:=Any.strings_Contains Tryz.lays144 s sub m w hs hm
def Tryz.lays99_ren:Go.Shelf.Ren:=⟨fun|99=>60|206=>88|n=>n,fun|9=>9|4=>4|3=>3|n=>n,fun|n=>n⟩
theorem Tryz.lays99:Go.Proofs.Lays.n99 Tryz.prog Tryz.lays99_ren:={
 mixed:=by kernel_rfl
 f99:=Tryz.func60.trans (congrArg some Dk)
 f206:=Tryz.func88.trans (congrArg some Dk)
 t3:=Tryz.underlying3
 a3:=Tryz.isAgg3
 z3:=Tryz.sizeOf3
 v3:=Tryz.zeroValue3
 t4:=Tryz.underlying4
 a4:=Tryz.isAgg4
 z4:=Tryz.sizeOf4
 v4:=Tryz.zeroValue4
 t9:=Tryz.underlying9
 a9:=Tryz.isAgg9
 z9:=Tryz.sizeOf9
 v9:=Tryz.zeroValue9 }
/-- strings.HasPrefix: "HasPrefix reports whether the string s begins with prefix.": IT RETURNS 'Lib.hasPrefix s prefix';the world is as it was. (LAID: no walk: one application.) -/
theorem Tryz.strings_HasPrefix (s p:ByteArray)(w:World):
  Calls Tryz.prog 60 #[.string s,.string p] w fun e w'=>e=.returned (.bool (Lib.hasPrefix s.data.toList p.data.toList))∧w'=w:=Any.strings_HasPrefix Tryz.lays99 s p w
def Tryz.lays197_ren:Go.Shelf.Ren:=⟨fun|197=>83|260=>102|n=>n,fun|9=>9|21=>21|3=>3|4=>4|5=>5|105=>86|119=>105|0=>0|46=>106|139=>109|138=>108|n=>n,fun|3=>2|4=>3|n=>n⟩
theorem Tryz.lays197:Go.Proofs.Lays.n197 Tryz.prog Tryz.lays197_ren:={
 mixed:=by kernel_rfl
 f197:=Tryz.func83.trans (congrArg some Dk)
 f260:=Tryz.func102.trans (congrArg some Dk)
 t0:=Tryz.underlying0
 a0:=Tryz.isAgg0
 z0:=Tryz.sizeOf0
 v0:=Tryz.zeroValue0
 t3:=Tryz.underlying3
 a3:=Tryz.isAgg3
 z3:=Tryz.sizeOf3
 v3:=Tryz.zeroValue3
 t4:=Tryz.underlying4
 a4:=Tryz.isAgg4
 z4:=Tryz.sizeOf4
 v4:=Tryz.zeroValue4
 t5:=Tryz.underlying5
 a5:=Tryz.isAgg5
 z5:=Tryz.sizeOf5
 v5:=Tryz.zeroValue5
 t9:=Tryz.underlying9
 a9:=Tryz.isAgg9
 z9:=Tryz.sizeOf9
 v9:=Tryz.zeroValue9
 t21:=Tryz.underlying21
 a21:=Tryz.isAgg21
 z21:=Tryz.sizeOf21
 v21:=Tryz.zeroValue21
 t46:=Tryz.underlying106
 a46:=Tryz.isAgg106
 z46:=Tryz.sizeOf106
 v46:=Tryz.zeroValue106
 t105:=Tryz.underlying86
 a105:=Tryz.isAgg86
 z105:=Tryz.sizeOf86
 v105:=Tryz.zeroValue86
 t119:=Tryz.underlying105
 a119:=Tryz.isAgg105
 z119:=Tryz.sizeOf105
 t138:=Tryz.underlying108
 a138:=Tryz.isAgg108
 z138:=Tryz.sizeOf108
 v138:=Tryz.zeroValue108
 t139:=Tryz.underlying109
 a139:=Tryz.isAgg109
 z139:=Tryz.sizeOf109
 v139:=Tryz.zeroValue109
 g3:=by kernel_rfl
 g4:=by kernel_rfl }
def Tryz.lays151_ren:Go.Shelf.Ren:=⟨fun|151=>104|152=>111|137=>61|119=>115|224=>116|225=>117|217=>89|266=>105|n=>n,fun|9=>9|21=>21|4=>4|3=>3|5=>5|0=>0|46=>106|n=>n,fun|n=>n⟩
theorem Tryz.lays151:Go.Proofs.Lays.n151 Tryz.prog Tryz.lays151_ren:={
 mixed:=by kernel_rfl
 f119:=Tryz.func115.trans (congrArg some Dk)
 f137:=Tryz.func61.trans (congrArg some Dk)
 f151:=Tryz.func104.trans (congrArg some Dk)
 f152:=Tryz.func111.trans (congrArg some Dk)
 f217:=Tryz.func89.trans (congrArg some Dk)
 f224:=Tryz.func116.trans (congrArg some Dk)
 f225:=Tryz.func117.trans (congrArg some Dk)
 f266:=Tryz.func105.trans (congrArg some Dk)
 t0:=Tryz.underlying0
 a0:=Tryz.isAgg0
 z0:=Tryz.sizeOf0
 v0:=Tryz.zeroValue0
 t3:=Tryz.underlying3
 a3:=Tryz.isAgg3
 z3:=Tryz.sizeOf3
 v3:=Tryz.zeroValue3
 t4:=Tryz.underlying4
 a4:=Tryz.isAgg4
 z4:=Tryz.sizeOf4
 v4:=Tryz.zeroValue4
 t5:=Tryz.underlying5
 a5:=Tryz.isAgg5
 z5:=Tryz.sizeOf5
 v5:=Tryz.zeroValue5
 t9:=Tryz.underlying9
 a9:=Tryz.isAgg9
 z9:=Tryz.sizeOf9
 v9:=Tryz.zeroValue9
 t21:=Tryz.underlying21
 a21:=Tryz.isAgg21
 z21:=Tryz.sizeOf21
 v21:=Tryz.zeroValue21
 t46:=Tryz.underlying106
 a46:=Tryz.isAgg106
 z46:=Tryz.sizeOf106
 v46:=Tryz.zeroValue106 }
theorem Tryz.strings_ContainsRune_ascii (s:ByteArray)(r:Int)(w:World)(h0:0≤r)(h1:r<128):
  Calls Tryz.prog 104 #[.string s,.int .i32 r] w fun e w'=>e=.returned (.bool (decide (0≤Lib.indexByte s.data.toList r.toNat.toUInt8)))∧w'=w:=Any.strings_ContainsRune_ascii Tryz.lays151 s r w h0 h1
def Tryz.Qd8:Go.Shelf.Ren:=⟨fun|260=>102|n=>n,fun|9=>9|21=>21|3=>3|4=>4|5=>5|119=>105|0=>0|46=>106|139=>109|138=>108|n=>n,fun|3=>2|4=>3|n=>n⟩
theorem Tryz.lays260:Go.Proofs.Lays.n260 Tryz.prog Tryz.Qd8:={
 mixed:=by kernel_rfl
 f260:=Tryz.func102.trans (congrArg some Dk)
 t0:=Tryz.underlying0
 a0:=Tryz.isAgg0
 z0:=Tryz.sizeOf0
 v0:=Tryz.zeroValue0
 t3:=Tryz.underlying3
 a3:=Tryz.isAgg3
 z3:=Tryz.sizeOf3
 v3:=Tryz.zeroValue3
 t4:=Tryz.underlying4
 a4:=Tryz.isAgg4
 z4:=Tryz.sizeOf4
 v4:=Tryz.zeroValue4
 t5:=Tryz.underlying5
 a5:=Tryz.isAgg5
 z5:=Tryz.sizeOf5
 v5:=Tryz.zeroValue5
 t9:=Tryz.underlying9
 a9:=Tryz.isAgg9
 z9:=Tryz.sizeOf9
 v9:=Tryz.zeroValue9
 t21:=Tryz.underlying21
 a21:=Tryz.isAgg21
 z21:=Tryz.sizeOf21
 v21:=Tryz.zeroValue21
 t46:=Tryz.underlying106
 a46:=Tryz.isAgg106
 z46:=Tryz.sizeOf106
 v46:=Tryz.zeroValue106
 t119:=Tryz.underlying105
 a119:=Tryz.isAgg105
 z119:=Tryz.sizeOf105
 t138:=Tryz.underlying108
 a138:=Tryz.isAgg108
 z138:=Tryz.sizeOf108
 v138:=Tryz.zeroValue108
 t139:=Tryz.underlying109
 a139:=Tryz.isAgg109
 z139:=Tryz.sizeOf109
 v139:=Tryz.zeroValue109
 g3:=by kernel_rfl
 g4:=by kernel_rfl }
theorem Tryz.utf8_DecodeRuneInString (s:ByteArray)(w:World)(hT:Lib.Utf8Tabs 2 3 w):
  Calls Tryz.prog 83 #[.string s] w fun e w'=>e=.returned (.tuple #[.int .i32 (Lib.decodeGo s).1,.int .i64 (Lib.decodeGo s).2])∧Below w.heap.size w w':=Any.utf8_DecodeRuneInString Tryz.lays197 s w hT
def Tryz.lays110_ren:Go.Shelf.Ren:=⟨fun|110=>90|109=>106|n=>n,fun|31=>33|9=>9|4=>4|3=>3|0=>0|n=>n,fun|n=>n⟩
theorem Tryz.lays110:Go.Proofs.Lays.n110 Tryz.prog Tryz.lays110_ren:={
 mixed:=by kernel_rfl
 f109:=Tryz.func106.trans (congrArg some Dk)
 f110:=Tryz.func90.trans (congrArg some Dk)
 t0:=Tryz.underlying0
 a0:=Tryz.isAgg0
 z0:=Tryz.sizeOf0
 v0:=Tryz.zeroValue0
 t3:=Tryz.underlying3
 a3:=Tryz.isAgg3
 z3:=Tryz.sizeOf3
 v3:=Tryz.zeroValue3
 t4:=Tryz.underlying4
 a4:=Tryz.isAgg4
 z4:=Tryz.sizeOf4
 v4:=Tryz.zeroValue4
 t9:=Tryz.underlying9
 a9:=Tryz.isAgg9
 z9:=Tryz.sizeOf9
 v9:=Tryz.zeroValue9
 t31:=Tryz.underlying33
 a31:=Tryz.isAgg33
 z31:=Tryz.sizeOf33
 v31:=Tryz.zeroValue33 }
/-- slices.Contains at []string: "Contains reports whether v is present in s.": IT RETURNS 'Lib.containsS (the elements) v',which is true just where v is among them ('Lib.containsS_iff');the world is as it was. ITS CALLEE slices.Index IS MET BY ITS OWN CONTRACT OFF THE SHELF (lay that first): no loop is walked here. (LAID: no walk: one application.) -/
theorem Tryz.slices_Contains_string (b off n c:Nat)(zs:List ByteArray)(x:ByteArray)(w:World)(hz:n≤zs.length)(hbig:n≤9223372036854775807)(hc:∀ j,j<zs.length→w.cell? ⟨b,off+j,none⟩=some (.string (zs.getD j ByteArray.empty))):
  Calls Tryz.prog 90 #[.slice (some ⟨b,off,none⟩) n c,.string x] w fun e w'=>e=.returned (.bool (Lib.containsS (zs.take n) x))∧w'=w:=Any.slices_Contains_string Tryz.lays110 b off n c zs x w hz hbig hc
end Go.Proofs
namespace Go.Proofs.YtcbkeecabcbogaaGreatDoor
open Go.RowKit
theorem Yh {k:IntKind}{a b:Int}(h:a=b):Ending.returned (.int k a)=.returned (.int k b):=by rw[h]
theorem Vq {a b:Bool}(h:a=b):Ending.returned (.bool a)=.returned (.bool b):=by rw[h]
theorem Un {a b c d:Value}(h:a=c)(h2:b=d):Ending.returned (.tuple #[a,b])=.returned (.tuple #[c,d]):=by rw[h,h2]
theorem Uk {k:IntKind}{a b:Int}(h:a=b):Value.int k a=.int k b:=by rw[h]
theorem Y2 (r:Int)(w:World):Calls Tryz.prog 92 #[.int .i32 r] w fun e w'=>e=.returned (.bool (isLet r))∧w=w':=by
 go_enter Tryz.func92,Tryz.ntmps92
 go_wp2
 all_goals (go_ret;refine⟨Vq ?_,rfl⟩;first|(simp[isLet];done)|(rw[Bool.eq_iff_iff];simp[isLet];omega)|(simp_all [isLet];omega)|(rw[Bool.eq_iff_iff];simp_all [isLet];try omega))
theorem Yc (r:Int)(w:World):Calls Tryz.prog 94 #[.int .i32 r] w fun e w'=>e=.returned (.bool (Tv r))∧w=w':=by
 go_enter Tryz.func94,Tryz.ntmps94
 go_wp2
 all_goals (go_ret;refine⟨Vq ?_,rfl⟩;first|(simp[Tv];done)|(rw[Bool.eq_iff_iff];simp[Tv];omega)|(simp_all [Tv];omega)|(rw[Bool.eq_iff_iff];simp_all [Tv];try omega))
theorem Jf (r:Int)(w:World):Calls Tryz.prog 66 #[.int .i32 r] w fun e w'=>e=.returned (.bool (isLet r))∧w=w':=by
 go_enter Tryz.func66,Tryz.ntmps66
 go_wp2
 all_goals (go_ret;refine⟨Vq ?_,rfl⟩;first|(simp[isLet];done)|(rw[Bool.eq_iff_iff];simp[isLet];omega)|(simp_all [isLet];omega)|(rw[Bool.eq_iff_iff];simp_all [isLet];try omega))
theorem Yg (w:World)(s:ByteArray)(p:Nat):Below w.heap.size w (w.iter s p):=(Below.refl _ _).alloc (Nat.le_refl _) _
theorem drop_cons {l:List UInt8}{p:Nat}(h:p<l.length):∃ b m,l.drop p=b::m:=by
 cases hd:l.drop p with
 |nil=>simp at hd;omega
 |cons b m=>exact⟨b,m,rfl⟩
theorem Qdi {l:List UInt8}{p:Nat}(h:p<l.length)(hr:Nk (Zl (l.drop p)).1=false):Um (l.drop p)=0:=by
 obtain⟨b,m,hm⟩:=drop_cons h;rw[hm] at hr ⊢;exact Ej b m hr
theorem drop_end {l:List UInt8}{p:Nat}(h:¬ p<l.length):l.drop p=[]:=by simp;omega
theorem Qap {l:List UInt8}{p:Nat}(h:p<l.length):1≤(Zl (l.drop p)).2∧p+(Zl (l.drop p)).2≤l.length:=by
 obtain⟨b,m,hm⟩:=drop_cons h;have h1:=Ri b m;have h2:=Qaq b m;rw[←hm] at h1 h2;rw[List.length_drop] at h2;omega
theorem run_any (s:ByteArray)(w:World)(hs:s.size≤1073741824):Calls Tryz.prog 91 #[.string s] w fun e w'=>e=.returned (.int .i64 (Um (bl s)))∧Below w.heap.size w w':=by
 go_enter Tryz.func91,Tryz.ntmps91
 go_wp2
 go_loopw [3] (fun _ wr=>∃ pos:Nat,wr=w.iter s pos∧pos≤s.size∧Hid (Um (bl s)=pos+Um ((bl s).drop pos))) (fun _ wr=>s.size-wr.iterPos w.heap.size)
 case atStart=>exact⟨0,rfl,by omega,Dh Ds⟩
 case round=>
  obtain⟨pos,rfl,hp,HR⟩:=hrel;by_cases hlt:pos<s.size
  ·have hnx:∀ ty,(Instr.next (.pointer (some ⟨w.heap.size,0,none⟩)) true ty).run Tryz.prog (w.iter s pos)=_:=fun ty=>run_next_any w s pos ty hlt
   rw[Qji s pos hlt] at hnx;have hlt':pos<(bl s).length:=by rw[Xg];exact hlt
   have hst:=Qap hlt';rw[Xg] at hst;have hrs:=Dh (fun h=>Qkh (bl s) pos hlt' h);have hrn:=Dh (fun h=>Qdi hlt' h);clear hlt';generalize hd:Zl ((bl s).drop pos)=d at *;obtain⟨r,k⟩:=d;have HD:=Dh hd;clear hd;simp only[] at hst hnx;cases hL:isLet r
   ·cases hD:Tv r
    ·go_wp2_with (first|(go_at_call 92;refine(Y2 _ _).mono ?_;rintro e w' ⟨rfl,rfl⟩)|(go_at_call 94;refine(Yc _ _).mono ?_;rintro e w' ⟨rfl,rfl⟩))
     go_ret;exact⟨Yh (by rw[HR.out,hrn.out (by simp[Nk,hL,hD])];simp),Yg _ _ _⟩
    ·go_wp2_with (first|(go_at_call 92;refine(Y2 _ _).mono ?_;rintro e w' ⟨rfl,rfl⟩)|(go_at_call 94;refine(Yc _ _).mono ?_;rintro e w' ⟨rfl,rfl⟩))
     go_roundw
     case rel=>exact⟨pos+k,rfl,hst.2,Dh (by rw[HR.out,hrs.out (by simp[Nk,hL,hD])];omega)⟩
     case measure=>simp;omega
   ·go_wp2_with (first|(go_at_call 92;refine(Y2 _ _).mono ?_;rintro e w' ⟨rfl,rfl⟩)|(go_at_call 94;refine(Yc _ _).mono ?_;rintro e w' ⟨rfl,rfl⟩))
    go_roundw
    case rel=>exact⟨pos+k,rfl,hst.2,Dh (by rw[HR.out,hrs.out (by simp[Nk,hL])];omega)⟩
    case measure=>simp;omega
  ·have hnx:∀ ty,(Instr.next (.pointer (some ⟨w.heap.size,0,none⟩)) true ty).run Tryz.prog (w.iter s pos)=_:=fun ty=>run_next_end w s pos ty hlt
   have he:Um (bl s)=s.size:=by
    rw[HR.out,drop_end (by rw[Xg];exact hlt),Di];omega
   have HE:=Dh he;clear he;go_wp2
   go_ret;exact⟨Yh (by rw[HE.out]),Yg _ _ _⟩
def U8 (l:List UInt8):Bool:=isLet (Zl l).1&&Um l==l.length&&decide (1≤l.length)&&decide (l.length≤64)
theorem Qie (s:ByteArray)(p:Nat)(w:World)(hs:s.size≤1073741824)(hp0:p≤s.size):Calls Tryz.prog 38 #[.string s,.int .i64 p] w fun e w'=>e=.returned (.int .i64 ((p+Um ((bl s).drop p):Nat):Int))∧Below w.heap.size w w':=by
 have hx:=Lt s p;have hz:(s.extract p s.size).size=s.size-p:=by rw[←Xg,hx,List.length_drop,Xg]
 generalize ht:(s.extract p s.size)=t at *;have hts:p+t.size≤s.size:=by omega
 have HT:=Dh ht;have HX:=Dh hx;have HZ:=Dh hz;clear ht hx hz;go_enter Tryz.func38,Tryz.ntmps38
 have hsl:∀ W,(Instr.slice 9 (.string s) (some (.int .i64 (p:Int))) none none).run Tryz.prog W=.ok (.string t) W:=fun W=>by
  rw[←HT.out];go_simp
 go_wp2
 go_loopw [5] (fun _ wr=>∃ pos:Nat,wr=w.iter t pos∧pos≤t.size∧Hid (Um (bl t)=pos+Um ((bl t).drop pos))) (fun _ wr=>t.size-wr.iterPos w.heap.size)
 case atStart=>exact⟨0,rfl,by omega,Dh Ds⟩
 case round=>
  obtain⟨pos,rfl,hp,HR⟩:=hrel;by_cases hlt:pos<t.size
  ·have hnx:∀ ty,(Instr.next (.pointer (some ⟨w.heap.size,0,none⟩)) true ty).run Tryz.prog (w.iter t pos)=_:=fun ty=>run_next_any w t pos ty hlt
   rw[Qji t pos hlt] at hnx;have hlt':pos<(bl t).length:=by rw[Xg];exact hlt
   have hst:=Qap hlt';rw[Xg] at hst;have hrs:=Dh (fun h=>Qkh (bl t) pos hlt' h);have hrn:=Dh (fun h=>Qdi hlt' h);clear hlt';generalize hd:Zl ((bl t).drop pos)=d at *;obtain⟨r,k⟩:=d;have HD:=Dh hd;clear hd;simp only[] at hst hnx;by_cases hL:Nk r=true
   ·have hy:=Dh (hrs.out hL);simp only[Nk,Bool.or_eq_true] at hL;clear hrs hrn;cases hL1:isLet r
    ·rw[hL1] at hL;have hL2:48≤(r:Int)∧(r:Int)≤57:=by simpa [Tv] using hL
     clear hL;obtain⟨hL3,hL4⟩:=hL2;go_wp2_with (first|(go_at_call 66;refine(Jf _ _).mono ?_;rintro e w' ⟨rfl,rfl⟩))
     go_roundw
     case rel=>exact⟨pos+k,rfl,hst.2,Dh (by rw[HR.out,hy.out];omega)⟩
     case measure=>simp;omega
    ·clear hL;go_wp2_with (first|(go_at_call 66;refine(Jf _ _).mono ?_;rintro e w' ⟨rfl,rfl⟩))
     go_roundw
     case rel=>exact⟨pos+k,rfl,hst.2,Dh (by rw[HR.out,hy.out];omega)⟩
     case measure=>simp;omega
   ·have hL':Nk r=false:=by simpa using hL
    have hy:=Dh (hrn.out hL');clear hrs hrn hL;simp only[Nk,Bool.or_eq_false_iff] at hL';obtain⟨hL1,hL2⟩:=hL';have hL3:(r:Int)<48∨57<(r:Int):=by simp[Tv] at hL2;omega
    have hL4:(decide ((r:Int)<48)||decide (57<(r:Int)))=true:=by simpa using hL3
    clear hL2;rcases hL3 with hL3|hL3;all_goals
     clear hL4;go_wp2_with (first|(go_at_call 66;refine(Jf _ _).mono ?_;rintro e w' ⟨rfl,rfl⟩))
     go_ret;exact⟨Yh (by have h1:=HR.out;have h2:=hy.out;rw[←HX.out];omega),Yg _ _ _⟩
  ·have hnx:∀ ty,(Instr.next (.pointer (some ⟨w.heap.size,0,none⟩)) true ty).run Tryz.prog (w.iter t pos)=_:=fun ty=>run_next_end w t pos ty hlt
   have he:Um (bl t)=t.size:=by
    rw[HR.out,drop_end (by rw[Xg];exact hlt),Di];omega
   have HE:=Dh he;clear he;go_wp2
   go_ret;exact⟨Yh (by have h1:=HE.out;have h2:=HZ.out;rw[←HX.out];omega),Yg _ _ _⟩
theorem Qda {l:List UInt8}{p:Nat}(h:p<l.length)(hb:broken (l.drop p)=false):Zp (l.drop p)=(Zl (l.drop p)).2+Zp (l.drop (p+(Zl (l.drop p)).2)):=by
 obtain⟨b,m,hm⟩:=drop_cons h;rw[hm] at hb;rw[hm,D9 b m hb,←hm,List.drop_drop]
theorem Qc9 {l:List UInt8}{p:Nat}(h:p<l.length)(hb:broken (l.drop p)=true):Zp (l.drop p)=0:=by
 obtain⟨b,m,hm⟩:=drop_cons h;rw[hm] at hb ⊢;exact Qdb b m hb
theorem Qs9 {l:List UInt8}{p:Nat}(h:p<l.length)(hr:(Zl (l.drop p)).1=65533):broken (l.drop p)=decide ((l.drop p).take 3≠[239,191,189]):=by
 obtain⟨b,m,hm⟩:=drop_cons h;rw[hm] at hr ⊢;exact Qpo b m hr
theorem Qdm (s:ByteArray)(w:World)(hs:s.size≤1073741824):Calls Tryz.prog 23 #[.string s] w fun e w'=>e=.returned (.int .i64 (Zp (bl s)))∧Below w.heap.size w w':=by
 go_enter Tryz.func23,Tryz.ntmps23
 go_wp2
 go_loopw [3] (fun _ wr=>∃ pos:Nat,wr=w.iter s pos∧pos≤s.size∧Hid (Zp (bl s)=pos+Zp ((bl s).drop pos))) (fun _ wr=>s.size-wr.iterPos w.heap.size)
 case atStart=>exact⟨0,rfl,by omega,Dh Ds⟩
 case round=>
  obtain⟨pos,rfl,hp,HR⟩:=hrel;by_cases hlt:pos<s.size
  ·have hnx:∀ ty,(Instr.next (.pointer (some ⟨w.heap.size,0,none⟩)) true ty).run Tryz.prog (w.iter s pos)=_:=fun ty=>run_next_any w s pos ty hlt
   rw[Qji s pos hlt] at hnx;have hlt':pos<(bl s).length:=by rw[Xg];exact hlt
   have hst:=Qap hlt';rw[Xg] at hst;have hrs:=Dh (fun h=>Qda hlt' h);have hrn:=Dh (fun h=>Qc9 hlt' h);have hbr:=Dh (fun h=>Qs9 hlt' h);have hbk:Hid (broken ((bl s).drop pos)=((Zl ((bl s).drop pos)).1==65533&&decide ((Zl ((bl s).drop pos)).2<2))):=Dh rfl;have htk:Hid (((bl s).drop pos).take 3=bl (s.extract pos (pos+3))):=Dh (by rw[Gw];congr 1;omega);clear hlt';generalize hd:Zl ((bl s).drop pos)=d at *;obtain⟨r,k⟩:=d;have HD:=Dh hd;clear hd;simp only[] at hst hnx;by_cases hr:r=65533
   ·have hr1:(((r:Nat):Int)==65533)=true:=by simp[hr]
    by_cases h3:s.size<pos+3
    ·have hb:broken ((bl s).drop pos)=true:=by
      rw[hbr.out hr];simp only[ne_eq,decide_not,Bool.not_eq_true',decide_eq_false_iff_not];intro he
      have:=congrArg List.length he;simp[Xg] at this;omega
     have hy:=Dh (hrn.out hb);have h3':(s.size:Int)<(pos:Int)+3:=by omega
     clear hrs hrn hbr hb htk hr hbk;go_wp2
     go_ret;exact⟨Yh (by have h1:=HR.out;have h2:=hy.out;omega),Yg _ _ _⟩
    ·have h3':¬ ((s.size:Int)<(pos:Int)+3):=by omega
     have hn:((pos:Int)+3).toNat=pos+3:=by omega
     have hbb:=hbr.out hr;cases hb:broken ((bl s).drop pos)
     ·have hq:((s.extract pos (pos+3)).toList == [239,191,189])=true:=by
       rw[Ug,←htk.out,beq_iff_eq];rw[hb] at hbb;simpa using hbb.symm
      have hy:=Dh (hrs.out hb);clear hrs hrn hbr hb htk hr hbk hbb;go_wp2
      go_roundw
      case rel=>exact⟨pos+k,rfl,hst.2,Dh (by rw[HR.out,hy.out];simp only[];omega)⟩
      case measure=>simp;omega
     ·have hq:((s.extract pos (pos+3)).toList == [239,191,189])=false:=by
       rw[Ug,←htk.out,beq_eq_false_iff_ne];rw[hb] at hbb;simpa using hbb.symm
      have hy:=Dh (hrn.out hb);clear hrs hrn hbr hb htk hr hbk hbb;go_wp2
      go_ret;exact⟨Yh (by have h1:=HR.out;have h2:=hy.out;omega),Yg _ _ _⟩
   ·have hr1:((r:Int)==65533)=false:=by simp;omega
    have hb:broken ((bl s).drop pos)=false:=by rw[hbk.out];simp[hr]
    have hy:=Dh (hrs.out hb);clear hrs hrn hbr hb htk hr hbk;go_wp2
    go_roundw
    case rel=>exact⟨pos+k,rfl,hst.2,Dh (by rw[HR.out,hy.out];simp only[];omega)⟩
    case measure=>simp;omega
  ·have hnx:∀ ty,(Instr.next (.pointer (some ⟨w.heap.size,0,none⟩)) true ty).run Tryz.prog (w.iter s pos)=_:=fun ty=>run_next_end w s pos ty hlt
   have he:Zp (bl s)=s.size:=by
    rw[HR.out,drop_end (by rw[Xg];exact hlt),Gs];omega
   have HE:=Dh he;clear he;go_wp2
   go_ret;exact⟨Yh (by rw[HE.out]),Yg _ _ _⟩
theorem name_no0 {l:List UInt8}(h:0<l.length)(hL:isLet (Zl (l.drop 0)).1=false):U8 l=false:=by
 simp at hL;simp[U8,hL]
theorem name_no {l:List UInt8}{p:Nat}(h:p<l.length)(hr:Um l=p+Um (l.drop p))(hs:Nk (Zl (l.drop p)).1=false):U8 l=false:=by
 rw[Qdi h hs] at hr;have:(Um l==l.length)=false:=by simp;omega
 simp[U8,this]
theorem name_end {l:List UInt8}{p:Nat}(h:¬ p<l.length)(hp:p≤l.length)(hr:Um l=p+Um (l.drop p))(hn:p=0∨isLet (Zl l).1=true):U8 l=(decide (1≤l.length)&&decide (l.length≤64)):=by
 rw[drop_end h,Di] at hr;have h1:(Um l==l.length)=true:=by simp;omega
 by_cases h0:l.length=0
 ·simp[U8,h0]
 ·have hL:isLet (Zl l).1=true:=by rcases hn with hn|hn;omega;exact hn
  simp[U8,h1,hL]
theorem Qn6 (s:ByteArray)(w:World)(hs:s.size≤1073741824):Calls Tryz.prog 101 #[.string s] w fun e w'=>e=.returned (.bool (U8 (bl s)))∧Below w.heap.size w w':=by
 go_enter Tryz.func101,Tryz.ntmps101
 go_wp2
 go_loopw [3] (fun _ wr=>∃ pos:Nat,wr=w.iter s pos∧pos≤s.size∧Hid (Um (bl s)=pos+Um ((bl s).drop pos))∧Hid (pos=0∨isLet (Zl (bl s)).1=true)) (fun _ wr=>s.size-wr.iterPos w.heap.size)
 case atStart=>exact⟨0,rfl,by omega,Dh Ds,Dh (.inl rfl)⟩
 case round=>
  obtain⟨pos,rfl,hp,HR,HN⟩:=hrel;by_cases hlt:pos<s.size
  ·have hnx:∀ ty,(Instr.next (.pointer (some ⟨w.heap.size,0,none⟩)) true ty).run Tryz.prog (w.iter s pos)=_:=fun ty=>run_next_any w s pos ty hlt
   rw[Qji s pos hlt] at hnx;have hlt':pos<(bl s).length:=by rw[Xg];exact hlt
   have hst:=Qap hlt';rw[Xg] at hst;have hrs:=Dh (fun h=>Qkh (bl s) pos hlt' h);have hno:=Dh (fun h=>name_no hlt' HR.out h);have hno0:Hid (pos=0→isLet (Zl ((bl s).drop pos)).1=false→U8 (bl s)=false):=Dh (fun h0 h=>by subst h0;exact name_no0 Dw h)
   have hfst:Hid (isLet (Zl ((bl s).drop pos)).1=true→(isLet (Zl (bl s)).1=true)):=Dh (fun h=>by
    rcases HN.out with h0|h0
    ·subst h0;simpa using h
    ·exact h0)
   clear hlt';generalize hd:Zl ((bl s).drop pos)=d at *;obtain⟨r,k⟩:=d;have HD:=Dh hd;clear hd;simp only[] at hst hnx;cases hL:isLet r
   ·by_cases h0:pos=0
    ·have hy:=Dh (hno0.out h0 hL);have h0':¬ (0:Int)<(pos:Int):=by omega
     clear hno0 hfst hno hrs HN h0;go_wp2_with (first|(go_at_call 66;refine(Jf _ _).mono ?_;rintro e w' ⟨rfl,rfl⟩))
     go_ret;exact⟨Vq (by rw[hy.out]),Yg _ _ _⟩
    ·have h0':(0:Int)<(pos:Int):=by omega
     by_cases hD:Tv r=true
     ·have hy:=Dh (hrs.out (by simp[Nk,hD]));obtain⟨hL3,hL4⟩:48≤(r:Int)∧(r:Int)≤57:=by simpa [Tv] using hD
      have hn:Hid (isLet (Zl (bl s)).1=true):=Dh (by rcases HN.out with h|h;exact absurd h h0;exact h);clear hno0 hfst hno hrs HN h0 hD;go_wp2_with (first|(go_at_call 66;refine(Jf _ _).mono ?_;rintro e w' ⟨rfl,rfl⟩))
      go_roundw
      case rel=>exact⟨pos+k,rfl,hst.2,Dh (by rw[HR.out,hy.out];omega),Dh (.inr hn.out)⟩
      case measure=>simp;omega
     ·have hD':Tv r=false:=by simpa using hD
      have hy:=Dh (hno.out (by simp[Nk,hD',hL]));have hL3:(r:Int)<48∨57<(r:Int):=by simp[Tv] at hD';omega
      clear hno0 hfst hno hrs HN h0 hD hD';rcases hL3 with hL3|hL3;all_goals
       go_wp2_with (first|(go_at_call 66;refine(Jf _ _).mono ?_;rintro e w' ⟨rfl,rfl⟩))
       go_ret;exact⟨Vq (by rw[hy.out]),Yg _ _ _⟩
   ·have hy:=Dh (hrs.out (by simp[Nk,hL]));have hn:=Dh (hfst.out hL);clear hno0 hfst hno hrs HN;go_wp2_with (first|(go_at_call 66;refine(Jf _ _).mono ?_;rintro e w' ⟨rfl,rfl⟩))
    go_roundw
    case rel=>exact⟨pos+k,rfl,hst.2,Dh (by rw[HR.out,hy.out];omega),Dh (.inr hn.out)⟩
    case measure=>simp;omega
  ·have hnx:∀ ty,(Instr.next (.pointer (some ⟨w.heap.size,0,none⟩)) true ty).run Tryz.prog (w.iter s pos)=_:=fun ty=>run_next_end w s pos ty hlt
   have he:=name_end (l:=bl s) (p:=pos) (by rw[Xg];exact hlt) (by rw[Xg];exact hp) HR.out HN.out;rw[Xg] at he;have HE:=Dh he;clear he HN HR;by_cases h1:1≤s.size <;> by_cases h2:s.size≤64
   all_goals
    have h1':(decide (1≤(s.size:Int)))=decide (1≤s.size):=by rw[decide_eq_decide];omega
    go_wp2
    go_ret;exact⟨Vq (by rw[HE.out];simp[h1,h2];try omega),Yg _ _ _⟩
end Go.Proofs.YtcbkeecabcbogaaGreatDoor
