/- DERIVED: THE SHELF's CONTRACTS AT THIS DUMP, IN PLAIN WORDS -/
import Derived.Shelf.Strings.Trim
import Derived.Shelf.Strings.SlTrimAscii
import Derived.Shelf.Small.Utf8
import Derived.Shelf.Small.Strs
import Derived.Shelf.Strconv.Itoa0
import Derived.Shelf.Strconv.Itoa1
import Derived.Shelf.LaysM
import Derived.Shelf.Strconv.Itoa2
import Derived.Shelf.Strconv.Itoa3
import Derived.Shelf.Strconv.Clone
import Derived.Shelf.Strconv.SyntaxError
import Derived.Shelf.LaysC
import Derived.Shelf.Strconv.ToError
import Derived.Shelf.Strconv.Lower
import Derived.Shelf.Strconv.RangeError
import Derived.Shelf.Strconv.ToErrorRange
import Derived.Ground.MpProg
import Derived.Shelf.Pu.ParseUintPublic10
import Derived.Shelf.Pu.ErrVarParseUint
import Derived.Shelf.Strings.Search1
import Derived.Shelf.Strings.Search2
import Derived.Shelf.Strings.Search3
import Derived.Shelf.Strings.Shaped
import Derived.Shelf.Strings.Prefix
import Derived.Shelf.Unicode.Decode
import Derived.Shelf.Strings.Runes
import Derived.Shelf.Strings.AsciiSet
import Derived.Shelf.Unicode.DecodeSlow
import Derived.Shelf.Unicode.DecodeAny
import Derived.Shelf.Slices.Turned
import Derived.Test.YtcbkeecabcbogaaGreatDoorProg
import Derived.WalkKit
import Derived.Test.YtcbkeecabcbogaaGreatDoorChecked
import Derived.Test.YtcbkeecabcbogaaGreatDoorHaj
import Derived.Test.YtcbkeecabcbogaaGreatDoorHaa
import Derived.Test.YtcbkeecabcbogaaGreatDoorHab
import Derived.Laws.RangeAny
import Derived.Test.YtcbkeecabcbogaaGreatDoorHbd
import Derived.Lib.ValidU
set_option maxHeartbeats 2000000
set_option linter.unusedSimpArgs false
set_option linter.unusedVariables false
namespace Go.Proofs
open YtcbkeecabcbogaaGreatDoor (Dd Dk Dw Dh Ds Da Dx)
open Go.Shelf Go.RowKit Go.Lib
def Tryz.Qiq:Go.Shelf.Ren:=⟨fun|161=>59|231=>84|227=>85|233=>86|235=>87|228=>103|197=>83|151=>104|260=>102|152=>111|137=>61|119=>115|224=>116|225=>117|217=>89|266=>105|n=>n,fun|9=>9|4=>4|3=>3|5=>5|117=>91|116=>90|0=>0|124=>94|105=>86|21=>21|119=>105|46=>106|139=>109|138=>108|n=>n,fun|3=>2|4=>3|n=>n⟩
theorem Tryz.lays161:Go.Proofs.Lays.n161 Tryz.prog Tryz.Qiq:={
 mixed:=by kernel_rfl
 f119:=Tryz.func115.trans (congrArg some Dk)
 f137:=Tryz.func61.trans (congrArg some Dk)
 f151:=Tryz.func104.trans (congrArg some Dk)
 f152:=Tryz.func111.trans (congrArg some Dk)
 f161:=Tryz.func59.trans (congrArg some Dk)
 f197:=Tryz.func83.trans (congrArg some Dk)
 f217:=Tryz.func89.trans (congrArg some Dk)
 f224:=Tryz.func116.trans (congrArg some Dk)
 f225:=Tryz.func117.trans (congrArg some Dk)
 f227:=Tryz.func85.trans (congrArg some Dk)
 f228:=Tryz.func103.trans (congrArg some Dk)
 f231:=Tryz.func84.trans (congrArg some Dk)
 f233:=Tryz.func86.trans (congrArg some Dk)
 f235:=Tryz.func87.trans (congrArg some Dk)
 f260:=Tryz.func102.trans (congrArg some Dk)
 f266:=Tryz.func105.trans (congrArg some Dk)
 t0:=Tryz.underlying0
 a0:=Tryz.isAgg0
 z0:=Tryz.sizeOf0
 v0:=Tryz.zeroValue0
 t3:=Tryz.underlying3
 a3:=Tryz.isAgg3
 z3:=Tryz.sizeOf3
 v3:=Tryz.zeroValue3
 t4:=Tryz.underlying4
 a4:=Tryz.isAgg4
 z4:=Tryz.sizeOf4
 v4:=Tryz.zeroValue4
 t5:=Tryz.underlying5
 a5:=Tryz.isAgg5
 z5:=Tryz.sizeOf5
 v5:=Tryz.zeroValue5
 t9:=Tryz.underlying9
 a9:=Tryz.isAgg9
 z9:=Tryz.sizeOf9
 v9:=Tryz.zeroValue9
 t21:=Tryz.underlying21
 a21:=Tryz.isAgg21
 z21:=Tryz.sizeOf21
 v21:=Tryz.zeroValue21
 t46:=Tryz.underlying106
 a46:=Tryz.isAgg106
 z46:=Tryz.sizeOf106
 v46:=Tryz.zeroValue106
 t105:=Tryz.underlying86
 a105:=Tryz.isAgg86
 z105:=Tryz.sizeOf86
 v105:=Tryz.zeroValue86
 t116:=Tryz.underlying90
 a116:=Tryz.isAgg90
 z116:=Tryz.sizeOf90
 t117:=Tryz.underlying91
 a117:=Tryz.isAgg91
 z117:=Tryz.sizeOf91
 v117:=Tryz.zeroValue91
 t119:=Tryz.underlying105
 a119:=Tryz.isAgg105
 z119:=Tryz.sizeOf105
 t124:=Tryz.underlying94
 a124:=Tryz.isAgg94
 z124:=Tryz.sizeOf94
 v124:=Tryz.zeroValue94
 t138:=Tryz.underlying108
 a138:=Tryz.isAgg108
 z138:=Tryz.sizeOf108
 v138:=Tryz.zeroValue108
 t139:=Tryz.underlying109
 a139:=Tryz.isAgg109
 z139:=Tryz.sizeOf109
 v139:=Tryz.zeroValue109
 g3:=by kernel_rfl
 g4:=by kernel_rfl }
def Tryz.Qit:Go.Shelf.Ren:=⟨fun|119=>115|n=>n,fun|21=>21|4=>4|n=>n,fun|n=>n⟩
theorem Tryz.lays119:Go.Proofs.Lays.n119 Tryz.prog Tryz.Qit:={
 mixed:=by kernel_rfl
 f119:=Tryz.func115.trans (congrArg some Dk)
 t4:=Tryz.underlying4
 a4:=Tryz.isAgg4
 z4:=Tryz.sizeOf4
 v4:=Tryz.zeroValue4
 t21:=Tryz.underlying21
 a21:=Tryz.isAgg21
 z21:=Tryz.sizeOf21
 v21:=Tryz.zeroValue21 }
/-- utf8.ValidRune: "ValidRune reports whether r can be legally encoded as UTF-8. Code points that are out of range or a surrogate half are illegal.": IT RETURNS 'Lib.validRune r';the world is as it was. (LAID: no walk: one application.) -/
theorem Tryz.utf8_ValidRune (r:Int)(w:World):
  Calls Tryz.prog 115 #[.int .i32 r] w fun e w'=>e=.returned (.bool (Lib.validRune r))∧w'=w:=Any.utf8_ValidRune Tryz.lays119 r w
def Tryz.Qis:Go.Shelf.Ren:=⟨fun|137=>61|217=>89|266=>105|n=>n,fun|9=>9|5=>5|3=>3|n=>n,fun|n=>n⟩
theorem Tryz.lays137:Go.Proofs.Lays.n137 Tryz.prog Tryz.Qis:={
 mixed:=by kernel_rfl
 f137:=Tryz.func61.trans (congrArg some Dk)
 f217:=Tryz.func89.trans (congrArg some Dk)
 f266:=Tryz.func105.trans (congrArg some Dk)
 t3:=Tryz.underlying3
 a3:=Tryz.isAgg3
 z3:=Tryz.sizeOf3
 v3:=Tryz.zeroValue3
 t5:=Tryz.underlying5
 a5:=Tryz.isAgg5
 z5:=Tryz.sizeOf5
 v5:=Tryz.zeroValue5
 t9:=Tryz.underlying9
 a9:=Tryz.isAgg9
 z9:=Tryz.sizeOf9
 v9:=Tryz.zeroValue9 }
/-- strings.IndexByte: "IndexByte returns the index of the first instance of c in s, or -1 if c is not present in s.": IT RETURNS 'Lib.indexByte s c';the world is as it was. (LAID: no walk: one application.) -/
theorem Tryz.strings_IndexByte (s:ByteArray)(c:Int)(w:World):
  Calls Tryz.prog 61 #[.string s,.int .u8 c] w fun e w'=>e=.returned (.int .i64 (Lib.indexByte s.data.toList c.toNat.toUInt8))∧w'=w:=Any.strings_IndexByte Tryz.lays137 s c w
def Tryz.Qgt:Go.Shelf.Ren:=⟨fun|245=>114|279=>121|280=>122|281=>123|282=>124|316=>126|171=>128|205=>127|243=>130|246=>131|283=>132|284=>133|285=>134|286=>135|129=>137|317=>136|318=>138|319=>139|320=>140|337=>141|338=>142|n=>n,fun|9=>9|3=>3|75=>102|167=>114|4=>4|168=>116|210=>121|37=>100|0=>0|127=>127|145=>130|143=>128|2=>2|171=>132|53=>23|5=>5|173=>135|212=>138|51=>124|20=>20|213=>139|46=>106|232=>143|233=>144|80=>145|n=>n,fun|15=>5|16=>6|17=>7|18=>8|19=>9|n=>n⟩
theorem Tryz.laysC245:Go.Proofs.LaysC.n245 Tryz.prog Tryz.Qgt:={
 mixed:=by kernel_rfl
 f129:=Tryz.func137.trans (congrArg some Dk)
 f171:=Tryz.func128.trans (congrArg some Dk)
 f205:=Tryz.func127.trans (congrArg some Dk)
 f243:=Tryz.func130.trans (congrArg some Dk)
 f245:=Tryz.func114.trans (congrArg some Dk)
 f246:=Tryz.func131.trans (congrArg some Dk)
 f279:=Tryz.func121.trans (congrArg some Dk)
 f280:=Tryz.func122.trans (congrArg some Dk)
 f281:=Tryz.func123.trans (congrArg some Dk)
 f282:=Tryz.func124.trans (congrArg some Dk)
 f283:=Tryz.func132.trans (congrArg some Dk)
 f284:=Tryz.func133.trans (congrArg some Dk)
 f285:=Tryz.func134.trans (congrArg some Dk)
 f286:=Tryz.func135.trans (congrArg some Dk)
 f316:=Tryz.func126.trans (congrArg some Dk)
 f317:=Tryz.func136.trans (congrArg some Dk)
 f318:=Tryz.func138.trans (congrArg some Dk)
 f319:=Tryz.func139.trans (congrArg some Dk)
 f320:=Tryz.func140.trans (congrArg some Dk)
 f337:=Tryz.func141.trans (congrArg some Dk)
 f338:=Tryz.func142.trans (congrArg some Dk)
 t0:=Tryz.underlying0
 a0:=Tryz.isAgg0
 z0:=Tryz.sizeOf0
 v0:=Tryz.zeroValue0
 t2:=Tryz.underlying2
 a2:=Tryz.isAgg2
 z2:=Tryz.sizeOf2
 v2:=Tryz.zeroValue2
 t3:=Tryz.underlying3
 a3:=Tryz.isAgg3
 z3:=Tryz.sizeOf3
 v3:=Tryz.zeroValue3
 t4:=Tryz.underlying4
 a4:=Tryz.isAgg4
 z4:=Tryz.sizeOf4
 v4:=Tryz.zeroValue4
 t5:=Tryz.underlying5
 a5:=Tryz.isAgg5
 z5:=Tryz.sizeOf5
 v5:=Tryz.zeroValue5
 t9:=Tryz.underlying9
 a9:=Tryz.isAgg9
 z9:=Tryz.sizeOf9
 v9:=Tryz.zeroValue9
 t20:=Tryz.underlying20
 a20:=Tryz.isAgg20
 z20:=Tryz.sizeOf20
 v20:=Tryz.zeroValue20
 t37:=Tryz.underlying100
 a37:=Tryz.isAgg100
 z37:=Tryz.sizeOf100
 v37:=Tryz.zeroValue100
 t46:=Tryz.underlying106
 a46:=Tryz.isAgg106
 z46:=Tryz.sizeOf106
 v46:=Tryz.zeroValue106
 t51:=Tryz.underlying124
 a51:=Tryz.isAgg124
 z51:=Tryz.sizeOf124
 v51:=Tryz.zeroValue124
 t53:=Tryz.underlying23
 a53:=Tryz.isAgg23
 z53:=Tryz.sizeOf23
 v53:=Tryz.zeroValue23
 t75:=Tryz.underlying102
 a75:=Tryz.isAgg102
 z75:=Tryz.sizeOf102
 v75:=Tryz.zeroValue102
 t127:=Tryz.underlying127
 a127:=Tryz.isAgg127
 z127:=Tryz.sizeOf127
 v127:=Tryz.zeroValue127
 t143:=Tryz.underlying128
 a143:=Tryz.isAgg128
 z143:=Tryz.sizeOf128
 v143:=Tryz.zeroValue128
 t145:=Tryz.underlying130
 a145:=Tryz.isAgg130
 z145:=Tryz.sizeOf130
 v145:=Tryz.zeroValue130
 t167:=Tryz.underlying114
 a167:=Tryz.isAgg114
 z167:=Tryz.sizeOf114
 v167:=Tryz.zeroValue114
 t168:=Tryz.underlying116
 a168:=Tryz.isAgg116
 z168:=Tryz.sizeOf116
 v168:=Tryz.zeroValue116
 t171:=Tryz.underlying132
 a171:=Tryz.isAgg132
 z171:=Tryz.sizeOf132
 v171:=Tryz.zeroValue132
 t173:=Tryz.underlying135
 a173:=Tryz.isAgg135
 z173:=Tryz.sizeOf135
 v173:=Tryz.zeroValue135
 t210:=Tryz.underlying121
 a210:=Tryz.isAgg121
 z210:=Tryz.sizeOf121
 v210:=Tryz.zeroValue121
 t212:=Tryz.underlying138
 a212:=Tryz.isAgg138
 z212:=Tryz.sizeOf138
 v212:=Tryz.zeroValue138
 t213:=Tryz.underlying139
 a213:=Tryz.isAgg139
 z213:=Tryz.sizeOf139
 t232:=Tryz.underlying143
 a232:=Tryz.isAgg143
 z232:=Tryz.sizeOf143
 v232:=Tryz.zeroValue143
 t233:=Tryz.underlying144
 a233:=Tryz.isAgg144
 z233:=Tryz.sizeOf144
 v233:=Tryz.zeroValue144
 g15:=by kernel_rfl
 g16:=by kernel_rfl
 g17:=by kernel_rfl
 g18:=by kernel_rfl
 g19:=by kernel_rfl
 t80:=Tryz.underlying145
 a80:=Tryz.isAgg145
 z80:=Tryz.sizeOf145
 v80:=Tryz.zeroValue145
 i0:=by kernel_rfl
 i2:=by kernel_rfl
 i3:=by kernel_rfl
 i4:=by kernel_rfl
 i5:=by kernel_rfl
 i9:=by kernel_rfl
 i20:=by kernel_rfl
 i37:=by kernel_rfl
 i46:=by kernel_rfl
 i51:=by kernel_rfl
 i53:=by kernel_rfl
 i75:=by kernel_rfl
 i80:=by kernel_rfl
 i127:=by kernel_rfl
 i143:=by kernel_rfl
 i145:=by kernel_rfl
 i167:=by kernel_rfl
 i168:=by kernel_rfl
 i171:=by kernel_rfl
 i173:=by kernel_rfl
 i210:=by kernel_rfl
 i212:=by kernel_rfl
 i232:=by kernel_rfl
 i233:=by kernel_rfl
 m15:=by kernel_rfl
 m16:=by kernel_rfl
 m17:=by kernel_rfl
 m18:=by kernel_rfl
 m19:=by kernel_rfl
 c0:=by kernel_rfl
 c2:=by kernel_rfl
 c3:=by kernel_rfl
 c4:=by kernel_rfl
 c5:=by kernel_rfl
 c9:=by kernel_rfl
 c20:=by kernel_rfl
 c37:=by kernel_rfl
 c46:=by kernel_rfl
 c51:=by kernel_rfl
 c53:=by kernel_rfl
 c75:=by kernel_rfl
 c80:=by kernel_rfl
 c127:=by kernel_rfl
 c143:=by kernel_rfl
 c145:=by kernel_rfl
 c167:=by kernel_rfl
 c168:=by kernel_rfl
 c171:=by kernel_rfl
 c173:=by kernel_rfl
 c210:=by kernel_rfl
 c212:=by kernel_rfl
 c213:=by kernel_rfl
 c232:=by kernel_rfl
 c233:=by kernel_rfl }
theorem Tryz.strconv_toError_range (fn s:ByteArray)(base bits:Int)(ev:Value)(w:World)(hlim:s.size≤281474976710656)(hv:w.cell? ⟨6,0,none⟩=some ev)(hev:ev=.nilIface∨∃ te pe,ev=.iface te pe):
  Calls Tryz.prog 114 #[.string fn,.string s,.int .i64 base,.int .i64 bits,.iface 114 (.int .i64 1)] w fun e w'=>∃ N,e=.returned (.iface 116 (.pointer (some ⟨N,0,none⟩)))∧w.heap.size≤N∧w'.heap[N]? = some (.cells #[.string fn,.string s,ev] 121 (0,0))∧Below w.heap.size w w':=Any.strconv_toError_range Tryz.laysC245 fn s base bits ev w hlim hv hev
def Tryz.Qir:Go.Shelf.Ren:=⟨fun|144=>107|143=>112|219=>118|217=>89|225=>117|224=>116|267=>125|266=>105|314=>129|n=>n,fun|9=>9|4=>4|3=>3|5=>5|46=>106|146=>125|51=>124|n=>n,fun|1=>4|n=>n⟩
theorem Tryz.lays144:Go.Proofs.Lays.n144 Tryz.prog Tryz.Qir:={
 mixed:=by kernel_rfl
 f143:=Tryz.func112.trans (congrArg some Dk)
 f144:=Tryz.func107.trans (congrArg some Dk)
 f217:=Tryz.func89.trans (congrArg some Dk)
 f219:=Tryz.func118.trans (congrArg some Dk)
 f224:=Tryz.func116.trans (congrArg some Dk)
 f225:=Tryz.func117.trans (congrArg some Dk)
 f266:=Tryz.func105.trans (congrArg some Dk)
 f267:=Tryz.func125.trans (congrArg some Dk)
 f314:=Tryz.func129.trans (congrArg some Dk)
 t3:=Tryz.underlying3
 a3:=Tryz.isAgg3
 z3:=Tryz.sizeOf3
 v3:=Tryz.zeroValue3
 t4:=Tryz.underlying4
 a4:=Tryz.isAgg4
 z4:=Tryz.sizeOf4
 v4:=Tryz.zeroValue4
 t5:=Tryz.underlying5
 a5:=Tryz.isAgg5
 z5:=Tryz.sizeOf5
 v5:=Tryz.zeroValue5
 t9:=Tryz.underlying9
 a9:=Tryz.isAgg9
 z9:=Tryz.sizeOf9
 v9:=Tryz.zeroValue9
 t46:=Tryz.underlying106
 a46:=Tryz.isAgg106
 z46:=Tryz.sizeOf106
 v46:=Tryz.zeroValue106
 t51:=Tryz.underlying124
 a51:=Tryz.isAgg124
 z51:=Tryz.sizeOf124
 v51:=Tryz.zeroValue124
 t146:=Tryz.underlying125
 a146:=Tryz.isAgg125
 z146:=Tryz.sizeOf125
 v146:=Tryz.zeroValue125
 g1:=by kernel_rfl }
/-- strings.Contains: "Contains reports whether substr is within s.": AT A substr OF ONE BYTE c: IT RETURNS 'decide (0≤Lib.indexByte s c)';the world is as it was. (LAID: no walk: one application.) -/
theorem Tryz.strings_Contains_one (s:ByteArray)(c:UInt8)(w:World):
  Calls Tryz.prog 107 #[.string s,.string ⟨#[c]⟩] w fun e w'=>e=.returned (.bool (decide (0≤Lib.indexByte s.data.toList c)))∧w'=w:=Any.strings_Contains_one Tryz.lays144 s c w
/-- strings.Contains: "Contains reports whether substr is within s.": IT RETURNS 'Lib.contains s substr';the world is as it was. (LAID: no walk: one application.) -/
theorem Tryz.strings_Contains (s sub:ByteArray)(m:Int)(w:World)(hs:s.size<4294967281)(hm:w.cell? ⟨4,0,none⟩=some (.int .i64 m)):
  Calls Tryz.prog 107 #[.string s,.string sub] w fun e w'=>e=.returned (.bool (Lib.contains s.data.toList sub.data.toList))∧w'=w:=Any.strings_Contains Tryz.lays144 s sub m w hs hm
def Tryz.lays99_ren:Go.Shelf.Ren:=⟨fun|99=>60|206=>88|n=>n,fun|9=>9|4=>4|3=>3|n=>n,fun|n=>n⟩
theorem Tryz.lays99:Go.Proofs.Lays.n99 Tryz.prog Tryz.lays99_ren:={
 mixed:=by kernel_rfl
 f99:=Tryz.func60.trans (congrArg some Dk)
 f206:=Tryz.func88.trans (congrArg some Dk)
 t3:=Tryz.underlying3
 a3:=Tryz.isAgg3
 z3:=Tryz.sizeOf3
 v3:=Tryz.zeroValue3
 t4:=Tryz.underlying4
 a4:=Tryz.isAgg4
 z4:=Tryz.sizeOf4
 v4:=Tryz.zeroValue4
 t9:=Tryz.underlying9
 a9:=Tryz.isAgg9
 z9:=Tryz.sizeOf9
 v9:=Tryz.zeroValue9 }
/-- strings.HasPrefix: "HasPrefix reports whether the string s begins with prefix.": IT RETURNS 'Lib.hasPrefix s prefix';the world is as it was. (LAID: no walk: one application.) -/
theorem Tryz.strings_HasPrefix (s p:ByteArray)(w:World):
  Calls Tryz.prog 60 #[.string s,.string p] w fun e w'=>e=.returned (.bool (Lib.hasPrefix s.data.toList p.data.toList))∧w'=w:=Any.strings_HasPrefix Tryz.lays99 s p w
def Tryz.lays197_ren:Go.Shelf.Ren:=⟨fun|197=>83|260=>102|n=>n,fun|9=>9|21=>21|3=>3|4=>4|5=>5|105=>86|119=>105|0=>0|46=>106|139=>109|138=>108|n=>n,fun|3=>2|4=>3|n=>n⟩
theorem Tryz.lays197:Go.Proofs.Lays.n197 Tryz.prog Tryz.lays197_ren:={
 mixed:=by kernel_rfl
 f197:=Tryz.func83.trans (congrArg some Dk)
 f260:=Tryz.func102.trans (congrArg some Dk)
 t0:=Tryz.underlying0
 a0:=Tryz.isAgg0
 z0:=Tryz.sizeOf0
 v0:=Tryz.zeroValue0
 t3:=Tryz.underlying3
 a3:=Tryz.isAgg3
 z3:=Tryz.sizeOf3
 v3:=Tryz.zeroValue3
 t4:=Tryz.underlying4
 a4:=Tryz.isAgg4
 z4:=Tryz.sizeOf4
 v4:=Tryz.zeroValue4
 t5:=Tryz.underlying5
 a5:=Tryz.isAgg5
 z5:=Tryz.sizeOf5
 v5:=Tryz.zeroValue5
 t9:=Tryz.underlying9
 a9:=Tryz.isAgg9
 z9:=Tryz.sizeOf9
 v9:=Tryz.zeroValue9
 t21:=Tryz.underlying21
 a21:=Tryz.isAgg21
 z21:=Tryz.sizeOf21
 v21:=Tryz.zeroValue21
 t46:=Tryz.underlying106
 a46:=Tryz.isAgg106
 z46:=Tryz.sizeOf106
 v46:=Tryz.zeroValue106
 t105:=Tryz.underlying86
 a105:=Tryz.isAgg86
 z105:=Tryz.sizeOf86
 v105:=Tryz.zeroValue86
 t119:=Tryz.underlying105
 a119:=Tryz.isAgg105
 z119:=Tryz.sizeOf105
 t138:=Tryz.underlying108
 a138:=Tryz.isAgg108
 z138:=Tryz.sizeOf108
 v138:=Tryz.zeroValue108
 t139:=Tryz.underlying109
 a139:=Tryz.isAgg109
 z139:=Tryz.sizeOf109
 v139:=Tryz.zeroValue109
 g3:=by kernel_rfl
 g4:=by kernel_rfl }
def Tryz.lays151_ren:Go.Shelf.Ren:=⟨fun|151=>104|152=>111|137=>61|119=>115|224=>116|225=>117|217=>89|266=>105|n=>n,fun|9=>9|21=>21|4=>4|3=>3|5=>5|0=>0|46=>106|n=>n,fun|n=>n⟩
theorem Tryz.lays151:Go.Proofs.Lays.n151 Tryz.prog Tryz.lays151_ren:={
 mixed:=by kernel_rfl
 f119:=Tryz.func115.trans (congrArg some Dk)
 f137:=Tryz.func61.trans (congrArg some Dk)
 f151:=Tryz.func104.trans (congrArg some Dk)
 f152:=Tryz.func111.trans (congrArg some Dk)
 f217:=Tryz.func89.trans (congrArg some Dk)
 f224:=Tryz.func116.trans (congrArg some Dk)
 f225:=Tryz.func117.trans (congrArg some Dk)
 f266:=Tryz.func105.trans (congrArg some Dk)
 t0:=Tryz.underlying0
 a0:=Tryz.isAgg0
 z0:=Tryz.sizeOf0
 v0:=Tryz.zeroValue0
 t3:=Tryz.underlying3
 a3:=Tryz.isAgg3
 z3:=Tryz.sizeOf3
 v3:=Tryz.zeroValue3
 t4:=Tryz.underlying4
 a4:=Tryz.isAgg4
 z4:=Tryz.sizeOf4
 v4:=Tryz.zeroValue4
 t5:=Tryz.underlying5
 a5:=Tryz.isAgg5
 z5:=Tryz.sizeOf5
 v5:=Tryz.zeroValue5
 t9:=Tryz.underlying9
 a9:=Tryz.isAgg9
 z9:=Tryz.sizeOf9
 v9:=Tryz.zeroValue9
 t21:=Tryz.underlying21
 a21:=Tryz.isAgg21
 z21:=Tryz.sizeOf21
 v21:=Tryz.zeroValue21
 t46:=Tryz.underlying106
 a46:=Tryz.isAgg106
 z46:=Tryz.sizeOf106
 v46:=Tryz.zeroValue106 }
theorem Tryz.strings_ContainsRune_ascii (s:ByteArray)(r:Int)(w:World)(h0:0≤r)(h1:r<128):
  Calls Tryz.prog 104 #[.string s,.int .i32 r] w fun e w'=>e=.returned (.bool (decide (0≤Lib.indexByte s.data.toList r.toNat.toUInt8)))∧w'=w:=Any.strings_ContainsRune_ascii Tryz.lays151 s r w h0 h1
def Tryz.Qbx:Go.Shelf.Ren:=⟨fun|260=>102|n=>n,fun|9=>9|21=>21|3=>3|4=>4|5=>5|119=>105|0=>0|46=>106|139=>109|138=>108|n=>n,fun|3=>2|4=>3|n=>n⟩
theorem Tryz.lays260:Go.Proofs.Lays.n260 Tryz.prog Tryz.Qbx:={
 mixed:=by kernel_rfl
 f260:=Tryz.func102.trans (congrArg some Dk)
 t0:=Tryz.underlying0
 a0:=Tryz.isAgg0
 z0:=Tryz.sizeOf0
 v0:=Tryz.zeroValue0
 t3:=Tryz.underlying3
 a3:=Tryz.isAgg3
 z3:=Tryz.sizeOf3
 v3:=Tryz.zeroValue3
 t4:=Tryz.underlying4
 a4:=Tryz.isAgg4
 z4:=Tryz.sizeOf4
 v4:=Tryz.zeroValue4
 t5:=Tryz.underlying5
 a5:=Tryz.isAgg5
 z5:=Tryz.sizeOf5
 v5:=Tryz.zeroValue5
 t9:=Tryz.underlying9
 a9:=Tryz.isAgg9
 z9:=Tryz.sizeOf9
 v9:=Tryz.zeroValue9
 t21:=Tryz.underlying21
 a21:=Tryz.isAgg21
 z21:=Tryz.sizeOf21
 v21:=Tryz.zeroValue21
 t46:=Tryz.underlying106
 a46:=Tryz.isAgg106
 z46:=Tryz.sizeOf106
 v46:=Tryz.zeroValue106
 t119:=Tryz.underlying105
 a119:=Tryz.isAgg105
 z119:=Tryz.sizeOf105
 t138:=Tryz.underlying108
 a138:=Tryz.isAgg108
 z138:=Tryz.sizeOf108
 v138:=Tryz.zeroValue108
 t139:=Tryz.underlying109
 a139:=Tryz.isAgg109
 z139:=Tryz.sizeOf109
 v139:=Tryz.zeroValue109
 g3:=by kernel_rfl
 g4:=by kernel_rfl }
theorem Tryz.utf8_DecodeRuneInString (s:ByteArray)(w:World)(hT:Lib.Utf8Tabs 2 3 w):
  Calls Tryz.prog 83 #[.string s] w fun e w'=>e=.returned (.tuple #[.int .i32 (Lib.decodeGo s).1,.int .i64 (Lib.decodeGo s).2])∧Below w.heap.size w w':=Any.utf8_DecodeRuneInString Tryz.lays197 s w hT
def Tryz.lays110_ren:Go.Shelf.Ren:=⟨fun|110=>90|109=>106|n=>n,fun|31=>33|9=>9|4=>4|3=>3|0=>0|n=>n,fun|n=>n⟩
theorem Tryz.lays110:Go.Proofs.Lays.n110 Tryz.prog Tryz.lays110_ren:={
 mixed:=by kernel_rfl
 f109:=Tryz.func106.trans (congrArg some Dk)
 f110:=Tryz.func90.trans (congrArg some Dk)
 t0:=Tryz.underlying0
 a0:=Tryz.isAgg0
 z0:=Tryz.sizeOf0
 v0:=Tryz.zeroValue0
 t3:=Tryz.underlying3
 a3:=Tryz.isAgg3
 z3:=Tryz.sizeOf3
 v3:=Tryz.zeroValue3
 t4:=Tryz.underlying4
 a4:=Tryz.isAgg4
 z4:=Tryz.sizeOf4
 v4:=Tryz.zeroValue4
 t9:=Tryz.underlying9
 a9:=Tryz.isAgg9
 z9:=Tryz.sizeOf9
 v9:=Tryz.zeroValue9
 t31:=Tryz.underlying33
 a31:=Tryz.isAgg33
 z31:=Tryz.sizeOf33
 v31:=Tryz.zeroValue33 }
/-- slices.Contains at []string: "Contains reports whether v is present in s.": IT RETURNS 'Lib.containsS (the elements) v',which is true just where v is among them ('Lib.containsS_iff');the world is as it was. ITS CALLEE slices.Index IS MET BY ITS OWN CONTRACT OFF THE SHELF (lay that first): no loop is walked here. (LAID: no walk: one application.) -/
theorem Tryz.slices_Contains_string (b off n c:Nat)(zs:List ByteArray)(x:ByteArray)(w:World)(hz:n≤zs.length)(hbig:n≤9223372036854775807)(hc:∀ j,j<zs.length→w.cell? ⟨b,off+j,none⟩=some (.string (zs.getD j ByteArray.empty))):
  Calls Tryz.prog 90 #[.slice (some ⟨b,off,none⟩) n c,.string x] w fun e w'=>e=.returned (.bool (Lib.containsS (zs.take n) x))∧w'=w:=Any.slices_Contains_string Tryz.lays110 b off n c zs x w hz hbig hc
end Go.Proofs
namespace Go.Proofs.YtcbkeecabcbogaaGreatDoor
open Go.RowKit
theorem Qeg {k:IntKind}{a b:Int}(h:a=b):Ending.returned (.int k a)=.returned (.int k b):=by rw[h]
theorem Tu {a b:Bool}(h:a=b):Ending.returned (.bool a)=.returned (.bool b):=by rw[h]
theorem Je {a b c d:Value}(h:a=c)(h2:b=d):Ending.returned (.tuple #[a,b])=.returned (.tuple #[c,d]):=by rw[h,h2]
theorem Jc {k:IntKind}{a b:Int}(h:a=b):Value.int k a=.int k b:=by rw[h]
theorem Tz (r:Int)(w:World):Calls Tryz.prog 92 #[.int .i32 r] w fun e w'=>e=.returned (.bool (isLet r))∧w=w':=by
 go_enter Tryz.func92,Tryz.ntmps92
 go_wp2
 all_goals (go_ret;refine⟨Tu ?_,rfl⟩;first|(simp[isLet];done)|(rw[Bool.eq_iff_iff];simp[isLet];omega)|(simp_all [isLet];omega)|(rw[Bool.eq_iff_iff];simp_all [isLet];try omega))
theorem U3 (r:Int)(w:World):Calls Tryz.prog 94 #[.int .i32 r] w fun e w'=>e=.returned (.bool (Hg r))∧w=w':=by
 go_enter Tryz.func94,Tryz.ntmps94
 go_wp2
 all_goals (go_ret;refine⟨Tu ?_,rfl⟩;first|(simp[Hg];done)|(rw[Bool.eq_iff_iff];simp[Hg];omega)|(simp_all [Hg];omega)|(rw[Bool.eq_iff_iff];simp_all [Hg];try omega))
theorem Qdx (w:World)(s:ByteArray)(p:Nat):Below w.heap.size w (w.iter s p):=(Below.refl _ _).alloc (Nat.le_refl _) _
theorem drop_cons {l:List UInt8}{p:Nat}(h:p<l.length):∃ b m,l.drop p=b::m:=by
 cases hd:l.drop p with
 |nil=>simp at hd;omega
 |cons b m=>exact⟨b,m,rfl⟩
theorem Qoe {l:List UInt8}{p:Nat}(h:p<l.length)(hr:Qbz (Vu (l.drop p)).1=false):Y9 (l.drop p)=0:=by
 obtain⟨b,m,hm⟩:=drop_cons h;rw[hm] at hr ⊢;exact Nj b m hr
theorem drop_end {l:List UInt8}{p:Nat}(h:¬ p<l.length):l.drop p=[]:=by simp;omega
theorem Qkh {l:List UInt8}{p:Nat}(h:p<l.length):1≤(Vu (l.drop p)).2∧p+(Vu (l.drop p)).2≤l.length:=by
 obtain⟨b,m,hm⟩:=drop_cons h;have h1:=Di b m;have h2:=Pq b m;rw[←hm] at h1 h2;rw[List.length_drop] at h2;omega
theorem run_any (s:ByteArray)(w:World)(hs:s.size≤1073741824):Calls Tryz.prog 91 #[.string s] w fun e w'=>e=.returned (.int .i64 (Y9 (bl s)))∧Below w.heap.size w w':=by
 go_enter Tryz.func91,Tryz.ntmps91
 go_wp2
 go_loopw [3] (fun _ wr=>∃ pos:Nat,wr=w.iter s pos∧pos≤s.size∧Hid (Y9 (bl s)=pos+Y9 ((bl s).drop pos))) (fun _ wr=>s.size-wr.iterPos w.heap.size)
 case atStart=>exact⟨0,rfl,by omega,Dh Ds⟩
 case round=>
  obtain⟨pos,rfl,hp,HR⟩:=hrel;by_cases hlt:pos<s.size
  ·have hnx:∀ ty,(Instr.next (.pointer (some ⟨w.heap.size,0,none⟩)) true ty).run Tryz.prog (w.iter s pos)=_:=fun ty=>run_next_any w s pos ty hlt
   rw[dec_bl s pos hlt] at hnx;have hlt':pos<(bl s).length:=by rw[Zc];exact hlt
   have hst:=Qkh hlt';rw[Zc] at hst;have hrs:=Dh (fun h=>runL_at (bl s) pos hlt' h);have hrn:=Dh (fun h=>Qoe hlt' h);clear hlt';generalize hd:Vu ((bl s).drop pos)=d at *;obtain⟨r,k⟩:=d;have HD:=Dh hd;clear hd;simp only[] at hst hnx;cases hL:isLet r
   ·cases hD:Hg r
    ·go_wp2_with (first|(go_at_call 92;refine(Tz _ _).mono ?_;rintro e w' ⟨rfl,rfl⟩)|(go_at_call 94;refine(U3 _ _).mono ?_;rintro e w' ⟨rfl,rfl⟩))
     go_ret;exact⟨Qeg (by rw[HR.out,hrn.out (by simp[Qbz,hL,hD])];simp),Qdx _ _ _⟩
    ·go_wp2_with (first|(go_at_call 92;refine(Tz _ _).mono ?_;rintro e w' ⟨rfl,rfl⟩)|(go_at_call 94;refine(U3 _ _).mono ?_;rintro e w' ⟨rfl,rfl⟩))
     go_roundw
     case rel=>exact⟨pos+k,rfl,hst.2,Dh (by rw[HR.out,hrs.out (by simp[Qbz,hL,hD])];omega)⟩
     case measure=>simp;omega
   ·go_wp2_with (first|(go_at_call 92;refine(Tz _ _).mono ?_;rintro e w' ⟨rfl,rfl⟩)|(go_at_call 94;refine(U3 _ _).mono ?_;rintro e w' ⟨rfl,rfl⟩))
    go_roundw
    case rel=>exact⟨pos+k,rfl,hst.2,Dh (by rw[HR.out,hrs.out (by simp[Qbz,hL])];omega)⟩
    case measure=>simp;omega
  ·have hnx:∀ ty,(Instr.next (.pointer (some ⟨w.heap.size,0,none⟩)) true ty).run Tryz.prog (w.iter s pos)=_:=fun ty=>run_next_end w s pos ty hlt
   have he:Y9 (bl s)=s.size:=by
    rw[HR.out,drop_end (by rw[Zc];exact hlt),G9];omega
   have HE:=Dh he;clear he;go_wp2
   go_ret;exact⟨Qeg (by rw[HE.out]),Qdx _ _ _⟩
theorem Qhw {l:List UInt8}{p:Nat}(h:p<l.length)(hb:broken (l.drop p)=false):Vd (l.drop p)=(Vu (l.drop p)).2+Vd (l.drop (p+(Vu (l.drop p)).2)):=by
 obtain⟨b,m,hm⟩:=drop_cons h;rw[hm] at hb;rw[hm,Jv b m hb,←hm,List.drop_drop]
theorem Qhv {l:List UInt8}{p:Nat}(h:p<l.length)(hb:broken (l.drop p)=true):Vd (l.drop p)=0:=by
 obtain⟨b,m,hm⟩:=drop_cons h;rw[hm] at hb ⊢;exact Qax b m hb
theorem Qfk (s:ByteArray)(k:Nat)(h:k<s.size):(bl s)[k]? = some s[k]:=by
 unfold bl;rw[List.getElem?_eq_getElem (by simpa using h)];rfl
def Qh3:Array Value:=(Z8.map fun z=>Value.string ⟨z.toArray⟩).toArray
structure Laid (w:World):Prop where
 size:10≤w.heap.size
 u8:Lib.Utf8Tabs 2 3 w
 most:∃ m,w.cell? ⟨4,0,none⟩=some (.int .i64 m)
 range:∃ ev,w.cell? ⟨6,0,none⟩=some ev∧(ev=.nilIface∨∃ te pe,ev=.iface te pe)
 signs:∃ t fr,w.heap[0]? = some (.cells Qh3 t fr)
theorem Laid.below {w w':World}(h:Laid w)(hb:Below w.heap.size w w'):Laid w':=by
 have hs:=h.size;have hc:∀ b o,b<10→w'.cell? ⟨b,o,none⟩=w.cell? ⟨b,o,none⟩:=fun b o hlt=>hb.cell (p:=⟨b,o,none⟩) (Nat.lt_of_lt_of_le hlt hs)
 obtain⟨m,hm⟩:=h.most;obtain⟨ev,hr,hev⟩:=h.range;obtain⟨t,fr,hsg⟩:=h.signs;refine⟨Nat.le_trans hs hb.size,?_,⟨m,?_⟩,⟨ev,?_,hev⟩,⟨t,fr,?_⟩⟩
 ·obtain⟨h1,h2⟩:=h.u8;refine⟨?_,?_⟩
  ·intro x hx;rw[hc _ _ Dd];exact h1 x hx
  ·intro i hi;rw[hc _ _ Dd,hc _ _ Dd];exact h2 i hi
 ·rw[hc _ _ Dd];exact hm
 ·rw[hc _ _ Dd];exact hr
 ·rw[hb.block _ (Nat.lt_of_lt_of_le Dd hs)];exact hsg
def Qle (p s:List UInt8):Bool:=p.isPrefixOf s
def hasB (s:List UInt8)(c:UInt8):Bool:=s.contains c
def hasL (s t:List UInt8):Bool:=Lib.contains s t
theorem Ls (s p:ByteArray)(w:World):Calls Tryz.prog 60 #[.string s,.string p] w fun e w'=>e=.returned (.bool (Qle (bl p) (bl s)))∧w=w':=
 (Tryz.strings_HasPrefix s p w).mono fun _ _ ⟨h1,h2⟩=>⟨h1,h2.symm⟩
theorem Qao (s:ByteArray)(w:World)(h:Laid w)(hs:s.size≠0):Calls Tryz.prog 83 #[.string s] w fun e w'=>e=.returned (.tuple #[.int .i32 ((Vu (bl s)).1:Int),.int .i64 ((Vu (bl s)).2:Int)])∧Below w.heap.size w w':=by
 have e:Lib.decodeGo s=Vu (bl s):=by
  unfold Lib.decodeGo;rw[if_neg hs,dec_bl s 0 Dw];rfl
 rw[←e];exact Tryz.utf8_DecodeRuneInString s w h.u8
theorem Rt (l:List UInt8)(c:UInt8):(decide (0≤Lib.indexByte l c))=l.contains c:=by
 induction l with
 |nil=>rfl
 |cons b l ih=>
  unfold Lib.indexByte;by_cases h:(b==c)=true
  ·have:b=c:=by simpa using h
   subst this;simp
  ·have hb:¬ c=b:=fun e=>h (by simp[e])
   rw[if_neg h];have hc:(b::l).contains c=l.contains c:=by simp[hb]
   rw[hc,←ih];split
   ·rename_i h2;simp at h2;simp[h2]
   ·rename_i h2;have hge : -1≤Lib.indexByte l c:=by
     clear ih h hb hc h2;induction l with
     |nil=>exact Int.le_refl _
     |cons a l ih=>unfold Lib.indexByte;split;omega;split <;> omega
    simp at h2;rw[decide_eq_decide];omega
theorem has1_c (s:ByteArray)(c:UInt8)(w:World):Calls Tryz.prog 107 #[.string s,.string ⟨#[c]⟩] w fun e w'=>e=.returned (.bool (hasB (bl s) c))∧w=w':=
 (Tryz.strings_Contains_one s c w).mono fun _ _ ⟨h1,h2⟩=>⟨by rw[h1,Rt];rfl,h2.symm⟩
theorem has_c (s t:ByteArray)(w:World)(h:Laid w)(hs:s.size≤1073741824):Calls Tryz.prog 107 #[.string s,.string t] w fun e w'=>e=.returned (.bool (hasL (bl s) (bl t)))∧w=w':=by
 obtain⟨m,hm⟩:=h.most;exact(Tryz.strings_Contains s t m w Dw hm).mono fun _ _ ⟨h1,h2⟩=>⟨h1,h2.symm⟩
theorem Qkl (c:UInt8):((c.toNat:Int)).toNat.toUInt8=c:=by
 simp
theorem index_c (s:ByteArray)(w:World):Calls Tryz.prog 61 #[.string s,.int .u8 10] w fun e w'=>e=.returned (.int .i64 (Lib.indexByte (bl s) 10))∧w=w':=
 (Tryz.strings_IndexByte s 10 w).mono fun _ _ ⟨h1,h2⟩=>⟨h1,h2.symm⟩
theorem trim_c (s:ByteArray)(w:World):Calls Tryz.prog 59 #[.string s,.string ⟨#[9,13,32]⟩] w fun e w'=>e=.returned (.string ⟨((bl s).dropWhile Uo).toArray⟩)∧Below w.heap.size w w':=by
 have e:Lib.trimLeftS (bl s) [9,13,32]=(bl s).dropWhile Uo:=by
  unfold Lib.trimLeftS;congr 1
  funext b
  rw[Bool.eq_iff_iff];simp[Uo,or_assoc]
 rw[←e]
 exact Any.strings_TrimLeft_laid Tryz.lays161 Dk s ⟨#[9,13,32]⟩ w Dd (by
  intro j b h;have:b∈([9,13,32]:List UInt8):=List.mem_of_getElem? h;simp at this
  rcases this with rfl|rfl|rfl <;> decide)
end Go.Proofs.YtcbkeecabcbogaaGreatDoor
namespace Go.Proofs.YtcbkeecabcbogaaGreatDoor
open Go.RowKit
namespace Prs
def strV (l:List UInt8):Value:=.string ⟨l.toArray⟩
abbrev Where:=Nat→Nat×Nat×Nat
def opsAt (f:Where):List Value:=[.slice (some ⟨(f 0).1,(f 0).2.1,none⟩) 7 (f 0).2.2,.slice (some ⟨(f 1).1,(f 1).2.1,none⟩) 4 (f 1).2.2,.slice (some ⟨(f 2).1,(f 2).2.1,none⟩) 6 (f 2).2.2,.slice (some ⟨(f 3).1,(f 3).2.1,none⟩) 1 (f 3).2.2,.slice (some ⟨(f 4).1,(f 4).2.1,none⟩) 1 (f 4).2.2]
def Qo5:Nat→Nat
 |0=>7
 |1=>4
 |2=>6
 |_=>1
structure Ops (w:World)(f:Where):Prop where
 size:10≤w.heap.size
 ops:w.heap[1]? = some (.cells (opsAt f).toArray 96)
 room:∀ i,i<5→Qo5 i≤(f i).2.2∧(f i).2.2≤maxLen
 cells:∀ (i:Nat) (z:List (List UInt8)),opsP[i]? = some z→∀ (j:Nat) (x:List UInt8),z[j]? = some x→w.cell? ⟨(f i).1,(f i).2.1+j,none⟩=some (strV x)
theorem contains_c {w:World}{f:Where}(h:Ops w f)(x:List UInt8){i:Nat}{z:List (List UInt8)}(hz:opsP[i]? = some z)(hl:z.length=Qo5 i):Calls Tryz.prog 90 #[.slice (some ⟨(f i).1,(f i).2.1,none⟩) (Qo5 i) (f i).2.2,.string ⟨x.toArray⟩] w fun e w2=>e=.returned (.bool (z.contains x))∧w2=w:=by
 have hc:=h.cells i z hz;have e1:Lib.containsS ((z.map fun y=>(⟨y.toArray⟩:ByteArray)).take (Qo5 i)) ⟨x.toArray⟩=z.contains x:=by
  rw[←hl,←List.length_map (fun y=>(⟨y.toArray⟩:ByteArray)),List.take_length,Bool.eq_iff_iff,Lib.containsS_iff];simp
 rw[←e1];refine Tryz.slices_Contains_string _ _ _ _ _ _ _ (by simp[hl]) (by unfold Qo5;split <;> omega) fun j hj=>?_
 have hj':j<z.length:=by simpa using hj
 rw[hc j _ (List.getElem?_eq_getElem hj')];simp[strV,List.getD,List.getElem?_eq_getElem hj']
set_option maxRecDepth 100000 in
theorem binds_c (f:Where)(x:List UInt8)(w:World)(h:Ops w f):Calls Tryz.prog 65 #[.string ⟨x.toArray⟩] w fun e w2=>e=.returned (.int .i64 (Vg x:Int))∧w2=w:=by
 have hb:=h.ops;have q0:w.cell? ⟨1,0,none⟩=some (.slice (some ⟨(f 0).1,(f 0).2.1,none⟩) 7 (f 0).2.2):=by unfold World.cell?;rw[hb];rfl
 have q1:w.cell? ⟨1,1,none⟩=some (.slice (some ⟨(f 1).1,(f 1).2.1,none⟩) 4 (f 1).2.2):=by unfold World.cell?;rw[hb];rfl
 have q2:w.cell? ⟨1,2,none⟩=some (.slice (some ⟨(f 2).1,(f 2).2.1,none⟩) 6 (f 2).2.2):=by unfold World.cell?;rw[hb];rfl
 have q3:w.cell? ⟨1,3,none⟩=some (.slice (some ⟨(f 3).1,(f 3).2.1,none⟩) 1 (f 3).2.2):=by unfold World.cell?;rw[hb];rfl
 have q4:w.cell? ⟨1,4,none⟩=some (.slice (some ⟨(f 4).1,(f 4).2.1,none⟩) 1 (f 4).2.2):=by unfold World.cell?;rw[hb];rfl
 have i0:∀ (a b c d e:Value) (W:World),(Instr.index 96 (.agg #[a,b,c,d,e]) (.int .i64 0)).run Tryz.prog W=.ok a W:=fun a b c d e W=>by kernel_rfl
 have i1:∀ (a b c d e:Value) (W:World),(Instr.index 96 (.agg #[a,b,c,d,e]) (.int .i64 1)).run Tryz.prog W=.ok b W:=fun a b c d e W=>by kernel_rfl
 have i2:∀ (a b c d e:Value) (W:World),(Instr.index 96 (.agg #[a,b,c,d,e]) (.int .i64 2)).run Tryz.prog W=.ok c W:=fun a b c d e W=>by kernel_rfl
 have i3:∀ (a b c d e:Value) (W:World),(Instr.index 96 (.agg #[a,b,c,d,e]) (.int .i64 3)).run Tryz.prog W=.ok d W:=fun a b c d e W=>by kernel_rfl
 have i4:∀ (a b c d e:Value) (W:World),(Instr.index 96 (.agg #[a,b,c,d,e]) (.int .i64 4)).run Tryz.prog W=.ok e W:=fun a b c d e W=>by kernel_rfl
 have C0:=contains_c h x (i:=0) rfl rfl;have C1:=contains_c h x (i:=1) rfl rfl;have C2:=contains_c h x (i:=2) rfl rfl;have C3:=contains_c h x (i:=3) rfl rfl;have C4:=contains_c h x (i:=4) rfl rfl;have hv:Vg x=if ([[42],[47],[37],[60,60],[62,62],[38],[38,94]]:List (List UInt8)).contains x then 5 else if ([[43],[45],[124],[94]]:List (List UInt8)).contains x then 4 else if ([[61,61],[33,61],[60],[60,61],[62],[62,61]]:List (List UInt8)).contains x then 3 else if ([[38,38]]:List (List UInt8)).contains x then 2 else if ([[124,124]]:List (List UInt8)).contains x then 1 else 0:=rfl
 rw[hv];clear hv hb h;generalize ([[42],[47],[37],[60,60],[62,62],[38],[38,94]]:List (List UInt8)).contains x=b0 at *;generalize ([[43],[45],[124],[94]]:List (List UInt8)).contains x=b1 at *;generalize ([[61,61],[33,61],[60],[60,61],[62],[62,61]]:List (List UInt8)).contains x=b2 at *;generalize ([[38,38]]:List (List UInt8)).contains x=b3 at *;generalize ([[124,124]]:List (List UInt8)).contains x=b4 at *;have C0:=Dh C0;have C1:=Dh C1;have C2:=Dh C2;have C3:=Dh C3;have C4:=Dh C4;go_enter Tryz.func65,Tryz.ntmps65
 go_wp2
 refine wp_loop_rounds 6 ?_;cases b0;rotate_left
 ·rw[rounds_succ];go_wp2_with (go_at_call 90;refine C0.out.mono ?_;rintro e w2 ⟨rfl,rfl⟩)
  go_ret;exact⟨rfl,rfl⟩
 cases b1;rotate_left
 ·rw[rounds_succ];go_wp2_with (go_at_call 90;refine C0.out.mono ?_;rintro e w2 ⟨rfl,rfl⟩)
  rw[rounds_succ];go_wp2_with (go_at_call 90;refine C1.out.mono ?_;rintro e w2 ⟨rfl,rfl⟩)
  go_ret;exact⟨rfl,rfl⟩
 cases b2;rotate_left
 ·rw[rounds_succ];go_wp2_with (go_at_call 90;refine C0.out.mono ?_;rintro e w2 ⟨rfl,rfl⟩)
  rw[rounds_succ];go_wp2_with (go_at_call 90;refine C1.out.mono ?_;rintro e w2 ⟨rfl,rfl⟩)
  rw[rounds_succ];go_wp2_with (go_at_call 90;refine C2.out.mono ?_;rintro e w2 ⟨rfl,rfl⟩)
  go_ret;exact⟨rfl,rfl⟩
 cases b3;rotate_left
 ·rw[rounds_succ];go_wp2_with (go_at_call 90;refine C0.out.mono ?_;rintro e w2 ⟨rfl,rfl⟩)
  rw[rounds_succ];go_wp2_with (go_at_call 90;refine C1.out.mono ?_;rintro e w2 ⟨rfl,rfl⟩)
  rw[rounds_succ];go_wp2_with (go_at_call 90;refine C2.out.mono ?_;rintro e w2 ⟨rfl,rfl⟩)
  rw[rounds_succ];go_wp2_with (go_at_call 90;refine C3.out.mono ?_;rintro e w2 ⟨rfl,rfl⟩)
  go_ret;exact⟨rfl,rfl⟩
 cases b4;rotate_left
 ·rw[rounds_succ];go_wp2_with (go_at_call 90;refine C0.out.mono ?_;rintro e w2 ⟨rfl,rfl⟩)
  rw[rounds_succ];go_wp2_with (go_at_call 90;refine C1.out.mono ?_;rintro e w2 ⟨rfl,rfl⟩)
  rw[rounds_succ];go_wp2_with (go_at_call 90;refine C2.out.mono ?_;rintro e w2 ⟨rfl,rfl⟩)
  rw[rounds_succ];go_wp2_with (go_at_call 90;refine C3.out.mono ?_;rintro e w2 ⟨rfl,rfl⟩)
  rw[rounds_succ];go_wp2_with (go_at_call 90;refine C4.out.mono ?_;rintro e w2 ⟨rfl,rfl⟩)
  go_ret;exact⟨rfl,rfl⟩
 ·rw[rounds_succ];go_wp2_with (go_at_call 90;refine C0.out.mono ?_;rintro e w2 ⟨rfl,rfl⟩)
  rw[rounds_succ];go_wp2_with (go_at_call 90;refine C1.out.mono ?_;rintro e w2 ⟨rfl,rfl⟩)
  rw[rounds_succ];go_wp2_with (go_at_call 90;refine C2.out.mono ?_;rintro e w2 ⟨rfl,rfl⟩)
  rw[rounds_succ];go_wp2_with (go_at_call 90;refine C3.out.mono ?_;rintro e w2 ⟨rfl,rfl⟩)
  rw[rounds_succ];go_wp2_with (go_at_call 90;refine C4.out.mono ?_;rintro e w2 ⟨rfl,rfl⟩)
  rw[rounds_succ];go_wp2
  go_ret;exact⟨rfl,rfl⟩
end Prs
end Go.Proofs.YtcbkeecabcbogaaGreatDoor
namespace Go.Proofs.YtcbkeecabcbogaaGreatDoor
open Go.RowKit
theorem Lh (s:ByteArray)(p:Nat):(s.extract p s.size).size=s.size-p:=by rw[←Zc,N8,List.length_drop,Zc]
theorem Qnd (s:ByteArray)(w:World)(h:Laid w)(hs:s.size≤1073741824):Calls Tryz.prog 58 #[.string s] w fun e w'=>e=.returned (.int .i64 (Vd (bl s)))∧Below w.heap.size w w':=by
 go_enter Tryz.func58,Tryz.ntmps58
 go_wp2
 go_loopw [3] (fun at_ wr=>∃ pos:Nat,at_=.int .i64 pos∧pos≤s.size∧Hid (Vd (bl s)=pos+Vd ((bl s).drop pos))∧Below w.heap.size w wr) (fun at_ _=>s.size-(intOf at_).toNat)
 case atStart=>exact⟨0,rfl,by omega,Dh Ds,Below.refl _ _⟩
 case round=>
  obtain⟨pos,rfl,hp,HR,hB⟩:=hrel;by_cases hlt:pos<s.size
  ·have hlt':pos<(bl s).length:=by rw[Zc];exact hlt
   have hst:=Qkh hlt';rw[Zc] at hst;have hrs:=Dh (fun h=>Qhw hlt' h);have hrn:=Dh (fun h=>Qhv hlt' h);have hbk:Hid (broken ((bl s).drop pos)=((Vu ((bl s).drop pos)).1==65533&&decide ((Vu ((bl s).drop pos)).2<2))):=Dh rfl;have hcall:=Qao (s.extract pos s.size) wr (h.below hB) (by rw[Lh];omega);rw[N8] at hcall;have HC:=Dh hcall;clear hcall hlt';generalize hd:Vu ((bl s).drop pos)=d at *;obtain⟨r,k⟩:=d;have HD:=Dh hd;clear hd;simp only[] at hst;have hw1:(pos:Int)<(s.size:Int):=by omega
   by_cases hr:r=65533∧k<2
   ·have hb:broken ((bl s).drop pos)=true:=by rw[hbk.out];simp[hr.1,hr.2]
    have hy:=Dh (hrn.out hb);have hr1:(((r:Nat):Int)==65533)=true:=by simp[hr.1]
    have hk2:(k:Int)<2:=by omega
    clear hrs hrn hbk hb hr;go_wp2_with fail
    refine HC.out.mono ?_;rintro e w1 ⟨rfl,hw⟩;have hB2:=Qi hB hw;clear hw hB HC;go_wp2
    go_ret;exact⟨Qeg (by have h1:=HR.out;have h2:=hy.out;omega),hB2⟩
   ·have hb:broken ((bl s).drop pos)=false:=by rw[hbk.out,Bool.and_eq_false_iff];simp;omega
    have hy:=Dh (hrs.out hb);have hr1:((((r:Nat):Int)==65533)=false)∨((((r:Nat):Int)==65533)=true∧¬ (k:Int)<2):=by
     by_cases h1:r=65533
     ·right;exact⟨by simp[h1],by omega⟩
     ·left;simp;omega
    clear hrs hrn hbk hb hr;rcases hr1 with hr1|⟨hr1,hr2⟩;all_goals
     go_wp2_with fail
     refine HC.out.mono ?_;rintro e w1 ⟨rfl,hw⟩;have hB2:=Qi hB hw;clear hw hB HC;go_wp2
     go_roundw
     case rel=>exact⟨pos+k,by go_num,hst.2,Dh (by rw[HR.out,hy.out];omega),hB2⟩
     case measure=>simp[intOf];omega
  ·have he:Vd (bl s)=s.size:=by
    rw[HR.out,drop_end (by rw[Zc];exact hlt),Gp];omega
   have hpe:pos=s.size:=by omega
   subst hpe;have HE:=Dh he;clear he;go_wp2
   go_ret;exact⟨Qeg (by rw[HE.out]),hB⟩
theorem Qhf (a b:ByteArray):bl (a++b)=bl a++bl b:=by
 unfold bl;simp
theorem Qhu:∀ z∈Qea,z.contains 32=false:=by decide
theorem Qgx (l:List UInt8)(h:l.contains 32=true):isWord l=false:=by
 cases hw:isWord l with
 |false=>rfl
 |true=>
  have:=Qhu l (by simpa [isWord] using hw);rw[this] at h;cases h
theorem word_c (s:ByteArray)(w:World)(h:Laid w)(hs:s.size≤1073741824):Calls Tryz.prog 93 #[.string s] w fun e w'=>e=.returned (.bool (isWord (bl s)))∧w=w':=by
 by_cases h1:s.size=0
 ·have e1:s.toList=[]:=by rw[Yh];exact(Vt s).2 h1
  have hr:isWord (bl s)=false:=by rw[(Vt s).2 h1];decide
  rw[hr];clear hr;go_enter Tryz.func93,Tryz.ntmps93
  go_wp2
  go_ret;exact⟨rfl,rfl⟩
 ·have e1:s.toList.isEmpty=false:=by
   rw[Yh,List.isEmpty_eq_false_iff];exact fun e=>h1 ((Vt s).1 e)
  have hc:=fun w=>has1_c s 32 w
  cases hb:hasB (bl s) 32
  ·have hr:=word_of (bl s) (fun e=>h1 ((Vt s).1 e)) (by
    intro hm;have:(bl s).contains 32=true:=by rw[List.contains_iff_mem];exact hm
    rw[show (bl s).contains 32=false from hb] at this;cases this)
   rw[hb] at hc;have HC:=Dh hc;have HR:=Dh hr;clear hc hr hb;go_enter Tryz.func93,Tryz.ntmps93
   go_wp2_with fail
   refine(HC.out _).mono ?_;rintro e w' ⟨rfl,rfl⟩;go_wp2_with fail
   refine(has_c _ _ _ h Dd).mono ?_;rintro e w' ⟨rfl,rfl⟩;go_wp2
   go_ret;exact⟨Tu (by rw[←HR.out];unfold hasL;rw[Qhf,Qhf];rfl),rfl⟩
  ·have hr:=Qgx (bl s) hb;rw[hr];rw[hb] at hc;have HC:=Dh hc;clear hc hr hb;go_enter Tryz.func93,Tryz.ntmps93
   go_wp2_with fail
   refine(HC.out _).mono ?_;rintro e w' ⟨rfl,rfl⟩;go_wp2
   go_ret;exact⟨rfl,rfl⟩
end Go.Proofs.YtcbkeecabcbogaaGreatDoor
