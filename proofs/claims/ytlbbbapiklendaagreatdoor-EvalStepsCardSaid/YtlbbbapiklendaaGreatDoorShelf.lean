/-
  DERIVED:THE SHELF's CONTRACTS AT THIS DUMP,IN PLAIN WORDS (tools/lay-plain.mjs out of 'TryzShelf.lean',which tools/lay-shelf.mjs wrote):THE SAME DECLARATIONS UNDER THE SAME NAMES: 'import','namespace','open','def','theorem' AND NOTHING ELSE:no command of the shelf's:FOR A HAND-IN. Each laying:the table of numbers ('.._ren') and one theorem,a field a fact of the dump's own or the kernel's comparison;each contract:ONE APPLICATION.
-/
import Derived.Shelf.Strings.Builder1
import Derived.Shelf.Strings.Builder2
import Derived.Shelf.Strings.OnBuilder
import Derived.Shelf.Small.Bits
import Derived.Shelf.Small.Strs
import Derived.Shelf.Strings.BuilderF
import Derived.Shelf.Strings.BuilderK
import Derived.Shelf.Utf8.RuneCount
import Derived.Shelf.Strings.Builder2Cap
import Derived.Shelf.Strconv.Itoa0
import Derived.Shelf.Strconv.Itoa1
import Derived.Shelf.LaysM
import Derived.Shelf.Strconv.Itoa2
import Derived.Shelf.Strconv.Itoa3
import Derived.Shelf.Strconv.Itoa4
import Derived.Shelf.Strconv.ParseIntEmpty
import Derived.Shelf.Strconv.Clone
import Derived.Shelf.Strconv.SyntaxError
import Derived.Shelf.LaysC
import Derived.Shelf.Strconv.ToError
import Derived.Shelf.Strconv.Lower
import Derived.Shelf.Strconv.ParseUint10
import Derived.Shelf.Strconv.ParseUint10Empty
import Derived.Shelf.Strconv.ParseUint10Any
import Derived.Shelf.Strconv.ParseInt10
import Derived.Shelf.Strconv.RangeError
import Derived.Shelf.Strconv.ToErrorRange
import Derived.Shelf.Strconv.ParseUintEmpty
import Derived.Shelf.Strconv.ParseUint10b64
import Derived.Shelf.Strconv.ParseUint10b32
import Derived.Shelf.Strconv.ParseUint10b16
import Derived.Shelf.Strconv.ParseUint10b8
import Derived.Shelf.Strconv.ParseUint10At
import Derived.Shelf.Strconv.ParseInt10At64
import Derived.Shelf.Strconv.ParseInt10At32
import Derived.Shelf.Strconv.ParseInt10At16
import Derived.Shelf.Strconv.ParseInt10At8
import Derived.Shelf.Strconv.ParseInt10All
import Derived.Shelf.Strconv.ParseIntPublic10
import Derived.Shelf.Strconv.ErrVarParseInt
import Derived.Ground.MpProg
import Derived.Shelf.Pu.ParseUintPublic10
import Derived.Shelf.Pu.ErrVarParseUint
import Derived.Shelf.Strings.Search1
import Derived.Shelf.Strings.Search2
import Derived.Shelf.Strings.Search3
import Derived.Shelf.Strings.Count
import Derived.Shelf.Strings.Shaped
import Derived.Shelf.Sort.Plain
import Derived.Shelf.Strings.LastIndex
import Derived.Shelf.GgClosure.StringsIndexFunc
import Derived.Ground.GgwProg
import Derived.Shelf.GgClosure.StringsIndexFuncTop
import Derived.Shelf.GgClosure.StringsRunes
import Derived.Shelf.Strings.Prefix
import Derived.Shelf.Strings.Split
import Derived.Shelf.Strings.Replace
import Derived.Shelf.Strings.SplitShaped
import Derived.Shelf.Unicode.Decode
import Derived.Shelf.Strings.RuneCount
import Derived.Shelf.Bits.Mul64
import Derived.Shelf.Strings.Repeat
import Derived.Shelf.Unicode.DecodeSlow
import Derived.Shelf.Unicode.DecodeAny
import Derived.Shelf.Strings.FuncGrows
import Derived.Shelf.Strings.BuilderCap
import Derived.Shelf.Slices.Turned
import Derived.Shelf.Slices.Equal
import Derived.Ground.Names2Prog
import Derived.Shelf.Slices.Clone
import Derived.Shelf.Slices.In.SortNone
import Derived.Shelf.Slices.Empties2
import Derived.Ground.PaProg
import Derived.Shelf.Path.Small
import Derived.Test.YtlbbbapiklendaaGreatDoorProg
namespace Go.Proofs
open Go.Shelf
def Tryz.lays170_ren:Go.Shelf.Ren:=⟨fun|170=>147|n=>n,fun|70=>88|3=>3|0=>0|72=>91|37=>89|5=>5|n=>n,fun|n=>n⟩
theorem Tryz.lays170:Go.Proofs.Lays.n170 Tryz.prog Tryz.lays170_ren:={
  mixed:=by kernel_rfl
  f170:=Tryz.func147.trans (congrArg some (by kernel_rfl))
  t0:=Tryz.underlying0
  a0:=Tryz.isAgg0
  z0:=Tryz.sizeOf0
  v0:=Tryz.zeroValue0
  t3:=Tryz.underlying3
  a3:=Tryz.isAgg3
  z3:=Tryz.sizeOf3
  v3:=Tryz.zeroValue3
  t37:=Tryz.underlying89
  a37:=Tryz.isAgg89
  z37:=Tryz.sizeOf89
  v37:=Tryz.zeroValue89
  t70:=Tryz.underlying88
  a70:=Tryz.isAgg88
  z70:=Tryz.sizeOf88
  v70:=Tryz.zeroValue88
  t72:=Tryz.underlying91
  a72:=Tryz.isAgg91
  z72:=Tryz.sizeOf91
  v72:=Tryz.zeroValue91}
open Go.RowKit in
theorem Tryz.Builder_Len(B b:Nat)(bs:List Value)(w:World)(h:Lib.IsBuilder 91 5 B b bs w):
    Calls Tryz.prog 147 #[.pointer (some ⟨b,0,none⟩)] w fun e w'=>e = .returned (.int .i64 bs.length)/\w'=w:=Any.Builder_Len Tryz.lays170 B b bs w h
def Tryz.lays169_ren:Go.Shelf.Ren:=⟨fun|169=>28|n=>n,fun|70=>88|9=>9|0=>0|72=>91|37=>89|127=>115|3=>3|5=>5|n=>n,fun|n=>n⟩
theorem Tryz.lays169:Go.Proofs.Lays.n169 Tryz.prog Tryz.lays169_ren:={
  mixed:=by kernel_rfl
  f169:=Tryz.func28.trans (congrArg some (by kernel_rfl))
  t0:=Tryz.underlying0
  a0:=Tryz.isAgg0
  z0:=Tryz.sizeOf0
  v0:=Tryz.zeroValue0
  t3:=Tryz.underlying3
  a3:=Tryz.isAgg3
  z3:=Tryz.sizeOf3
  v3:=Tryz.zeroValue3
  t9:=Tryz.underlying9
  a9:=Tryz.isAgg9
  z9:=Tryz.sizeOf9
  v9:=Tryz.zeroValue9
  t37:=Tryz.underlying89
  a37:=Tryz.isAgg89
  z37:=Tryz.sizeOf89
  v37:=Tryz.zeroValue89
  t70:=Tryz.underlying88
  a70:=Tryz.isAgg88
  z70:=Tryz.sizeOf88
  v70:=Tryz.zeroValue88
  t72:=Tryz.underlying91
  a72:=Tryz.isAgg91
  z72:=Tryz.sizeOf91
  v72:=Tryz.zeroValue91
  t127:=Tryz.underlying115
  a127:=Tryz.isAgg115
  z127:=Tryz.sizeOf115
  v127:=Tryz.zeroValue115}
theorem Tryz.Builder_Extra_169:Builder.Extra Tryz.prog Tryz.lays169_ren:={
  sizeBuilder:=by kernel_rfl
  liesBuilder:=by kernel_rfl
  t5:=Tryz.underlying5
  a5:=Tryz.isAgg5
  z5:=Tryz.sizeOf5
  v5:=Tryz.zeroValue5
  infoByte:=by kernel_rfl
  cellsByte:=by kernel_rfl
  sizeByte:=by kernel_rfl
  neB5:=by decide}
open Go.RowKit in
theorem Tryz.Builder_String_any(B b:Nat)(l:List UInt8)(w:World)(h:Lib.IsBuilder 91 5 B b (Lib.byteCells l) w)(hBw:B<=w.heap.size):
    Calls Tryz.prog 28 #[.pointer (some ⟨b,0,none⟩)] w fun e w'=>e = .returned (.string ⟨l.toArray⟩)/\Below B w w':=Any.Builder_String_any Tryz.lays169 Tryz.Builder_Extra_169 B b l w h hBw
def Tryz.lays156_ren:Go.Shelf.Ren:=⟨fun|156=>282|165=>146|166=>90|169=>28|240=>97|241=>177|276=>150|277=>207|n=>n,fun|31=>51|9=>9|3=>3|4=>4|0=>0|20=>20|72=>91|76=>145|70=>88|37=>89|75=>113|127=>115|164=>191|5=>5|80=>95|n=>n,fun|n=>n⟩
theorem Tryz.lays156:Go.Proofs.Lays.n156 Tryz.prog Tryz.lays156_ren:={
  mixed:=by kernel_rfl
  f156:=Tryz.func282.trans (congrArg some (by kernel_rfl))
  f165:=Tryz.func146.trans (congrArg some (by kernel_rfl))
  f166:=Tryz.func90.trans (congrArg some (by kernel_rfl))
  f169:=Tryz.func28.trans (congrArg some (by kernel_rfl))
  f240:=Tryz.func97.trans (congrArg some (by kernel_rfl))
  f241:=Tryz.func177.trans (congrArg some (by kernel_rfl))
  f276:=Tryz.func150.trans (congrArg some (by kernel_rfl))
  f277:=Tryz.func207.trans (congrArg some (by kernel_rfl))
  t0:=Tryz.underlying0
  a0:=Tryz.isAgg0
  z0:=Tryz.sizeOf0
  v0:=Tryz.zeroValue0
  t3:=Tryz.underlying3
  a3:=Tryz.isAgg3
  z3:=Tryz.sizeOf3
  v3:=Tryz.zeroValue3
  t4:=Tryz.underlying4
  a4:=Tryz.isAgg4
  z4:=Tryz.sizeOf4
  v4:=Tryz.zeroValue4
  t9:=Tryz.underlying9
  a9:=Tryz.isAgg9
  z9:=Tryz.sizeOf9
  v9:=Tryz.zeroValue9
  t20:=Tryz.underlying20
  a20:=Tryz.isAgg20
  z20:=Tryz.sizeOf20
  v20:=Tryz.zeroValue20
  t31:=Tryz.underlying51
  a31:=Tryz.isAgg51
  z31:=Tryz.sizeOf51
  v31:=Tryz.zeroValue51
  t37:=Tryz.underlying89
  a37:=Tryz.isAgg89
  z37:=Tryz.sizeOf89
  v37:=Tryz.zeroValue89
  t70:=Tryz.underlying88
  a70:=Tryz.isAgg88
  z70:=Tryz.sizeOf88
  v70:=Tryz.zeroValue88
  t72:=Tryz.underlying91
  a72:=Tryz.isAgg91
  z72:=Tryz.sizeOf91
  v72:=Tryz.zeroValue91
  t75:=Tryz.underlying113
  a75:=Tryz.isAgg113
  z75:=Tryz.sizeOf113
  v75:=Tryz.zeroValue113
  t76:=Tryz.underlying145
  a76:=Tryz.isAgg145
  z76:=Tryz.sizeOf145
  v76:=Tryz.zeroValue145
  t127:=Tryz.underlying115
  a127:=Tryz.isAgg115
  z127:=Tryz.sizeOf115
  v127:=Tryz.zeroValue115
  t164:=Tryz.underlying191
  a164:=Tryz.isAgg191
  z164:=Tryz.sizeOf191
  v164:=Tryz.zeroValue191}
theorem Tryz.Builder_Extra_156:Builder.Extra Tryz.prog Tryz.lays156_ren:={
  sizeBuilder:=by kernel_rfl
  liesBuilder:=by kernel_rfl
  t5:=Tryz.underlying5
  a5:=Tryz.isAgg5
  z5:=Tryz.sizeOf5
  v5:=Tryz.zeroValue5
  infoByte:=by kernel_rfl
  cellsByte:=by kernel_rfl
  sizeByte:=by kernel_rfl
  neB5:=by decide}
open Go.RowKit in
theorem Tryz.strings_Join_none(a:Option Addr)(c:Nat)(sep:ByteArray)(w:World):
    Calls Tryz.prog 282 #[.slice a 0 c,.string sep] w fun e w'=>e = .returned (.string ⟨#[]⟩)/\w'=w:=Any.strings_Join_none Tryz.lays156 Tryz.Builder_Extra_156 a c sep w
open Go.RowKit in
theorem Tryz.strings_Join(bk o c:Nat)(xs:List ByteArray)(sep:ByteArray)(w:World)(hcells:∀(j:Nat) x,xs[j]? = some x->w.cell? ⟨bk,o+j,none⟩=some (.string x))(hbk:bk<w.heap.size)(hN:xs.length<=140737488355328)(hcap:xs.length<=c)(hlen:(Lib.join (xs.map (·.data.toList)) sep.data.toList).length<=140737488355328):
    Calls Tryz.prog 282 #[.slice (some ⟨bk,o,none⟩) xs.length c,.string sep] w fun e w'=>e = .returned (.string ⟨(Lib.join (xs.map (·.data.toList)) sep.data.toList).toArray⟩)/\Below w.heap.size w w':=Any.strings_Join Tryz.lays156 Tryz.Builder_Extra_156 bk o c xs sep w hcells hbk hN hcap hlen
def Tryz.lays137_ren:Go.Shelf.Ren:=⟨fun|137=>61|217=>106|266=>158|n=>n,fun|9=>9|5=>5|3=>3|n=>n,fun|n=>n⟩
theorem Tryz.lays137:Go.Proofs.Lays.n137 Tryz.prog Tryz.lays137_ren:={
  mixed:=by kernel_rfl
  f137:=Tryz.func61.trans (congrArg some (by kernel_rfl))
  f217:=Tryz.func106.trans (congrArg some (by kernel_rfl))
  f266:=Tryz.func158.trans (congrArg some (by kernel_rfl))
  t3:=Tryz.underlying3
  a3:=Tryz.isAgg3
  z3:=Tryz.sizeOf3
  v3:=Tryz.zeroValue3
  t5:=Tryz.underlying5
  a5:=Tryz.isAgg5
  z5:=Tryz.sizeOf5
  v5:=Tryz.zeroValue5
  t9:=Tryz.underlying9
  a9:=Tryz.isAgg9
  z9:=Tryz.sizeOf9
  v9:=Tryz.zeroValue9}
open Go.RowKit in
theorem Tryz.strings_IndexByte(s:ByteArray)(c:Int)(w:World):
    Calls Tryz.prog 61 #[.string s,.int .u8 c] w fun e w'=>e = .returned (.int .i64 (Lib.indexByte s.data.toList c.toNat.toUInt8))/\w'=w:=Any.strings_IndexByte Tryz.lays137 s c w
def Tryz.laysM173_ren:Go.Shelf.Ren:=⟨fun|173=>141|246=>172|283=>200|284=>201|285=>202|286=>203|129=>139|317=>217|318=>218|319=>219|320=>220|337=>229|338=>230|n=>n,fun|2=>2|3=>3|9=>9|4=>4|171=>250|0=>0|53=>156|37=>89|5=>5|173=>252|212=>266|51=>178|20=>20|213=>267|46=>141|232=>303|233=>304|n=>n,fun|17=>3|18=>4|19=>5|n=>n⟩
theorem Tryz.laysM173:Go.Proofs.LaysM.n173 Tryz.prog Tryz.laysM173_ren:={
  mixed:=by kernel_rfl
  f129:=Tryz.func139.trans (congrArg some (by kernel_rfl))
  f173:=Tryz.func141.trans (congrArg some (by kernel_rfl))
  f246:=Tryz.func172.trans (congrArg some (by kernel_rfl))
  f283:=Tryz.func200.trans (congrArg some (by kernel_rfl))
  f284:=Tryz.func201.trans (congrArg some (by kernel_rfl))
  f285:=Tryz.func202.trans (congrArg some (by kernel_rfl))
  f286:=Tryz.func203.trans (congrArg some (by kernel_rfl))
  f317:=Tryz.func217.trans (congrArg some (by kernel_rfl))
  f318:=Tryz.func218.trans (congrArg some (by kernel_rfl))
  f319:=Tryz.func219.trans (congrArg some (by kernel_rfl))
  f320:=Tryz.func220.trans (congrArg some (by kernel_rfl))
  f337:=Tryz.func229.trans (congrArg some (by kernel_rfl))
  f338:=Tryz.func230.trans (congrArg some (by kernel_rfl))
  t0:=Tryz.underlying0
  a0:=Tryz.isAgg0
  z0:=Tryz.sizeOf0
  v0:=Tryz.zeroValue0
  t2:=Tryz.underlying2
  a2:=Tryz.isAgg2
  z2:=Tryz.sizeOf2
  v2:=Tryz.zeroValue2
  t3:=Tryz.underlying3
  a3:=Tryz.isAgg3
  z3:=Tryz.sizeOf3
  v3:=Tryz.zeroValue3
  t4:=Tryz.underlying4
  a4:=Tryz.isAgg4
  z4:=Tryz.sizeOf4
  v4:=Tryz.zeroValue4
  t5:=Tryz.underlying5
  a5:=Tryz.isAgg5
  z5:=Tryz.sizeOf5
  v5:=Tryz.zeroValue5
  t9:=Tryz.underlying9
  a9:=Tryz.isAgg9
  z9:=Tryz.sizeOf9
  v9:=Tryz.zeroValue9
  t20:=Tryz.underlying20
  a20:=Tryz.isAgg20
  z20:=Tryz.sizeOf20
  v20:=Tryz.zeroValue20
  t37:=Tryz.underlying89
  a37:=Tryz.isAgg89
  z37:=Tryz.sizeOf89
  v37:=Tryz.zeroValue89
  t46:=Tryz.underlying141
  a46:=Tryz.isAgg141
  z46:=Tryz.sizeOf141
  v46:=Tryz.zeroValue141
  t51:=Tryz.underlying178
  a51:=Tryz.isAgg178
  z51:=Tryz.sizeOf178
  v51:=Tryz.zeroValue178
  t53:=Tryz.underlying156
  a53:=Tryz.isAgg156
  z53:=Tryz.sizeOf156
  v53:=Tryz.zeroValue156
  t171:=Tryz.underlying250
  a171:=Tryz.isAgg250
  z171:=Tryz.sizeOf250
  v171:=Tryz.zeroValue250
  t173:=Tryz.underlying252
  a173:=Tryz.isAgg252
  z173:=Tryz.sizeOf252
  v173:=Tryz.zeroValue252
  t212:=Tryz.underlying266
  a212:=Tryz.isAgg266
  z212:=Tryz.sizeOf266
  v212:=Tryz.zeroValue266
  t213:=Tryz.underlying267
  a213:=Tryz.isAgg267
  z213:=Tryz.sizeOf267
  t232:=Tryz.underlying303
  a232:=Tryz.isAgg303
  z232:=Tryz.sizeOf303
  v232:=Tryz.zeroValue303
  t233:=Tryz.underlying304
  a233:=Tryz.isAgg304
  z233:=Tryz.sizeOf304
  v233:=Tryz.zeroValue304
  g17:=by kernel_rfl
  g18:=by kernel_rfl
  g19:=by kernel_rfl
  i0:=by kernel_rfl
  i2:=by kernel_rfl
  i3:=by kernel_rfl
  i4:=by kernel_rfl
  i5:=by kernel_rfl
  i9:=by kernel_rfl
  i20:=by kernel_rfl
  i37:=by kernel_rfl
  i46:=by kernel_rfl
  i51:=by kernel_rfl
  i53:=by kernel_rfl
  i171:=by kernel_rfl
  i173:=by kernel_rfl
  i212:=by kernel_rfl
  i232:=by kernel_rfl
  i233:=by kernel_rfl
  m17:=by kernel_rfl
  m18:=by kernel_rfl
  m19:=by kernel_rfl}
open Go.RowKit Go.Sort Go.Lib in
theorem Tryz.strconv_FormatInt_10(n:Int)(h0: -9223372036854775808<=n)(h1:n<=9223372036854775807)(w:World)(htab:Lib.TabIs Tryz.prog w "internal/strconv.uint64pow10" .u64 Lib.pow10Tab):
    Calls Tryz.prog 141 #[.int .i64 n,.int .i64 10] w fun e w'=>e = .returned (.string ⟨(Lib.itoa n).toArray⟩)/\∃k os,w'=grow (w.drewN k) os:=Any.strconv_FormatInt_10 Tryz.laysM173 n h0 h1 w htab
def Tryz.laysC174_ren:Go.Shelf.Ren:=⟨fun|174=>140|247=>171|245=>157|287=>156|279=>183|280=>184|281=>185|282=>186|321=>181|322=>182|316=>208|171=>210|205=>209|243=>227|246=>172|283=>200|284=>201|285=>202|286=>203|129=>139|317=>217|318=>218|319=>219|320=>220|337=>229|338=>230|n=>n,fun|9=>9|3=>3|2=>2|75=>113|85=>180|4=>4|167=>236|5=>5|53=>156|175=>157|46=>141|168=>238|37=>89|0=>0|210=>258|21=>21|127=>115|145=>286|143=>284|171=>250|173=>252|212=>266|51=>178|20=>20|213=>267|232=>303|233=>304|80=>95|n=>n,fun|15=>1|16=>2|17=>3|18=>4|19=>5|n=>n⟩
theorem Tryz.laysC174:Go.Proofs.LaysC.n174 Tryz.prog Tryz.laysC174_ren:={
  mixed:=by kernel_rfl
  f129:=Tryz.func139.trans (congrArg some (by kernel_rfl))
  f171:=Tryz.func210.trans (congrArg some (by kernel_rfl))
  f174:=Tryz.func140.trans (congrArg some (by kernel_rfl))
  f205:=Tryz.func209.trans (congrArg some (by kernel_rfl))
  f243:=Tryz.func227.trans (congrArg some (by kernel_rfl))
  f245:=Tryz.func157.trans (congrArg some (by kernel_rfl))
  f246:=Tryz.func172.trans (congrArg some (by kernel_rfl))
  f247:=Tryz.func171.trans (congrArg some (by kernel_rfl))
  f279:=Tryz.func183.trans (congrArg some (by kernel_rfl))
  f280:=Tryz.func184.trans (congrArg some (by kernel_rfl))
  f281:=Tryz.func185.trans (congrArg some (by kernel_rfl))
  f282:=Tryz.func186.trans (congrArg some (by kernel_rfl))
  f283:=Tryz.func200.trans (congrArg some (by kernel_rfl))
  f284:=Tryz.func201.trans (congrArg some (by kernel_rfl))
  f285:=Tryz.func202.trans (congrArg some (by kernel_rfl))
  f286:=Tryz.func203.trans (congrArg some (by kernel_rfl))
  f287:=Tryz.func156.trans (congrArg some (by kernel_rfl))
  f316:=Tryz.func208.trans (congrArg some (by kernel_rfl))
  f317:=Tryz.func217.trans (congrArg some (by kernel_rfl))
  f318:=Tryz.func218.trans (congrArg some (by kernel_rfl))
  f319:=Tryz.func219.trans (congrArg some (by kernel_rfl))
  f320:=Tryz.func220.trans (congrArg some (by kernel_rfl))
  f321:=Tryz.func181.trans (congrArg some (by kernel_rfl))
  f322:=Tryz.func182.trans (congrArg some (by kernel_rfl))
  f337:=Tryz.func229.trans (congrArg some (by kernel_rfl))
  f338:=Tryz.func230.trans (congrArg some (by kernel_rfl))
  t0:=Tryz.underlying0
  a0:=Tryz.isAgg0
  z0:=Tryz.sizeOf0
  v0:=Tryz.zeroValue0
  t2:=Tryz.underlying2
  a2:=Tryz.isAgg2
  z2:=Tryz.sizeOf2
  v2:=Tryz.zeroValue2
  t3:=Tryz.underlying3
  a3:=Tryz.isAgg3
  z3:=Tryz.sizeOf3
  v3:=Tryz.zeroValue3
  t4:=Tryz.underlying4
  a4:=Tryz.isAgg4
  z4:=Tryz.sizeOf4
  v4:=Tryz.zeroValue4
  t5:=Tryz.underlying5
  a5:=Tryz.isAgg5
  z5:=Tryz.sizeOf5
  v5:=Tryz.zeroValue5
  t9:=Tryz.underlying9
  a9:=Tryz.isAgg9
  z9:=Tryz.sizeOf9
  v9:=Tryz.zeroValue9
  t20:=Tryz.underlying20
  a20:=Tryz.isAgg20
  z20:=Tryz.sizeOf20
  v20:=Tryz.zeroValue20
  t21:=Tryz.underlying21
  a21:=Tryz.isAgg21
  z21:=Tryz.sizeOf21
  v21:=Tryz.zeroValue21
  t37:=Tryz.underlying89
  a37:=Tryz.isAgg89
  z37:=Tryz.sizeOf89
  v37:=Tryz.zeroValue89
  t46:=Tryz.underlying141
  a46:=Tryz.isAgg141
  z46:=Tryz.sizeOf141
  v46:=Tryz.zeroValue141
  t51:=Tryz.underlying178
  a51:=Tryz.isAgg178
  z51:=Tryz.sizeOf178
  v51:=Tryz.zeroValue178
  t53:=Tryz.underlying156
  a53:=Tryz.isAgg156
  z53:=Tryz.sizeOf156
  v53:=Tryz.zeroValue156
  t75:=Tryz.underlying113
  a75:=Tryz.isAgg113
  z75:=Tryz.sizeOf113
  v75:=Tryz.zeroValue113
  t85:=Tryz.underlying180
  a85:=Tryz.isAgg180
  z85:=Tryz.sizeOf180
  v85:=Tryz.zeroValue180
  t127:=Tryz.underlying115
  a127:=Tryz.isAgg115
  z127:=Tryz.sizeOf115
  v127:=Tryz.zeroValue115
  t143:=Tryz.underlying284
  a143:=Tryz.isAgg284
  z143:=Tryz.sizeOf284
  v143:=Tryz.zeroValue284
  t145:=Tryz.underlying286
  a145:=Tryz.isAgg286
  z145:=Tryz.sizeOf286
  v145:=Tryz.zeroValue286
  t167:=Tryz.underlying236
  a167:=Tryz.isAgg236
  z167:=Tryz.sizeOf236
  v167:=Tryz.zeroValue236
  t168:=Tryz.underlying238
  a168:=Tryz.isAgg238
  z168:=Tryz.sizeOf238
  v168:=Tryz.zeroValue238
  t171:=Tryz.underlying250
  a171:=Tryz.isAgg250
  z171:=Tryz.sizeOf250
  v171:=Tryz.zeroValue250
  t173:=Tryz.underlying252
  a173:=Tryz.isAgg252
  z173:=Tryz.sizeOf252
  v173:=Tryz.zeroValue252
  t175:=Tryz.underlying157
  a175:=Tryz.isAgg157
  z175:=Tryz.sizeOf157
  v175:=Tryz.zeroValue157
  t210:=Tryz.underlying258
  a210:=Tryz.isAgg258
  z210:=Tryz.sizeOf258
  v210:=Tryz.zeroValue258
  t212:=Tryz.underlying266
  a212:=Tryz.isAgg266
  z212:=Tryz.sizeOf266
  v212:=Tryz.zeroValue266
  t213:=Tryz.underlying267
  a213:=Tryz.isAgg267
  z213:=Tryz.sizeOf267
  t232:=Tryz.underlying303
  a232:=Tryz.isAgg303
  z232:=Tryz.sizeOf303
  v232:=Tryz.zeroValue303
  t233:=Tryz.underlying304
  a233:=Tryz.isAgg304
  z233:=Tryz.sizeOf304
  v233:=Tryz.zeroValue304
  g15:=by kernel_rfl
  g16:=by kernel_rfl
  g17:=by kernel_rfl
  g18:=by kernel_rfl
  g19:=by kernel_rfl
  t80:=Tryz.underlying95
  a80:=Tryz.isAgg95
  z80:=Tryz.sizeOf95
  v80:=Tryz.zeroValue95
  i0:=by kernel_rfl
  i2:=by kernel_rfl
  i3:=by kernel_rfl
  i4:=by kernel_rfl
  i5:=by kernel_rfl
  i9:=by kernel_rfl
  i20:=by kernel_rfl
  i21:=by kernel_rfl
  i37:=by kernel_rfl
  i46:=by kernel_rfl
  i51:=by kernel_rfl
  i53:=by kernel_rfl
  i75:=by kernel_rfl
  i80:=by kernel_rfl
  i85:=by kernel_rfl
  i127:=by kernel_rfl
  i143:=by kernel_rfl
  i145:=by kernel_rfl
  i167:=by kernel_rfl
  i168:=by kernel_rfl
  i171:=by kernel_rfl
  i173:=by kernel_rfl
  i175:=by kernel_rfl
  i210:=by kernel_rfl
  i212:=by kernel_rfl
  i232:=by kernel_rfl
  i233:=by kernel_rfl
  m15:=by kernel_rfl
  m16:=by kernel_rfl
  m17:=by kernel_rfl
  m18:=by kernel_rfl
  m19:=by kernel_rfl
  c0:=by kernel_rfl
  c2:=by kernel_rfl
  c3:=by kernel_rfl
  c4:=by kernel_rfl
  c5:=by kernel_rfl
  c9:=by kernel_rfl
  c20:=by kernel_rfl
  c21:=by kernel_rfl
  c37:=by kernel_rfl
  c46:=by kernel_rfl
  c51:=by kernel_rfl
  c53:=by kernel_rfl
  c75:=by kernel_rfl
  c80:=by kernel_rfl
  c85:=by kernel_rfl
  c127:=by kernel_rfl
  c143:=by kernel_rfl
  c145:=by kernel_rfl
  c167:=by kernel_rfl
  c168:=by kernel_rfl
  c171:=by kernel_rfl
  c173:=by kernel_rfl
  c175:=by kernel_rfl
  c210:=by kernel_rfl
  c212:=by kernel_rfl
  c213:=by kernel_rfl
  c232:=by kernel_rfl
  c233:=by kernel_rfl}
open Go.RowKit in
theorem Tryz.strconv_ParseInt_10_at64_ok(s:ByteArray)(hmax:s.size<=9223372036854775806)(v:Int)(h:Lib.parseIntB 64 s.data.toList = .ok v)(w:World):
    Calls Tryz.prog 140 #[.string s,.int .i64 10,.int .i64 64] w fun e w'=>e = .returned (.tuple #[.int .i64 v,.nilIface])/\(w'=w\/∃t,w'=Lib.bytesWorld w 5 t):=Any.strconv_ParseInt_10_at64_ok Tryz.laysC174 s hmax v h w
def Tryz.laysPu14_ren:Go.Shelf.Ren:=⟨fun|14=>104|16=>156|17=>157|19=>181|20=>182|21=>183|22=>184|23=>185|24=>186|25=>208|27=>210|26=>209|28=>227|29=>172|30=>200|31=>201|32=>202|33=>203|35=>139|34=>217|36=>218|37=>219|38=>220|39=>229|40=>230|n=>n,fun|9=>9|3=>3|22=>156|24=>113|25=>157|4=>4|34=>236|5=>5|36=>141|37=>89|0=>0|39=>238|21=>21|44=>258|47=>115|50=>286|48=>284|2=>2|52=>250|55=>252|59=>266|60=>178|20=>20|61=>267|65=>303|66=>304|67=>95|n=>n,fun|0=>1|1=>2|2=>3|3=>4|4=>5|n=>n⟩
theorem Tryz.laysPu14:Go.Proofs.LaysPu.n14 Tryz.prog Tryz.laysPu14_ren:={
  mixed:=by kernel_rfl
  f14:=Tryz.func104.trans (congrArg some (by kernel_rfl))
  f16:=Tryz.func156.trans (congrArg some (by kernel_rfl))
  f17:=Tryz.func157.trans (congrArg some (by kernel_rfl))
  f19:=Tryz.func181.trans (congrArg some (by kernel_rfl))
  f20:=Tryz.func182.trans (congrArg some (by kernel_rfl))
  f21:=Tryz.func183.trans (congrArg some (by kernel_rfl))
  f22:=Tryz.func184.trans (congrArg some (by kernel_rfl))
  f23:=Tryz.func185.trans (congrArg some (by kernel_rfl))
  f24:=Tryz.func186.trans (congrArg some (by kernel_rfl))
  f25:=Tryz.func208.trans (congrArg some (by kernel_rfl))
  f26:=Tryz.func209.trans (congrArg some (by kernel_rfl))
  f27:=Tryz.func210.trans (congrArg some (by kernel_rfl))
  f28:=Tryz.func227.trans (congrArg some (by kernel_rfl))
  f29:=Tryz.func172.trans (congrArg some (by kernel_rfl))
  f30:=Tryz.func200.trans (congrArg some (by kernel_rfl))
  f31:=Tryz.func201.trans (congrArg some (by kernel_rfl))
  f32:=Tryz.func202.trans (congrArg some (by kernel_rfl))
  f33:=Tryz.func203.trans (congrArg some (by kernel_rfl))
  f34:=Tryz.func217.trans (congrArg some (by kernel_rfl))
  f35:=Tryz.func139.trans (congrArg some (by kernel_rfl))
  f36:=Tryz.func218.trans (congrArg some (by kernel_rfl))
  f37:=Tryz.func219.trans (congrArg some (by kernel_rfl))
  f38:=Tryz.func220.trans (congrArg some (by kernel_rfl))
  f39:=Tryz.func229.trans (congrArg some (by kernel_rfl))
  f40:=Tryz.func230.trans (congrArg some (by kernel_rfl))
  t0:=Tryz.underlying0
  a0:=Tryz.isAgg0
  z0:=Tryz.sizeOf0
  v0:=Tryz.zeroValue0
  i0:=by kernel_rfl
  t2:=Tryz.underlying2
  a2:=Tryz.isAgg2
  z2:=Tryz.sizeOf2
  v2:=Tryz.zeroValue2
  i2:=by kernel_rfl
  t3:=Tryz.underlying3
  a3:=Tryz.isAgg3
  z3:=Tryz.sizeOf3
  v3:=Tryz.zeroValue3
  i3:=by kernel_rfl
  t4:=Tryz.underlying4
  a4:=Tryz.isAgg4
  z4:=Tryz.sizeOf4
  v4:=Tryz.zeroValue4
  i4:=by kernel_rfl
  t5:=Tryz.underlying5
  a5:=Tryz.isAgg5
  z5:=Tryz.sizeOf5
  v5:=Tryz.zeroValue5
  i5:=by kernel_rfl
  t9:=Tryz.underlying9
  a9:=Tryz.isAgg9
  z9:=Tryz.sizeOf9
  v9:=Tryz.zeroValue9
  i9:=by kernel_rfl
  t20:=Tryz.underlying20
  a20:=Tryz.isAgg20
  z20:=Tryz.sizeOf20
  v20:=Tryz.zeroValue20
  i20:=by kernel_rfl
  t21:=Tryz.underlying21
  a21:=Tryz.isAgg21
  z21:=Tryz.sizeOf21
  v21:=Tryz.zeroValue21
  i21:=by kernel_rfl
  t22:=Tryz.underlying156
  a22:=Tryz.isAgg156
  z22:=Tryz.sizeOf156
  v22:=Tryz.zeroValue156
  i22:=by kernel_rfl
  t24:=Tryz.underlying113
  a24:=Tryz.isAgg113
  z24:=Tryz.sizeOf113
  v24:=Tryz.zeroValue113
  i24:=by kernel_rfl
  t25:=Tryz.underlying157
  a25:=Tryz.isAgg157
  z25:=Tryz.sizeOf157
  v25:=Tryz.zeroValue157
  i25:=by kernel_rfl
  t34:=Tryz.underlying236
  a34:=Tryz.isAgg236
  z34:=Tryz.sizeOf236
  v34:=Tryz.zeroValue236
  i34:=by kernel_rfl
  c34:=by kernel_rfl
  t36:=Tryz.underlying141
  a36:=Tryz.isAgg141
  z36:=Tryz.sizeOf141
  v36:=Tryz.zeroValue141
  i36:=by kernel_rfl
  t37:=Tryz.underlying89
  a37:=Tryz.isAgg89
  z37:=Tryz.sizeOf89
  v37:=Tryz.zeroValue89
  i37:=by kernel_rfl
  t39:=Tryz.underlying238
  a39:=Tryz.isAgg238
  z39:=Tryz.sizeOf238
  v39:=Tryz.zeroValue238
  i39:=by kernel_rfl
  t44:=Tryz.underlying258
  a44:=Tryz.isAgg258
  z44:=Tryz.sizeOf258
  v44:=Tryz.zeroValue258
  i44:=by kernel_rfl
  t47:=Tryz.underlying115
  a47:=Tryz.isAgg115
  z47:=Tryz.sizeOf115
  v47:=Tryz.zeroValue115
  i47:=by kernel_rfl
  t48:=Tryz.underlying284
  a48:=Tryz.isAgg284
  z48:=Tryz.sizeOf284
  v48:=Tryz.zeroValue284
  i48:=by kernel_rfl
  t50:=Tryz.underlying286
  a50:=Tryz.isAgg286
  z50:=Tryz.sizeOf286
  v50:=Tryz.zeroValue286
  i50:=by kernel_rfl
  t52:=Tryz.underlying250
  a52:=Tryz.isAgg250
  z52:=Tryz.sizeOf250
  v52:=Tryz.zeroValue250
  i52:=by kernel_rfl
  t55:=Tryz.underlying252
  a55:=Tryz.isAgg252
  z55:=Tryz.sizeOf252
  v55:=Tryz.zeroValue252
  i55:=by kernel_rfl
  t59:=Tryz.underlying266
  a59:=Tryz.isAgg266
  z59:=Tryz.sizeOf266
  v59:=Tryz.zeroValue266
  i59:=by kernel_rfl
  t60:=Tryz.underlying178
  a60:=Tryz.isAgg178
  z60:=Tryz.sizeOf178
  v60:=Tryz.zeroValue178
  i60:=by kernel_rfl
  t61:=Tryz.underlying267
  a61:=Tryz.isAgg267
  z61:=Tryz.sizeOf267
  t65:=Tryz.underlying303
  a65:=Tryz.isAgg303
  z65:=Tryz.sizeOf303
  v65:=Tryz.zeroValue303
  i65:=by kernel_rfl
  t66:=Tryz.underlying304
  a66:=Tryz.isAgg304
  z66:=Tryz.sizeOf304
  v66:=Tryz.zeroValue304
  i66:=by kernel_rfl
  t67:=Tryz.underlying95
  a67:=Tryz.isAgg95
  z67:=Tryz.sizeOf95
  v67:=Tryz.zeroValue95
  i67:=by kernel_rfl
  g0:=by kernel_rfl
  m0:=by kernel_rfl
  g1:=by kernel_rfl
  m1:=by kernel_rfl
  g2:=by kernel_rfl
  m2:=by kernel_rfl
  g3:=by kernel_rfl
  m3:=by kernel_rfl
  g4:=by kernel_rfl
  m4:=by kernel_rfl}
open Go.RowKit in
theorem Tryz.strconv_ParseUint_10_at64_ok(s:ByteArray)(hmax:s.size<=9223372036854775806)(u:Nat)(h:Lib.parseUintB 64 s.data.toList = .ok u)(w:World):
    Calls Tryz.prog 104 #[.string s,.int .i64 10,.int .i64 64] w fun e w'=>e = .returned (.tuple #[.int .u64 u,.nilIface])/\(w'=w\/w'=Lib.bytesWorld w 5 s):=Any.strconv_ParseUint_10_at64_ok Tryz.laysPu14 s hmax u h w
open Go.RowKit in
theorem Tryz.strconv_ParseUint_10_at64_range(s:ByteArray)(hlim:s.size<=281474976710656)(h:Lib.parseUintB 64 s.data.toList = .range)(ev:Value)(w:World)(hv:w.cell? ⟨2,0,none⟩=some ev)(hev:ev = .nilIface\/∃te pe,ev = .iface te pe):
    Calls Tryz.prog 104 #[.string s,.int .i64 10,.int .i64 64] w fun e w'=>∃N,e = .returned (.tuple #[.int .u64 18446744073709551615,.iface 238 (.pointer (some ⟨N,0,none⟩))])/\w.heap.size<=N/\w'.heap[N]? = some (.cells #[.string ⟨#[80,97,114,115,101,85,105,110,116]⟩,.string s,ev] 258 (0,0))/\Below w.heap.size w w':=Any.strconv_ParseUint_10_at64_range Tryz.laysPu14 s hlim h ev w hv hev
def Tryz.lays143_ren:Go.Shelf.Ren:=⟨fun|143=>109|219=>159|217=>106|225=>187|224=>188|267=>189|266=>158|314=>211|n=>n,fun|9=>9|3=>3|4=>4|5=>5|46=>141|146=>227|51=>178|n=>n,fun|1=>0|n=>n⟩
theorem Tryz.lays143:Go.Proofs.Lays.n143 Tryz.prog Tryz.lays143_ren:={
  mixed:=by kernel_rfl
  f143:=Tryz.func109.trans (congrArg some (by kernel_rfl))
  f217:=Tryz.func106.trans (congrArg some (by kernel_rfl))
  f219:=Tryz.func159.trans (congrArg some (by kernel_rfl))
  f224:=Tryz.func188.trans (congrArg some (by kernel_rfl))
  f225:=Tryz.func187.trans (congrArg some (by kernel_rfl))
  f266:=Tryz.func158.trans (congrArg some (by kernel_rfl))
  f267:=Tryz.func189.trans (congrArg some (by kernel_rfl))
  f314:=Tryz.func211.trans (congrArg some (by kernel_rfl))
  t3:=Tryz.underlying3
  a3:=Tryz.isAgg3
  z3:=Tryz.sizeOf3
  v3:=Tryz.zeroValue3
  t4:=Tryz.underlying4
  a4:=Tryz.isAgg4
  z4:=Tryz.sizeOf4
  v4:=Tryz.zeroValue4
  t5:=Tryz.underlying5
  a5:=Tryz.isAgg5
  z5:=Tryz.sizeOf5
  v5:=Tryz.zeroValue5
  t9:=Tryz.underlying9
  a9:=Tryz.isAgg9
  z9:=Tryz.sizeOf9
  v9:=Tryz.zeroValue9
  t46:=Tryz.underlying141
  a46:=Tryz.isAgg141
  z46:=Tryz.sizeOf141
  v46:=Tryz.zeroValue141
  t51:=Tryz.underlying178
  a51:=Tryz.isAgg178
  z51:=Tryz.sizeOf178
  v51:=Tryz.zeroValue178
  t146:=Tryz.underlying227
  a146:=Tryz.isAgg227
  z146:=Tryz.sizeOf227
  v146:=Tryz.zeroValue227
  g1:=by kernel_rfl}
open Go.RowKit Go.Lib in
theorem Tryz.strings_Index_one(s:ByteArray)(c:UInt8)(w:World):
    Calls Tryz.prog 109 #[.string s,.string ⟨#[c]⟩] w fun e w'=>e = .returned (.int .i64 (Lib.indexByte s.data.toList c))/\w'=w:=Any.strings_Index_one Tryz.lays143 s c w
def Tryz.lays144_ren:Go.Shelf.Ren:=⟨fun|144=>151|143=>109|219=>159|217=>106|225=>187|224=>188|267=>189|266=>158|314=>211|n=>n,fun|9=>9|4=>4|3=>3|5=>5|46=>141|146=>227|51=>178|n=>n,fun|1=>0|n=>n⟩
theorem Tryz.lays144:Go.Proofs.Lays.n144 Tryz.prog Tryz.lays144_ren:={
  mixed:=by kernel_rfl
  f143:=Tryz.func109.trans (congrArg some (by kernel_rfl))
  f144:=Tryz.func151.trans (congrArg some (by kernel_rfl))
  f217:=Tryz.func106.trans (congrArg some (by kernel_rfl))
  f219:=Tryz.func159.trans (congrArg some (by kernel_rfl))
  f224:=Tryz.func188.trans (congrArg some (by kernel_rfl))
  f225:=Tryz.func187.trans (congrArg some (by kernel_rfl))
  f266:=Tryz.func158.trans (congrArg some (by kernel_rfl))
  f267:=Tryz.func189.trans (congrArg some (by kernel_rfl))
  f314:=Tryz.func211.trans (congrArg some (by kernel_rfl))
  t3:=Tryz.underlying3
  a3:=Tryz.isAgg3
  z3:=Tryz.sizeOf3
  v3:=Tryz.zeroValue3
  t4:=Tryz.underlying4
  a4:=Tryz.isAgg4
  z4:=Tryz.sizeOf4
  v4:=Tryz.zeroValue4
  t5:=Tryz.underlying5
  a5:=Tryz.isAgg5
  z5:=Tryz.sizeOf5
  v5:=Tryz.zeroValue5
  t9:=Tryz.underlying9
  a9:=Tryz.isAgg9
  z9:=Tryz.sizeOf9
  v9:=Tryz.zeroValue9
  t46:=Tryz.underlying141
  a46:=Tryz.isAgg141
  z46:=Tryz.sizeOf141
  v46:=Tryz.zeroValue141
  t51:=Tryz.underlying178
  a51:=Tryz.isAgg178
  z51:=Tryz.sizeOf178
  v51:=Tryz.zeroValue178
  t146:=Tryz.underlying227
  a146:=Tryz.isAgg227
  z146:=Tryz.sizeOf227
  v146:=Tryz.zeroValue227
  g1:=by kernel_rfl}
open Go.RowKit Go.Lib in
theorem Tryz.strings_Contains(s sub:ByteArray)(m:Int)(w:World)(hs:s.size<4294967281)(hm:w.cell? ⟨0,0,none⟩=some (.int .i64 m)):
    Calls Tryz.prog 151 #[.string s,.string sub] w fun e w'=>e = .returned (.bool (Lib.contains s.data.toList sub.data.toList))/\w'=w:=Any.strings_Contains Tryz.lays144 s sub m w hs hm
def Tryz.lays138_ren:Go.Shelf.Ren:=⟨fun|138=>62|195=>107|218=>108|143=>109|219=>159|217=>106|225=>187|224=>188|267=>189|266=>158|314=>211|n=>n,fun|9=>9|3=>3|4=>4|5=>5|0=>0|46=>141|146=>227|51=>178|n=>n,fun|1=>0|n=>n⟩
theorem Tryz.lays138:Go.Proofs.Lays.n138 Tryz.prog Tryz.lays138_ren:={
  mixed:=by kernel_rfl
  f138:=Tryz.func62.trans (congrArg some (by kernel_rfl))
  f143:=Tryz.func109.trans (congrArg some (by kernel_rfl))
  f195:=Tryz.func107.trans (congrArg some (by kernel_rfl))
  f217:=Tryz.func106.trans (congrArg some (by kernel_rfl))
  f218:=Tryz.func108.trans (congrArg some (by kernel_rfl))
  f219:=Tryz.func159.trans (congrArg some (by kernel_rfl))
  f224:=Tryz.func188.trans (congrArg some (by kernel_rfl))
  f225:=Tryz.func187.trans (congrArg some (by kernel_rfl))
  f266:=Tryz.func158.trans (congrArg some (by kernel_rfl))
  f267:=Tryz.func189.trans (congrArg some (by kernel_rfl))
  f314:=Tryz.func211.trans (congrArg some (by kernel_rfl))
  t0:=Tryz.underlying0
  a0:=Tryz.isAgg0
  z0:=Tryz.sizeOf0
  v0:=Tryz.zeroValue0
  t3:=Tryz.underlying3
  a3:=Tryz.isAgg3
  z3:=Tryz.sizeOf3
  v3:=Tryz.zeroValue3
  t4:=Tryz.underlying4
  a4:=Tryz.isAgg4
  z4:=Tryz.sizeOf4
  v4:=Tryz.zeroValue4
  t5:=Tryz.underlying5
  a5:=Tryz.isAgg5
  z5:=Tryz.sizeOf5
  v5:=Tryz.zeroValue5
  t9:=Tryz.underlying9
  a9:=Tryz.isAgg9
  z9:=Tryz.sizeOf9
  v9:=Tryz.zeroValue9
  t46:=Tryz.underlying141
  a46:=Tryz.isAgg141
  z46:=Tryz.sizeOf141
  v46:=Tryz.zeroValue141
  t51:=Tryz.underlying178
  a51:=Tryz.isAgg178
  z51:=Tryz.sizeOf178
  v51:=Tryz.zeroValue178
  t146:=Tryz.underlying227
  a146:=Tryz.isAgg227
  z146:=Tryz.sizeOf227
  v146:=Tryz.zeroValue227
  g1:=by kernel_rfl}
open Go.RowKit Go.Lib in
theorem Tryz.strings_Count_one(s:ByteArray)(c:UInt8)(w:World):
    Calls Tryz.prog 62 #[.string s,.string ⟨#[c]⟩] w fun e w'=>e = .returned (.int .i64 (Lib.countByte s.data.toList c))/\w'=w:=Any.strings_Count_one Tryz.lays138 s c w
open Go.RowKit Go.Lib in
theorem Tryz.strings_Count(s sub:ByteArray)(m:Int)(w:World)(hs:s.size<4294967281)(hm:w.cell? ⟨0,0,none⟩=some (.int .i64 m))(h2:2<=sub.size):
    Calls Tryz.prog 62 #[.string s,.string sub] w fun e w'=>e = .returned (.int .i64 (Lib.countB s sub))/\w'=w:=Any.strings_Count Tryz.lays138 s sub m w hs hm h2
def Tryz.lays190_ren:Go.Shelf.Ren:=⟨fun|190=>37|125=>81|258=>80|128=>138|129=>139|302=>129|303=>130|304=>131|305=>132|306=>133|307=>134|308=>135|309=>136|310=>137|333=>165|329=>166|330=>167|334=>168|335=>169|336=>170|344=>199|n=>n,fun|31=>51|9=>9|3=>3|46=>141|0=>0|51=>178|53=>156|4=>4|183=>171|182=>170|131=>175|5=>5|218=>207|222=>206|228=>246|229=>247|n=>n,fun|n=>n⟩
theorem Tryz.lays190:Go.Proofs.Lays.n190 Tryz.prog Tryz.lays190_ren:={
  mixed:=by kernel_rfl
  f125:=Tryz.func81.trans (congrArg some (by kernel_rfl))
  f128:=Tryz.func138.trans (congrArg some (by kernel_rfl))
  f129:=Tryz.func139.trans (congrArg some (by kernel_rfl))
  f190:=Tryz.func37.trans (congrArg some (by kernel_rfl))
  f258:=Tryz.func80.trans (congrArg some (by kernel_rfl))
  f302:=Tryz.func129.trans (congrArg some (by kernel_rfl))
  f303:=Tryz.func130.trans (congrArg some (by kernel_rfl))
  f304:=Tryz.func131.trans (congrArg some (by kernel_rfl))
  f305:=Tryz.func132.trans (congrArg some (by kernel_rfl))
  f306:=Tryz.func133.trans (congrArg some (by kernel_rfl))
  f307:=Tryz.func134.trans (congrArg some (by kernel_rfl))
  f308:=Tryz.func135.trans (congrArg some (by kernel_rfl))
  f309:=Tryz.func136.trans (congrArg some (by kernel_rfl))
  f310:=Tryz.func137.trans (congrArg some (by kernel_rfl))
  f329:=Tryz.func166.trans (congrArg some (by kernel_rfl))
  f330:=Tryz.func167.trans (congrArg some (by kernel_rfl))
  f333:=Tryz.func165.trans (congrArg some (by kernel_rfl))
  f334:=Tryz.func168.trans (congrArg some (by kernel_rfl))
  f335:=Tryz.func169.trans (congrArg some (by kernel_rfl))
  f336:=Tryz.func170.trans (congrArg some (by kernel_rfl))
  f344:=Tryz.func199.trans (congrArg some (by kernel_rfl))
  t0:=Tryz.underlying0
  a0:=Tryz.isAgg0
  z0:=Tryz.sizeOf0
  v0:=Tryz.zeroValue0
  t3:=Tryz.underlying3
  a3:=Tryz.isAgg3
  z3:=Tryz.sizeOf3
  v3:=Tryz.zeroValue3
  t4:=Tryz.underlying4
  a4:=Tryz.isAgg4
  z4:=Tryz.sizeOf4
  v4:=Tryz.zeroValue4
  t5:=Tryz.underlying5
  a5:=Tryz.isAgg5
  z5:=Tryz.sizeOf5
  v5:=Tryz.zeroValue5
  t9:=Tryz.underlying9
  a9:=Tryz.isAgg9
  z9:=Tryz.sizeOf9
  v9:=Tryz.zeroValue9
  t31:=Tryz.underlying51
  a31:=Tryz.isAgg51
  z31:=Tryz.sizeOf51
  v31:=Tryz.zeroValue51
  t46:=Tryz.underlying141
  a46:=Tryz.isAgg141
  z46:=Tryz.sizeOf141
  v46:=Tryz.zeroValue141
  t51:=Tryz.underlying178
  a51:=Tryz.isAgg178
  z51:=Tryz.sizeOf178
  v51:=Tryz.zeroValue178
  t53:=Tryz.underlying156
  a53:=Tryz.isAgg156
  z53:=Tryz.sizeOf156
  v53:=Tryz.zeroValue156
  t131:=Tryz.underlying175
  a131:=Tryz.isAgg175
  z131:=Tryz.sizeOf175
  v131:=Tryz.zeroValue175
  t182:=Tryz.underlying170
  a182:=Tryz.isAgg170
  z182:=Tryz.sizeOf170
  v182:=Tryz.zeroValue170
  t183:=Tryz.underlying171
  a183:=Tryz.isAgg171
  z183:=Tryz.sizeOf171
  v183:=Tryz.zeroValue171
  t218:=Tryz.underlying207
  a218:=Tryz.isAgg207
  z218:=Tryz.sizeOf207
  v218:=Tryz.zeroValue207
  t222:=Tryz.underlying206
  a222:=Tryz.isAgg206
  z222:=Tryz.sizeOf206
  v222:=Tryz.zeroValue206
  t228:=Tryz.underlying246
  a228:=Tryz.isAgg246
  z228:=Tryz.sizeOf246
  v228:=Tryz.zeroValue246
  t229:=Tryz.underlying247
  a229:=Tryz.isAgg247
  z229:=Tryz.sizeOf247
  v229:=Tryz.zeroValue247}
open Go.Sort Go.RowKit in
theorem Tryz.slices_Sort_string(blk off cap:Nat)(ss:List (List UInt8))(w:World)(hH:Holds encStr w blk off ss.toArray)(hblk:blk<w.heap.size)(hsz:ss.length<4611686018427387904):
    Calls Tryz.prog 37 #[.slice (some ⟨blk,off,none⟩) ss.length cap] w fun e w'=>
      e = .returned (.tuple #[])/\∃n os,w'=grow (putRow encStr (Sort.ahead w n) blk off (ss.mergeSort fun x y=>decide (x<=y)).toArray) os:=Any.slices_Sort_string Tryz.lays190 blk off cap ss w hH hblk hsz
def Tryz.lays149_ren:Go.Shelf.Ren:=⟨fun|149=>63|222=>110|n=>n,fun|9=>9|5=>5|3=>3|4=>4|n=>n,fun|n=>n⟩
theorem Tryz.lays149:Go.Proofs.Lays.n149 Tryz.prog Tryz.lays149_ren:={
  mixed:=by kernel_rfl
  f149:=Tryz.func63.trans (congrArg some (by kernel_rfl))
  f222:=Tryz.func110.trans (congrArg some (by kernel_rfl))
  t3:=Tryz.underlying3
  a3:=Tryz.isAgg3
  z3:=Tryz.sizeOf3
  v3:=Tryz.zeroValue3
  t4:=Tryz.underlying4
  a4:=Tryz.isAgg4
  z4:=Tryz.sizeOf4
  v4:=Tryz.zeroValue4
  t5:=Tryz.underlying5
  a5:=Tryz.isAgg5
  z5:=Tryz.sizeOf5
  v5:=Tryz.zeroValue5
  t9:=Tryz.underlying9
  a9:=Tryz.isAgg9
  z9:=Tryz.sizeOf9
  v9:=Tryz.zeroValue9}
open Go.RowKit Go.Lib in
theorem Tryz.strings_LastIndexByte(s:ByteArray)(c:Int)(hs:s.size<4611686018427387904)(w:World):
    Calls Tryz.prog 63 #[.string s,.int .u8 c] w fun e w'=>e = .returned (.int .i64 (Lib.lastIndexByte s c))/\w'=w:=Any.strings_LastIndexByte Tryz.lays149 s c hs w
def Tryz.laysGw17_ren:Go.Shelf.Ren:=⟨fun|17=>299|15=>304|20=>305|n=>n,fun|9=>9|23=>352|4=>4|3=>3|0=>0|21=>21|n=>n,fun|n=>n⟩
theorem Tryz.laysGw17:Go.Proofs.LaysGw.n17 Tryz.prog Tryz.laysGw17_ren:={
  mixed:=by kernel_rfl
  f15:=Tryz.func304.trans (congrArg some (by kernel_rfl))
  f17:=Tryz.func299.trans (congrArg some (by kernel_rfl))
  f20:=Tryz.func305.trans (congrArg some (by kernel_rfl))
  t0:=Tryz.underlying0
  a0:=Tryz.isAgg0
  z0:=Tryz.sizeOf0
  v0:=Tryz.zeroValue0
  i0:=by kernel_rfl
  t3:=Tryz.underlying3
  a3:=Tryz.isAgg3
  z3:=Tryz.sizeOf3
  v3:=Tryz.zeroValue3
  i3:=by kernel_rfl
  t4:=Tryz.underlying4
  a4:=Tryz.isAgg4
  z4:=Tryz.sizeOf4
  v4:=Tryz.zeroValue4
  i4:=by kernel_rfl
  t9:=Tryz.underlying9
  a9:=Tryz.isAgg9
  z9:=Tryz.sizeOf9
  v9:=Tryz.zeroValue9
  i9:=by kernel_rfl
  t21:=Tryz.underlying21
  a21:=Tryz.isAgg21
  z21:=Tryz.sizeOf21
  v21:=Tryz.zeroValue21
  i21:=by kernel_rfl
  t23:=Tryz.underlying352
  a23:=Tryz.isAgg352
  z23:=Tryz.sizeOf352
  v23:=Tryz.zeroValue352
  i23:=by kernel_rfl}
def Tryz.lays99_ren:Go.Shelf.Ren:=⟨fun|99=>60|206=>105|n=>n,fun|9=>9|4=>4|3=>3|n=>n,fun|n=>n⟩
theorem Tryz.lays99:Go.Proofs.Lays.n99 Tryz.prog Tryz.lays99_ren:={
  mixed:=by kernel_rfl
  f99:=Tryz.func60.trans (congrArg some (by kernel_rfl))
  f206:=Tryz.func105.trans (congrArg some (by kernel_rfl))
  t3:=Tryz.underlying3
  a3:=Tryz.isAgg3
  z3:=Tryz.sizeOf3
  v3:=Tryz.zeroValue3
  t4:=Tryz.underlying4
  a4:=Tryz.isAgg4
  z4:=Tryz.sizeOf4
  v4:=Tryz.zeroValue4
  t9:=Tryz.underlying9
  a9:=Tryz.isAgg9
  z9:=Tryz.sizeOf9
  v9:=Tryz.zeroValue9}
open Go.RowKit Go.Lib in
theorem Tryz.strings_HasPrefix(s p:ByteArray)(w:World):
    Calls Tryz.prog 60 #[.string s,.string p] w fun e w'=>e = .returned (.bool (Lib.hasPrefix s.data.toList p.data.toList))/\w'=w:=Any.strings_HasPrefix Tryz.lays99 s p w
def Tryz.lays102_ren:Go.Shelf.Ren:=⟨fun|102=>278|209=>289|207=>295|n=>n,fun|9=>9|4=>4|3=>3|n=>n,fun|n=>n⟩
theorem Tryz.lays102:Go.Proofs.Lays.n102 Tryz.prog Tryz.lays102_ren:={
  mixed:=by kernel_rfl
  f102:=Tryz.func278.trans (congrArg some (by kernel_rfl))
  f207:=Tryz.func295.trans (congrArg some (by kernel_rfl))
  f209:=Tryz.func289.trans (congrArg some (by kernel_rfl))
  t3:=Tryz.underlying3
  a3:=Tryz.isAgg3
  z3:=Tryz.sizeOf3
  v3:=Tryz.zeroValue3
  t4:=Tryz.underlying4
  a4:=Tryz.isAgg4
  z4:=Tryz.sizeOf4
  v4:=Tryz.zeroValue4
  t9:=Tryz.underlying9
  a9:=Tryz.isAgg9
  z9:=Tryz.sizeOf9
  v9:=Tryz.zeroValue9}
open Go.RowKit Go.Lib in
theorem Tryz.strings_TrimSuffix(s p:ByteArray)(w:World)(hs:s.size<=9223372036854775807):
    Calls Tryz.prog 278 #[.string s,.string p] w fun e w'=>e = .returned (.string ⟨(Lib.trimSuffix s.data.toList p.data.toList).toArray⟩)/\w'=w:=Any.strings_TrimSuffix Tryz.lays102 s p w hs
def Tryz.lays155_ren:Go.Shelf.Ren:=⟨fun|155=>286|154=>292|138=>62|165=>146|143=>109|166=>90|197=>297|169=>28|195=>107|218=>108|240=>97|241=>177|219=>159|260=>302|276=>150|277=>207|217=>106|225=>187|224=>188|267=>189|266=>158|314=>211|n=>n,fun|9=>9|3=>3|4=>4|72=>91|0=>0|76=>145|105=>348|21=>21|5=>5|70=>88|20=>20|37=>89|75=>113|127=>115|164=>191|46=>141|119=>277|139=>356|138=>355|146=>227|51=>178|80=>95|n=>n,fun|1=>0|3=>6|4=>7|n=>n⟩
theorem Tryz.lays155:Go.Proofs.Lays.n155 Tryz.prog Tryz.lays155_ren:={
  mixed:=by kernel_rfl
  f138:=Tryz.func62.trans (congrArg some (by kernel_rfl))
  f143:=Tryz.func109.trans (congrArg some (by kernel_rfl))
  f154:=Tryz.func292.trans (congrArg some (by kernel_rfl))
  f155:=Tryz.func286.trans (congrArg some (by kernel_rfl))
  f165:=Tryz.func146.trans (congrArg some (by kernel_rfl))
  f166:=Tryz.func90.trans (congrArg some (by kernel_rfl))
  f169:=Tryz.func28.trans (congrArg some (by kernel_rfl))
  f195:=Tryz.func107.trans (congrArg some (by kernel_rfl))
  f197:=Tryz.func297.trans (congrArg some (by kernel_rfl))
  f217:=Tryz.func106.trans (congrArg some (by kernel_rfl))
  f218:=Tryz.func108.trans (congrArg some (by kernel_rfl))
  f219:=Tryz.func159.trans (congrArg some (by kernel_rfl))
  f224:=Tryz.func188.trans (congrArg some (by kernel_rfl))
  f225:=Tryz.func187.trans (congrArg some (by kernel_rfl))
  f240:=Tryz.func97.trans (congrArg some (by kernel_rfl))
  f241:=Tryz.func177.trans (congrArg some (by kernel_rfl))
  f260:=Tryz.func302.trans (congrArg some (by kernel_rfl))
  f266:=Tryz.func158.trans (congrArg some (by kernel_rfl))
  f267:=Tryz.func189.trans (congrArg some (by kernel_rfl))
  f276:=Tryz.func150.trans (congrArg some (by kernel_rfl))
  f277:=Tryz.func207.trans (congrArg some (by kernel_rfl))
  f314:=Tryz.func211.trans (congrArg some (by kernel_rfl))
  t0:=Tryz.underlying0
  a0:=Tryz.isAgg0
  z0:=Tryz.sizeOf0
  v0:=Tryz.zeroValue0
  t3:=Tryz.underlying3
  a3:=Tryz.isAgg3
  z3:=Tryz.sizeOf3
  v3:=Tryz.zeroValue3
  t4:=Tryz.underlying4
  a4:=Tryz.isAgg4
  z4:=Tryz.sizeOf4
  v4:=Tryz.zeroValue4
  t5:=Tryz.underlying5
  a5:=Tryz.isAgg5
  z5:=Tryz.sizeOf5
  v5:=Tryz.zeroValue5
  t9:=Tryz.underlying9
  a9:=Tryz.isAgg9
  z9:=Tryz.sizeOf9
  v9:=Tryz.zeroValue9
  t20:=Tryz.underlying20
  a20:=Tryz.isAgg20
  z20:=Tryz.sizeOf20
  v20:=Tryz.zeroValue20
  t21:=Tryz.underlying21
  a21:=Tryz.isAgg21
  z21:=Tryz.sizeOf21
  v21:=Tryz.zeroValue21
  t37:=Tryz.underlying89
  a37:=Tryz.isAgg89
  z37:=Tryz.sizeOf89
  v37:=Tryz.zeroValue89
  t46:=Tryz.underlying141
  a46:=Tryz.isAgg141
  z46:=Tryz.sizeOf141
  v46:=Tryz.zeroValue141
  t51:=Tryz.underlying178
  a51:=Tryz.isAgg178
  z51:=Tryz.sizeOf178
  v51:=Tryz.zeroValue178
  t70:=Tryz.underlying88
  a70:=Tryz.isAgg88
  z70:=Tryz.sizeOf88
  v70:=Tryz.zeroValue88
  t72:=Tryz.underlying91
  a72:=Tryz.isAgg91
  z72:=Tryz.sizeOf91
  v72:=Tryz.zeroValue91
  t75:=Tryz.underlying113
  a75:=Tryz.isAgg113
  z75:=Tryz.sizeOf113
  v75:=Tryz.zeroValue113
  t76:=Tryz.underlying145
  a76:=Tryz.isAgg145
  z76:=Tryz.sizeOf145
  v76:=Tryz.zeroValue145
  t105:=Tryz.underlying348
  a105:=Tryz.isAgg348
  z105:=Tryz.sizeOf348
  v105:=Tryz.zeroValue348
  t119:=Tryz.underlying277
  a119:=Tryz.isAgg277
  z119:=Tryz.sizeOf277
  t127:=Tryz.underlying115
  a127:=Tryz.isAgg115
  z127:=Tryz.sizeOf115
  v127:=Tryz.zeroValue115
  t138:=Tryz.underlying355
  a138:=Tryz.isAgg355
  z138:=Tryz.sizeOf355
  v138:=Tryz.zeroValue355
  t139:=Tryz.underlying356
  a139:=Tryz.isAgg356
  z139:=Tryz.sizeOf356
  v139:=Tryz.zeroValue356
  t146:=Tryz.underlying227
  a146:=Tryz.isAgg227
  z146:=Tryz.sizeOf227
  v146:=Tryz.zeroValue227
  t164:=Tryz.underlying191
  a164:=Tryz.isAgg191
  z164:=Tryz.sizeOf191
  v164:=Tryz.zeroValue191
  g1:=by kernel_rfl
  g3:=by kernel_rfl
  g4:=by kernel_rfl}
theorem Tryz.Builder_Extra_155:Builder.Extra Tryz.prog Tryz.lays155_ren:={
  sizeBuilder:=by kernel_rfl
  liesBuilder:=by kernel_rfl
  t5:=Tryz.underlying5
  a5:=Tryz.isAgg5
  z5:=Tryz.sizeOf5
  v5:=Tryz.zeroValue5
  infoByte:=by kernel_rfl
  cellsByte:=by kernel_rfl
  sizeByte:=by kernel_rfl
  neB5:=by decide}
open Go.RowKit Go.Lib in
theorem Tryz.strings_ReplaceAll(s old new:ByteArray)(m:Int)(w:World)(hs:s.size<4294967281)(hm:w.cell? ⟨0,0,none⟩=some (.int .i64 m))(h1:1<=old.size)(hlen:s.size+Lib.countB s old*new.size<=140737488355328):
    Calls Tryz.prog 286 #[.string s,.string old,.string new] w fun e w'=>
      e = .returned (.string ⟨(Lib.replaceAll s.data.toList old.data.toList new.data.toList).toArray⟩)/\Below w.heap.size w w':=Any.strings_ReplaceAll Tryz.lays155 Tryz.Builder_Extra_155 s old new m w hs hm h1 hlen
def Tryz.lays105_ren:Go.Shelf.Ren:=⟨fun|105=>91|212=>145|99=>60|165=>146|166=>90|170=>147|169=>28|263=>175|264=>176|206=>105|240=>97|241=>177|276=>150|277=>207|n=>n,fun|9=>9|3=>3|4=>4|20=>20|0=>0|46=>141|109=>186|5=>5|72=>91|76=>145|51=>178|146=>227|53=>156|148=>229|70=>88|37=>89|75=>113|127=>115|164=>191|80=>95|n=>n,fun|n=>n⟩
theorem Tryz.lays105:Go.Proofs.Lays.n105 Tryz.prog Tryz.lays105_ren:={
  mixed:=by kernel_rfl
  f99:=Tryz.func60.trans (congrArg some (by kernel_rfl))
  f105:=Tryz.func91.trans (congrArg some (by kernel_rfl))
  f165:=Tryz.func146.trans (congrArg some (by kernel_rfl))
  f166:=Tryz.func90.trans (congrArg some (by kernel_rfl))
  f169:=Tryz.func28.trans (congrArg some (by kernel_rfl))
  f170:=Tryz.func147.trans (congrArg some (by kernel_rfl))
  f206:=Tryz.func105.trans (congrArg some (by kernel_rfl))
  f212:=Tryz.func145.trans (congrArg some (by kernel_rfl))
  f240:=Tryz.func97.trans (congrArg some (by kernel_rfl))
  f241:=Tryz.func177.trans (congrArg some (by kernel_rfl))
  f263:=Tryz.func175.trans (congrArg some (by kernel_rfl))
  f264:=Tryz.func176.trans (congrArg some (by kernel_rfl))
  f276:=Tryz.func150.trans (congrArg some (by kernel_rfl))
  f277:=Tryz.func207.trans (congrArg some (by kernel_rfl))
  t0:=Tryz.underlying0
  a0:=Tryz.isAgg0
  z0:=Tryz.sizeOf0
  v0:=Tryz.zeroValue0
  t3:=Tryz.underlying3
  a3:=Tryz.isAgg3
  z3:=Tryz.sizeOf3
  v3:=Tryz.zeroValue3
  t4:=Tryz.underlying4
  a4:=Tryz.isAgg4
  z4:=Tryz.sizeOf4
  v4:=Tryz.zeroValue4
  t5:=Tryz.underlying5
  a5:=Tryz.isAgg5
  z5:=Tryz.sizeOf5
  v5:=Tryz.zeroValue5
  t9:=Tryz.underlying9
  a9:=Tryz.isAgg9
  z9:=Tryz.sizeOf9
  v9:=Tryz.zeroValue9
  t20:=Tryz.underlying20
  a20:=Tryz.isAgg20
  z20:=Tryz.sizeOf20
  v20:=Tryz.zeroValue20
  t37:=Tryz.underlying89
  a37:=Tryz.isAgg89
  z37:=Tryz.sizeOf89
  v37:=Tryz.zeroValue89
  t46:=Tryz.underlying141
  a46:=Tryz.isAgg141
  z46:=Tryz.sizeOf141
  v46:=Tryz.zeroValue141
  t51:=Tryz.underlying178
  a51:=Tryz.isAgg178
  z51:=Tryz.sizeOf178
  v51:=Tryz.zeroValue178
  t53:=Tryz.underlying156
  a53:=Tryz.isAgg156
  z53:=Tryz.sizeOf156
  v53:=Tryz.zeroValue156
  t70:=Tryz.underlying88
  a70:=Tryz.isAgg88
  z70:=Tryz.sizeOf88
  v70:=Tryz.zeroValue88
  t72:=Tryz.underlying91
  a72:=Tryz.isAgg91
  z72:=Tryz.sizeOf91
  v72:=Tryz.zeroValue91
  t75:=Tryz.underlying113
  a75:=Tryz.isAgg113
  z75:=Tryz.sizeOf113
  v75:=Tryz.zeroValue113
  t76:=Tryz.underlying145
  a76:=Tryz.isAgg145
  z76:=Tryz.sizeOf145
  v76:=Tryz.zeroValue145
  t109:=Tryz.underlying186
  a109:=Tryz.isAgg186
  z109:=Tryz.sizeOf186
  v109:=Tryz.zeroValue186
  t127:=Tryz.underlying115
  a127:=Tryz.isAgg115
  z127:=Tryz.sizeOf115
  v127:=Tryz.zeroValue115
  t146:=Tryz.underlying227
  a146:=Tryz.isAgg227
  z146:=Tryz.sizeOf227
  v146:=Tryz.zeroValue227
  t148:=Tryz.underlying229
  a148:=Tryz.isAgg229
  z148:=Tryz.sizeOf229
  v148:=Tryz.zeroValue229
  t164:=Tryz.underlying191
  a164:=Tryz.isAgg191
  z164:=Tryz.sizeOf191
  v164:=Tryz.zeroValue191}
theorem Tryz.Builder_Extra_105:Builder.Extra Tryz.prog Tryz.lays105_ren:={
  sizeBuilder:=by kernel_rfl
  liesBuilder:=by kernel_rfl
  t5:=Tryz.underlying5
  a5:=Tryz.isAgg5
  z5:=Tryz.sizeOf5
  v5:=Tryz.zeroValue5
  infoByte:=by kernel_rfl
  cellsByte:=by kernel_rfl
  sizeByte:=by kernel_rfl
  neB5:=by decide}
open Go.RowKit Go.Lib in
theorem Tryz.strings_Repeat(s:ByteArray)(c:Nat)(w:World)(hc:c<=9223372036854775807)(hlen:s.size*c<=140737488355328):
    Calls Tryz.prog 91 #[.string s,.int .i64 c] w fun e w'=>e = .returned (.string ⟨(Lib.repeatL s.data.toList c).toArray⟩)/\Below w.heap.size w w':=Any.strings_Repeat Tryz.lays105 Tryz.Builder_Extra_105 s c w hc hlen
open Go.RowKit Go.Lib in
theorem Tryz.strings_ContainsFunc_grows(g:Nat)(lb:Array Value)(eg:∀args w,(callFunc g args).run Tryz.prog w = .ok (.enter g args) w)(p:Nat->Bool)(s:ByteArray)(w:World)(hp:PredGrows Tryz.prog g lb p w):
    Calls Tryz.prog 299 #[.string s,.func (.func g) #[] lb] w fun e w'=>e = .returned (.bool (decide (0<=Lib.idxFunc p true s)))/\Below w.heap.size w w':=Any.strings_ContainsFunc_grows Tryz.laysGw17 g lb eg p s w hp
def Tryz.lays110_ren:Go.Shelf.Ren:=⟨fun|110=>88|109=>144|n=>n,fun|31=>51|9=>9|4=>4|3=>3|0=>0|n=>n,fun|n=>n⟩
theorem Tryz.lays110:Go.Proofs.Lays.n110 Tryz.prog Tryz.lays110_ren:={
  mixed:=by kernel_rfl
  f109:=Tryz.func144.trans (congrArg some (by kernel_rfl))
  f110:=Tryz.func88.trans (congrArg some (by kernel_rfl))
  t0:=Tryz.underlying0
  a0:=Tryz.isAgg0
  z0:=Tryz.sizeOf0
  v0:=Tryz.zeroValue0
  t3:=Tryz.underlying3
  a3:=Tryz.isAgg3
  z3:=Tryz.sizeOf3
  v3:=Tryz.zeroValue3
  t4:=Tryz.underlying4
  a4:=Tryz.isAgg4
  z4:=Tryz.sizeOf4
  v4:=Tryz.zeroValue4
  t9:=Tryz.underlying9
  a9:=Tryz.isAgg9
  z9:=Tryz.sizeOf9
  v9:=Tryz.zeroValue9
  t31:=Tryz.underlying51
  a31:=Tryz.isAgg51
  z31:=Tryz.sizeOf51
  v31:=Tryz.zeroValue51}
open Go.Lib in
theorem Tryz.slices_Contains_string(b off n c:Nat)(zs:List ByteArray)(x:ByteArray)(w:World)(hz:n<=zs.length)(hbig:n<=9223372036854775807)(hc:∀j,j<zs.length->w.cell? ⟨b,off+j,none⟩=some (.string (zs.getD j ByteArray.empty))):
    Calls Tryz.prog 88 #[.slice (some ⟨b,off,none⟩) n c,.string x] w fun e w'=>e = .returned (.bool (Lib.containsS (zs.take n) x))/\w'=w:=Any.slices_Contains_string Tryz.lays110 b off n c zs x w hz hbig hc
open Go.Lib in
theorem Tryz.slices_Contains_string_empty(a:Option Addr)(c:Nat)(x:ByteArray)(w:World):
    Calls Tryz.prog 88 #[.slice a 0 c,.string x] w fun e w'=>e = .returned (.bool false)/\w'=w:=Any.slices_Contains_string_empty Tryz.lays110 a c x w
def Tryz.laysNm216_ren:Go.Shelf.Ren:=⟨fun|16=>39|n=>n,fun|24=>51|9=>9|4=>4|n=>n,fun|n=>n⟩
theorem Tryz.laysNm216:Go.Proofs.Lays2.n16 Tryz.prog Tryz.laysNm216_ren:={
  mixed:=by kernel_rfl
  f16:=Tryz.func39.trans (congrArg some (by kernel_rfl))
  t4:=Tryz.underlying4
  a4:=Tryz.isAgg4
  z4:=Tryz.sizeOf4
  v4:=Tryz.zeroValue4
  t9:=Tryz.underlying9
  a9:=Tryz.isAgg9
  z9:=Tryz.sizeOf9
  v9:=Tryz.zeroValue9
  t24:=Tryz.underlying51
  a24:=Tryz.isAgg51
  z24:=Tryz.sizeOf51
  v24:=Tryz.zeroValue51
  i9:=by kernel_rfl}
open Go.RowKit Go.Lib in
theorem Tryz.slices_Clone_string(b off n c:Nat)(zs:List ByteArray)(w:World)(hz:n<=zs.length)(hbig:n*16<=140737488355328)(hc:∀j,j<zs.length->w.cell? ⟨b,off+j,none⟩=some (.string (zs.getD j ByteArray.empty))):
    Calls Tryz.prog 39 #[.slice (some ⟨b,off,none⟩) n c] w fun e w'=>∃v',e = .returned v'/\w'.ownsRow w.heap.size 9 1 v' n ((zs.take n).map (Value.string))/\v' ≠ .slice none 0 0/\Below w.heap.size w w':=Any.slices_Clone_string Tryz.laysNm216 b off n c zs w hz hbig hc
open Go.RowKit Go.Lib in
theorem Tryz.slices_Clone_string_nil(n c:Nat)(w:World):
    Calls Tryz.prog 39 #[.slice none n c] w fun e w'=>e = .returned (.slice none 0 0)/\w'=w:=Any.slices_Clone_string_nil Tryz.laysNm216 n c w
open Go.RowKit Go.Lib in
theorem Tryz.slices_Clone_string_zero(a:Addr)(c:Nat)(w:World):
    Calls Tryz.prog 39 #[.slice (some a) 0 c] w fun e w'=>∃v',e = .returned v'/\w'.ownsRow w.heap.size 9 1 v' 0 []/\v' ≠ .slice none 0 0/\Below w.heap.size w w':=Any.slices_Clone_string_zero Tryz.laysNm216 a c w
open Go.RowKit Go.Sort in
theorem Tryz.slices_Sort_string_none(p:Option Addr)(cap:Nat)(w:World):
    Calls Tryz.prog 37 #[.slice p 0 cap] w fun e w'=>e = .returned (.tuple #[])/\w'=w:=Any.slices_Sort_string_none Tryz.lays190 p cap w
end Go.Proofs
