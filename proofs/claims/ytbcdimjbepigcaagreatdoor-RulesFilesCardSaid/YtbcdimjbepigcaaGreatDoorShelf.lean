/-
  DERIVED:THE SHELF's CONTRACTS AT THIS DUMP,IN PLAIN WORDS (tools/lay-plain.mjs out of 'TryzShelf.lean',which tools/lay-shelf.mjs wrote):THE SAME DECLARATIONS UNDER THE SAME NAMES: 'import','namespace','open','def','theorem' AND NOTHING ELSE:no command of the shelf's:FOR A HAND-IN. Each laying:the table of numbers ('.._ren') and one theorem,a field a fact of the dump's own or the kernel's comparison;each contract:ONE APPLICATION.
-/
import Derived.Shelf.Strings.Builder1
import Derived.Shelf.Strings.Builder2
import Derived.Shelf.Strings.OnBuilder
import Derived.Shelf.Small.Bits
import Derived.Shelf.Small.Strs
import Derived.Shelf.Strings.BuilderF
import Derived.Shelf.Strings.BuilderK
import Derived.Shelf.Utf8.RuneCount
import Derived.Shelf.Strings.Builder2Cap
import Derived.Shelf.Strconv.Itoa0
import Derived.Shelf.Strconv.Itoa1
import Derived.Shelf.LaysM
import Derived.Shelf.Strconv.Itoa2
import Derived.Shelf.Strconv.Itoa3
import Derived.Shelf.Strconv.Itoa4
import Derived.Shelf.Strconv.ParseIntEmpty
import Derived.Shelf.Strconv.Clone
import Derived.Shelf.Strconv.SyntaxError
import Derived.Shelf.LaysC
import Derived.Shelf.Strconv.ToError
import Derived.Shelf.Strconv.Lower
import Derived.Shelf.Strconv.ParseUint10
import Derived.Shelf.Strconv.ParseUint10Empty
import Derived.Shelf.Strconv.ParseUint10Any
import Derived.Shelf.Strconv.ParseInt10
import Derived.Shelf.Strconv.RangeError
import Derived.Shelf.Strconv.ToErrorRange
import Derived.Shelf.Strconv.ParseUintEmpty
import Derived.Shelf.Strconv.ParseUint10b64
import Derived.Shelf.Strconv.ParseUint10b32
import Derived.Shelf.Strconv.ParseUint10b16
import Derived.Shelf.Strconv.ParseUint10b8
import Derived.Shelf.Strconv.ParseUint10At
import Derived.Shelf.Strconv.ParseInt10At64
import Derived.Shelf.Strconv.ParseInt10At32
import Derived.Shelf.Strconv.ParseInt10At16
import Derived.Shelf.Strconv.ParseInt10At8
import Derived.Shelf.Strconv.ParseInt10All
import Derived.Shelf.Strconv.ParseIntPublic10
import Derived.Shelf.Strconv.ErrVarParseInt
import Derived.Ground.MpProg
import Derived.Shelf.Pu.ParseUintPublic10
import Derived.Shelf.Pu.ErrVarParseUint
import Derived.Shelf.Strings.Search1
import Derived.Shelf.Strings.Search2
import Derived.Shelf.Strings.Search3
import Derived.Shelf.Strings.Count
import Derived.Shelf.Strings.Shaped
import Derived.Shelf.Sort.Plain
import Derived.Shelf.Strings.LastIndex
import Derived.Shelf.GgClosure.StringsIndexFunc
import Derived.Ground.GgwProg
import Derived.Shelf.GgClosure.StringsIndexFuncTop
import Derived.Shelf.GgClosure.StringsRunes
import Derived.Shelf.Strings.Prefix
import Derived.Shelf.Strings.Split
import Derived.Shelf.Strings.Replace
import Derived.Shelf.Strings.SplitShaped
import Derived.Shelf.Unicode.Decode
import Derived.Shelf.Strings.RuneCount
import Derived.Shelf.Bits.Mul64
import Derived.Shelf.Strings.Repeat
import Derived.Shelf.Unicode.DecodeSlow
import Derived.Shelf.Unicode.DecodeAny
import Derived.Shelf.Strings.FuncGrows
import Derived.Shelf.Strings.BuilderCap
import Derived.Shelf.Slices.Turned
import Derived.Shelf.Slices.Equal
import Derived.Ground.Names2Prog
import Derived.Shelf.Slices.Clone
import Derived.Shelf.Slices.In.SortNone
import Derived.Shelf.Slices.Empties2
import Derived.Ground.SlgnProg
import Derived.Shelf.SlicesE.Clone
import Derived.Ground.PaProg
import Derived.Shelf.Path.Small
import Derived.Test.YtbcdimjbepigcaaGreatDoorProg
namespace Go.Proofs
open Go.Shelf
def Tryz.lays170_ren:Go.Shelf.Ren:=⟨fun|170=>185|n=>n,fun|70=>107|3=>3|0=>0|72=>110|37=>108|5=>5|n=>n,fun|n=>n⟩
theorem Tryz.lays170:Go.Proofs.Lays.n170 Tryz.prog Tryz.lays170_ren:={
  mixed:=by kernel_rfl
  f170:=Tryz.func185.trans (congrArg some (by kernel_rfl))
  t0:=Tryz.underlying0
  a0:=Tryz.isAgg0
  z0:=Tryz.sizeOf0
  v0:=Tryz.zeroValue0
  t3:=Tryz.underlying3
  a3:=Tryz.isAgg3
  z3:=Tryz.sizeOf3
  v3:=Tryz.zeroValue3
  t37:=Tryz.underlying108
  a37:=Tryz.isAgg108
  z37:=Tryz.sizeOf108
  v37:=Tryz.zeroValue108
  t70:=Tryz.underlying107
  a70:=Tryz.isAgg107
  z70:=Tryz.sizeOf107
  v70:=Tryz.zeroValue107
  t72:=Tryz.underlying110
  a72:=Tryz.isAgg110
  z72:=Tryz.sizeOf110
  v72:=Tryz.zeroValue110}
open Go.RowKit in
theorem Tryz.Builder_Len(B b:Nat)(bs:List Value)(w:World)(h:Lib.IsBuilder 110 5 B b bs w):
    Calls Tryz.prog 185 #[.pointer (some ⟨b,0,none⟩)] w fun e w'=>e = .returned (.int .i64 bs.length)/\w'=w:=Any.Builder_Len Tryz.lays170 B b bs w h
def Tryz.lays169_ren:Go.Shelf.Ren:=⟨fun|169=>46|n=>n,fun|70=>107|9=>9|0=>0|72=>110|37=>108|127=>140|3=>3|5=>5|n=>n,fun|n=>n⟩
theorem Tryz.lays169:Go.Proofs.Lays.n169 Tryz.prog Tryz.lays169_ren:={
  mixed:=by kernel_rfl
  f169:=Tryz.func46.trans (congrArg some (by kernel_rfl))
  t0:=Tryz.underlying0
  a0:=Tryz.isAgg0
  z0:=Tryz.sizeOf0
  v0:=Tryz.zeroValue0
  t3:=Tryz.underlying3
  a3:=Tryz.isAgg3
  z3:=Tryz.sizeOf3
  v3:=Tryz.zeroValue3
  t9:=Tryz.underlying9
  a9:=Tryz.isAgg9
  z9:=Tryz.sizeOf9
  v9:=Tryz.zeroValue9
  t37:=Tryz.underlying108
  a37:=Tryz.isAgg108
  z37:=Tryz.sizeOf108
  v37:=Tryz.zeroValue108
  t70:=Tryz.underlying107
  a70:=Tryz.isAgg107
  z70:=Tryz.sizeOf107
  v70:=Tryz.zeroValue107
  t72:=Tryz.underlying110
  a72:=Tryz.isAgg110
  z72:=Tryz.sizeOf110
  v72:=Tryz.zeroValue110
  t127:=Tryz.underlying140
  a127:=Tryz.isAgg140
  z127:=Tryz.sizeOf140
  v127:=Tryz.zeroValue140}
theorem Tryz.Builder_Extra_169:Builder.Extra Tryz.prog Tryz.lays169_ren:={
  sizeBuilder:=by kernel_rfl
  liesBuilder:=by kernel_rfl
  t5:=Tryz.underlying5
  a5:=Tryz.isAgg5
  z5:=Tryz.sizeOf5
  v5:=Tryz.zeroValue5
  infoByte:=by kernel_rfl
  cellsByte:=by kernel_rfl
  sizeByte:=by kernel_rfl
  neB5:=by decide}
open Go.RowKit in
theorem Tryz.Builder_String_any(B b:Nat)(l:List UInt8)(w:World)(h:Lib.IsBuilder 110 5 B b (Lib.byteCells l) w)(hBw:B<=w.heap.size):
    Calls Tryz.prog 46 #[.pointer (some ⟨b,0,none⟩)] w fun e w'=>e = .returned (.string ⟨l.toArray⟩)/\Below B w w':=Any.Builder_String_any Tryz.lays169 Tryz.Builder_Extra_169 B b l w h hBw
def Tryz.lays156_ren:Go.Shelf.Ren:=⟨fun|156=>59|165=>92|166=>93|169=>46|240=>137|241=>147|276=>188|277=>197|n=>n,fun|31=>40|9=>9|3=>3|4=>4|0=>0|20=>20|72=>110|76=>153|70=>107|37=>108|75=>138|127=>140|164=>226|5=>5|80=>114|n=>n,fun|n=>n⟩
theorem Tryz.lays156:Go.Proofs.Lays.n156 Tryz.prog Tryz.lays156_ren:={
  mixed:=by kernel_rfl
  f156:=Tryz.func59.trans (congrArg some (by kernel_rfl))
  f165:=Tryz.func92.trans (congrArg some (by kernel_rfl))
  f166:=Tryz.func93.trans (congrArg some (by kernel_rfl))
  f169:=Tryz.func46.trans (congrArg some (by kernel_rfl))
  f240:=Tryz.func137.trans (congrArg some (by kernel_rfl))
  f241:=Tryz.func147.trans (congrArg some (by kernel_rfl))
  f276:=Tryz.func188.trans (congrArg some (by kernel_rfl))
  f277:=Tryz.func197.trans (congrArg some (by kernel_rfl))
  t0:=Tryz.underlying0
  a0:=Tryz.isAgg0
  z0:=Tryz.sizeOf0
  v0:=Tryz.zeroValue0
  t3:=Tryz.underlying3
  a3:=Tryz.isAgg3
  z3:=Tryz.sizeOf3
  v3:=Tryz.zeroValue3
  t4:=Tryz.underlying4
  a4:=Tryz.isAgg4
  z4:=Tryz.sizeOf4
  v4:=Tryz.zeroValue4
  t9:=Tryz.underlying9
  a9:=Tryz.isAgg9
  z9:=Tryz.sizeOf9
  v9:=Tryz.zeroValue9
  t20:=Tryz.underlying20
  a20:=Tryz.isAgg20
  z20:=Tryz.sizeOf20
  v20:=Tryz.zeroValue20
  t31:=Tryz.underlying40
  a31:=Tryz.isAgg40
  z31:=Tryz.sizeOf40
  v31:=Tryz.zeroValue40
  t37:=Tryz.underlying108
  a37:=Tryz.isAgg108
  z37:=Tryz.sizeOf108
  v37:=Tryz.zeroValue108
  t70:=Tryz.underlying107
  a70:=Tryz.isAgg107
  z70:=Tryz.sizeOf107
  v70:=Tryz.zeroValue107
  t72:=Tryz.underlying110
  a72:=Tryz.isAgg110
  z72:=Tryz.sizeOf110
  v72:=Tryz.zeroValue110
  t75:=Tryz.underlying138
  a75:=Tryz.isAgg138
  z75:=Tryz.sizeOf138
  v75:=Tryz.zeroValue138
  t76:=Tryz.underlying153
  a76:=Tryz.isAgg153
  z76:=Tryz.sizeOf153
  v76:=Tryz.zeroValue153
  t127:=Tryz.underlying140
  a127:=Tryz.isAgg140
  z127:=Tryz.sizeOf140
  v127:=Tryz.zeroValue140
  t164:=Tryz.underlying226
  a164:=Tryz.isAgg226
  z164:=Tryz.sizeOf226
  v164:=Tryz.zeroValue226}
theorem Tryz.Builder_Extra_156:Builder.Extra Tryz.prog Tryz.lays156_ren:={
  sizeBuilder:=by kernel_rfl
  liesBuilder:=by kernel_rfl
  t5:=Tryz.underlying5
  a5:=Tryz.isAgg5
  z5:=Tryz.sizeOf5
  v5:=Tryz.zeroValue5
  infoByte:=by kernel_rfl
  cellsByte:=by kernel_rfl
  sizeByte:=by kernel_rfl
  neB5:=by decide}
open Go.RowKit in
theorem Tryz.strings_Join_none(a:Option Addr)(c:Nat)(sep:ByteArray)(w:World):
    Calls Tryz.prog 59 #[.slice a 0 c,.string sep] w fun e w'=>e = .returned (.string ⟨#[]⟩)/\w'=w:=Any.strings_Join_none Tryz.lays156 Tryz.Builder_Extra_156 a c sep w
open Go.RowKit in
theorem Tryz.strings_Join(bk o c:Nat)(xs:List ByteArray)(sep:ByteArray)(w:World)(hcells:∀(j:Nat) x,xs[j]? = some x->w.cell? ⟨bk,o+j,none⟩=some (.string x))(hbk:bk<w.heap.size)(hN:xs.length<=140737488355328)(hcap:xs.length<=c)(hlen:(Lib.join (xs.map (·.data.toList)) sep.data.toList).length<=140737488355328):
    Calls Tryz.prog 59 #[.slice (some ⟨bk,o,none⟩) xs.length c,.string sep] w fun e w'=>e = .returned (.string ⟨(Lib.join (xs.map (·.data.toList)) sep.data.toList).toArray⟩)/\Below w.heap.size w w':=Any.strings_Join Tryz.lays156 Tryz.Builder_Extra_156 bk o c xs sep w hcells hbk hN hcap hlen
def Tryz.lays137_ren:Go.Shelf.Ren:=⟨fun|137=>103|217=>150|266=>200|n=>n,fun|9=>9|5=>5|3=>3|n=>n,fun|n=>n⟩
theorem Tryz.lays137:Go.Proofs.Lays.n137 Tryz.prog Tryz.lays137_ren:={
  mixed:=by kernel_rfl
  f137:=Tryz.func103.trans (congrArg some (by kernel_rfl))
  f217:=Tryz.func150.trans (congrArg some (by kernel_rfl))
  f266:=Tryz.func200.trans (congrArg some (by kernel_rfl))
  t3:=Tryz.underlying3
  a3:=Tryz.isAgg3
  z3:=Tryz.sizeOf3
  v3:=Tryz.zeroValue3
  t5:=Tryz.underlying5
  a5:=Tryz.isAgg5
  z5:=Tryz.sizeOf5
  v5:=Tryz.zeroValue5
  t9:=Tryz.underlying9
  a9:=Tryz.isAgg9
  z9:=Tryz.sizeOf9
  v9:=Tryz.zeroValue9}
open Go.RowKit in
theorem Tryz.strings_IndexByte(s:ByteArray)(c:Int)(w:World):
    Calls Tryz.prog 103 #[.string s,.int .u8 c] w fun e w'=>e = .returned (.int .i64 (Lib.indexByte s.data.toList c.toNat.toUInt8))/\w'=w:=Any.strings_IndexByte Tryz.lays137 s c w
def Tryz.laysM173_ren:Go.Shelf.Ren:=⟨fun|173=>89|246=>144|283=>190|284=>191|285=>192|286=>193|129=>181|317=>216|318=>217|319=>218|320=>219|337=>240|338=>241|n=>n,fun|2=>2|3=>3|9=>9|4=>4|171=>229|0=>0|53=>197|37=>108|5=>5|173=>231|212=>254|51=>183|20=>20|213=>255|46=>172|232=>303|233=>304|n=>n,fun|17=>1|18=>4|19=>5|n=>n⟩
theorem Tryz.laysM173:Go.Proofs.LaysM.n173 Tryz.prog Tryz.laysM173_ren:={
  mixed:=by kernel_rfl
  f129:=Tryz.func181.trans (congrArg some (by kernel_rfl))
  f173:=Tryz.func89.trans (congrArg some (by kernel_rfl))
  f246:=Tryz.func144.trans (congrArg some (by kernel_rfl))
  f283:=Tryz.func190.trans (congrArg some (by kernel_rfl))
  f284:=Tryz.func191.trans (congrArg some (by kernel_rfl))
  f285:=Tryz.func192.trans (congrArg some (by kernel_rfl))
  f286:=Tryz.func193.trans (congrArg some (by kernel_rfl))
  f317:=Tryz.func216.trans (congrArg some (by kernel_rfl))
  f318:=Tryz.func217.trans (congrArg some (by kernel_rfl))
  f319:=Tryz.func218.trans (congrArg some (by kernel_rfl))
  f320:=Tryz.func219.trans (congrArg some (by kernel_rfl))
  f337:=Tryz.func240.trans (congrArg some (by kernel_rfl))
  f338:=Tryz.func241.trans (congrArg some (by kernel_rfl))
  t0:=Tryz.underlying0
  a0:=Tryz.isAgg0
  z0:=Tryz.sizeOf0
  v0:=Tryz.zeroValue0
  t2:=Tryz.underlying2
  a2:=Tryz.isAgg2
  z2:=Tryz.sizeOf2
  v2:=Tryz.zeroValue2
  t3:=Tryz.underlying3
  a3:=Tryz.isAgg3
  z3:=Tryz.sizeOf3
  v3:=Tryz.zeroValue3
  t4:=Tryz.underlying4
  a4:=Tryz.isAgg4
  z4:=Tryz.sizeOf4
  v4:=Tryz.zeroValue4
  t5:=Tryz.underlying5
  a5:=Tryz.isAgg5
  z5:=Tryz.sizeOf5
  v5:=Tryz.zeroValue5
  t9:=Tryz.underlying9
  a9:=Tryz.isAgg9
  z9:=Tryz.sizeOf9
  v9:=Tryz.zeroValue9
  t20:=Tryz.underlying20
  a20:=Tryz.isAgg20
  z20:=Tryz.sizeOf20
  v20:=Tryz.zeroValue20
  t37:=Tryz.underlying108
  a37:=Tryz.isAgg108
  z37:=Tryz.sizeOf108
  v37:=Tryz.zeroValue108
  t46:=Tryz.underlying172
  a46:=Tryz.isAgg172
  z46:=Tryz.sizeOf172
  v46:=Tryz.zeroValue172
  t51:=Tryz.underlying183
  a51:=Tryz.isAgg183
  z51:=Tryz.sizeOf183
  v51:=Tryz.zeroValue183
  t53:=Tryz.underlying197
  a53:=Tryz.isAgg197
  z53:=Tryz.sizeOf197
  v53:=Tryz.zeroValue197
  t171:=Tryz.underlying229
  a171:=Tryz.isAgg229
  z171:=Tryz.sizeOf229
  v171:=Tryz.zeroValue229
  t173:=Tryz.underlying231
  a173:=Tryz.isAgg231
  z173:=Tryz.sizeOf231
  v173:=Tryz.zeroValue231
  t212:=Tryz.underlying254
  a212:=Tryz.isAgg254
  z212:=Tryz.sizeOf254
  v212:=Tryz.zeroValue254
  t213:=Tryz.underlying255
  a213:=Tryz.isAgg255
  z213:=Tryz.sizeOf255
  t232:=Tryz.underlying303
  a232:=Tryz.isAgg303
  z232:=Tryz.sizeOf303
  v232:=Tryz.zeroValue303
  t233:=Tryz.underlying304
  a233:=Tryz.isAgg304
  z233:=Tryz.sizeOf304
  v233:=Tryz.zeroValue304
  g17:=by kernel_rfl
  g18:=by kernel_rfl
  g19:=by kernel_rfl
  i0:=by kernel_rfl
  i2:=by kernel_rfl
  i3:=by kernel_rfl
  i4:=by kernel_rfl
  i5:=by kernel_rfl
  i9:=by kernel_rfl
  i20:=by kernel_rfl
  i37:=by kernel_rfl
  i46:=by kernel_rfl
  i51:=by kernel_rfl
  i53:=by kernel_rfl
  i171:=by kernel_rfl
  i173:=by kernel_rfl
  i212:=by kernel_rfl
  i232:=by kernel_rfl
  i233:=by kernel_rfl
  m17:=by kernel_rfl
  m18:=by kernel_rfl
  m19:=by kernel_rfl}
open Go.RowKit Go.Sort Go.Lib in
theorem Tryz.strconv_FormatInt_10(n:Int)(h0: -9223372036854775808<=n)(h1:n<=9223372036854775807)(w:World)(htab:Lib.TabIs Tryz.prog w "internal/strconv.uint64pow10" .u64 Lib.pow10Tab):
    Calls Tryz.prog 89 #[.int .i64 n,.int .i64 10] w fun e w'=>e = .returned (.string ⟨(Lib.itoa n).toArray⟩)/\∃k os,w'=grow (w.drewN k) os:=Any.strconv_FormatInt_10 Tryz.laysM173 n h0 h1 w htab
def Tryz.laysC174_ren:Go.Shelf.Ren:=⟨fun|174=>182|247=>210|245=>199|287=>198|279=>228|280=>229|281=>230|282=>231|321=>226|322=>227|316=>248|171=>250|205=>249|243=>264|246=>144|283=>190|284=>191|285=>192|286=>193|129=>181|317=>216|318=>217|319=>218|320=>219|337=>240|338=>241|n=>n,fun|9=>9|3=>3|2=>2|75=>138|85=>219|4=>4|167=>272|5=>5|53=>197|175=>198|46=>172|168=>274|37=>108|0=>0|210=>298|21=>21|127=>140|145=>317|143=>315|171=>229|173=>231|212=>254|51=>183|20=>20|213=>255|232=>303|233=>304|80=>114|n=>n,fun|15=>2|16=>3|17=>1|18=>4|19=>5|n=>n⟩
theorem Tryz.laysC174:Go.Proofs.LaysC.n174 Tryz.prog Tryz.laysC174_ren:={
  mixed:=by kernel_rfl
  f129:=Tryz.func181.trans (congrArg some (by kernel_rfl))
  f171:=Tryz.func250.trans (congrArg some (by kernel_rfl))
  f174:=Tryz.func182.trans (congrArg some (by kernel_rfl))
  f205:=Tryz.func249.trans (congrArg some (by kernel_rfl))
  f243:=Tryz.func264.trans (congrArg some (by kernel_rfl))
  f245:=Tryz.func199.trans (congrArg some (by kernel_rfl))
  f246:=Tryz.func144.trans (congrArg some (by kernel_rfl))
  f247:=Tryz.func210.trans (congrArg some (by kernel_rfl))
  f279:=Tryz.func228.trans (congrArg some (by kernel_rfl))
  f280:=Tryz.func229.trans (congrArg some (by kernel_rfl))
  f281:=Tryz.func230.trans (congrArg some (by kernel_rfl))
  f282:=Tryz.func231.trans (congrArg some (by kernel_rfl))
  f283:=Tryz.func190.trans (congrArg some (by kernel_rfl))
  f284:=Tryz.func191.trans (congrArg some (by kernel_rfl))
  f285:=Tryz.func192.trans (congrArg some (by kernel_rfl))
  f286:=Tryz.func193.trans (congrArg some (by kernel_rfl))
  f287:=Tryz.func198.trans (congrArg some (by kernel_rfl))
  f316:=Tryz.func248.trans (congrArg some (by kernel_rfl))
  f317:=Tryz.func216.trans (congrArg some (by kernel_rfl))
  f318:=Tryz.func217.trans (congrArg some (by kernel_rfl))
  f319:=Tryz.func218.trans (congrArg some (by kernel_rfl))
  f320:=Tryz.func219.trans (congrArg some (by kernel_rfl))
  f321:=Tryz.func226.trans (congrArg some (by kernel_rfl))
  f322:=Tryz.func227.trans (congrArg some (by kernel_rfl))
  f337:=Tryz.func240.trans (congrArg some (by kernel_rfl))
  f338:=Tryz.func241.trans (congrArg some (by kernel_rfl))
  t0:=Tryz.underlying0
  a0:=Tryz.isAgg0
  z0:=Tryz.sizeOf0
  v0:=Tryz.zeroValue0
  t2:=Tryz.underlying2
  a2:=Tryz.isAgg2
  z2:=Tryz.sizeOf2
  v2:=Tryz.zeroValue2
  t3:=Tryz.underlying3
  a3:=Tryz.isAgg3
  z3:=Tryz.sizeOf3
  v3:=Tryz.zeroValue3
  t4:=Tryz.underlying4
  a4:=Tryz.isAgg4
  z4:=Tryz.sizeOf4
  v4:=Tryz.zeroValue4
  t5:=Tryz.underlying5
  a5:=Tryz.isAgg5
  z5:=Tryz.sizeOf5
  v5:=Tryz.zeroValue5
  t9:=Tryz.underlying9
  a9:=Tryz.isAgg9
  z9:=Tryz.sizeOf9
  v9:=Tryz.zeroValue9
  t20:=Tryz.underlying20
  a20:=Tryz.isAgg20
  z20:=Tryz.sizeOf20
  v20:=Tryz.zeroValue20
  t21:=Tryz.underlying21
  a21:=Tryz.isAgg21
  z21:=Tryz.sizeOf21
  v21:=Tryz.zeroValue21
  t37:=Tryz.underlying108
  a37:=Tryz.isAgg108
  z37:=Tryz.sizeOf108
  v37:=Tryz.zeroValue108
  t46:=Tryz.underlying172
  a46:=Tryz.isAgg172
  z46:=Tryz.sizeOf172
  v46:=Tryz.zeroValue172
  t51:=Tryz.underlying183
  a51:=Tryz.isAgg183
  z51:=Tryz.sizeOf183
  v51:=Tryz.zeroValue183
  t53:=Tryz.underlying197
  a53:=Tryz.isAgg197
  z53:=Tryz.sizeOf197
  v53:=Tryz.zeroValue197
  t75:=Tryz.underlying138
  a75:=Tryz.isAgg138
  z75:=Tryz.sizeOf138
  v75:=Tryz.zeroValue138
  t85:=Tryz.underlying219
  a85:=Tryz.isAgg219
  z85:=Tryz.sizeOf219
  v85:=Tryz.zeroValue219
  t127:=Tryz.underlying140
  a127:=Tryz.isAgg140
  z127:=Tryz.sizeOf140
  v127:=Tryz.zeroValue140
  t143:=Tryz.underlying315
  a143:=Tryz.isAgg315
  z143:=Tryz.sizeOf315
  v143:=Tryz.zeroValue315
  t145:=Tryz.underlying317
  a145:=Tryz.isAgg317
  z145:=Tryz.sizeOf317
  v145:=Tryz.zeroValue317
  t167:=Tryz.underlying272
  a167:=Tryz.isAgg272
  z167:=Tryz.sizeOf272
  v167:=Tryz.zeroValue272
  t168:=Tryz.underlying274
  a168:=Tryz.isAgg274
  z168:=Tryz.sizeOf274
  v168:=Tryz.zeroValue274
  t171:=Tryz.underlying229
  a171:=Tryz.isAgg229
  z171:=Tryz.sizeOf229
  v171:=Tryz.zeroValue229
  t173:=Tryz.underlying231
  a173:=Tryz.isAgg231
  z173:=Tryz.sizeOf231
  v173:=Tryz.zeroValue231
  t175:=Tryz.underlying198
  a175:=Tryz.isAgg198
  z175:=Tryz.sizeOf198
  v175:=Tryz.zeroValue198
  t210:=Tryz.underlying298
  a210:=Tryz.isAgg298
  z210:=Tryz.sizeOf298
  v210:=Tryz.zeroValue298
  t212:=Tryz.underlying254
  a212:=Tryz.isAgg254
  z212:=Tryz.sizeOf254
  v212:=Tryz.zeroValue254
  t213:=Tryz.underlying255
  a213:=Tryz.isAgg255
  z213:=Tryz.sizeOf255
  t232:=Tryz.underlying303
  a232:=Tryz.isAgg303
  z232:=Tryz.sizeOf303
  v232:=Tryz.zeroValue303
  t233:=Tryz.underlying304
  a233:=Tryz.isAgg304
  z233:=Tryz.sizeOf304
  v233:=Tryz.zeroValue304
  g15:=by kernel_rfl
  g16:=by kernel_rfl
  g17:=by kernel_rfl
  g18:=by kernel_rfl
  g19:=by kernel_rfl
  t80:=Tryz.underlying114
  a80:=Tryz.isAgg114
  z80:=Tryz.sizeOf114
  v80:=Tryz.zeroValue114
  i0:=by kernel_rfl
  i2:=by kernel_rfl
  i3:=by kernel_rfl
  i4:=by kernel_rfl
  i5:=by kernel_rfl
  i9:=by kernel_rfl
  i20:=by kernel_rfl
  i21:=by kernel_rfl
  i37:=by kernel_rfl
  i46:=by kernel_rfl
  i51:=by kernel_rfl
  i53:=by kernel_rfl
  i75:=by kernel_rfl
  i80:=by kernel_rfl
  i85:=by kernel_rfl
  i127:=by kernel_rfl
  i143:=by kernel_rfl
  i145:=by kernel_rfl
  i167:=by kernel_rfl
  i168:=by kernel_rfl
  i171:=by kernel_rfl
  i173:=by kernel_rfl
  i175:=by kernel_rfl
  i210:=by kernel_rfl
  i212:=by kernel_rfl
  i232:=by kernel_rfl
  i233:=by kernel_rfl
  m15:=by kernel_rfl
  m16:=by kernel_rfl
  m17:=by kernel_rfl
  m18:=by kernel_rfl
  m19:=by kernel_rfl
  c0:=by kernel_rfl
  c2:=by kernel_rfl
  c3:=by kernel_rfl
  c4:=by kernel_rfl
  c5:=by kernel_rfl
  c9:=by kernel_rfl
  c20:=by kernel_rfl
  c21:=by kernel_rfl
  c37:=by kernel_rfl
  c46:=by kernel_rfl
  c51:=by kernel_rfl
  c53:=by kernel_rfl
  c75:=by kernel_rfl
  c80:=by kernel_rfl
  c85:=by kernel_rfl
  c127:=by kernel_rfl
  c143:=by kernel_rfl
  c145:=by kernel_rfl
  c167:=by kernel_rfl
  c168:=by kernel_rfl
  c171:=by kernel_rfl
  c173:=by kernel_rfl
  c175:=by kernel_rfl
  c210:=by kernel_rfl
  c212:=by kernel_rfl
  c213:=by kernel_rfl
  c232:=by kernel_rfl
  c233:=by kernel_rfl}
open Go.RowKit in
theorem Tryz.strconv_ParseInt_10_at64_ok(s:ByteArray)(hmax:s.size<=9223372036854775806)(v:Int)(h:Lib.parseIntB 64 s.data.toList = .ok v)(w:World):
    Calls Tryz.prog 182 #[.string s,.int .i64 10,.int .i64 64] w fun e w'=>e = .returned (.tuple #[.int .i64 v,.nilIface])/\(w'=w\/∃t,w'=Lib.bytesWorld w 5 t):=Any.strconv_ParseInt_10_at64_ok Tryz.laysC174 s hmax v h w
def Tryz.laysPu14_ren:Go.Shelf.Ren:=⟨fun|14=>148|16=>198|17=>199|19=>226|20=>227|21=>228|22=>229|23=>230|24=>231|25=>248|27=>250|26=>249|28=>264|29=>144|30=>190|31=>191|32=>192|33=>193|35=>181|34=>216|36=>217|37=>218|38=>219|39=>240|40=>241|n=>n,fun|9=>9|3=>3|22=>197|24=>138|25=>198|4=>4|34=>272|5=>5|36=>172|37=>108|0=>0|39=>274|21=>21|44=>298|47=>140|50=>317|48=>315|2=>2|52=>229|55=>231|59=>254|60=>183|20=>20|61=>255|65=>303|66=>304|67=>114|n=>n,fun|0=>2|1=>3|2=>1|3=>4|4=>5|n=>n⟩
theorem Tryz.laysPu14:Go.Proofs.LaysPu.n14 Tryz.prog Tryz.laysPu14_ren:={
  mixed:=by kernel_rfl
  f14:=Tryz.func148.trans (congrArg some (by kernel_rfl))
  f16:=Tryz.func198.trans (congrArg some (by kernel_rfl))
  f17:=Tryz.func199.trans (congrArg some (by kernel_rfl))
  f19:=Tryz.func226.trans (congrArg some (by kernel_rfl))
  f20:=Tryz.func227.trans (congrArg some (by kernel_rfl))
  f21:=Tryz.func228.trans (congrArg some (by kernel_rfl))
  f22:=Tryz.func229.trans (congrArg some (by kernel_rfl))
  f23:=Tryz.func230.trans (congrArg some (by kernel_rfl))
  f24:=Tryz.func231.trans (congrArg some (by kernel_rfl))
  f25:=Tryz.func248.trans (congrArg some (by kernel_rfl))
  f26:=Tryz.func249.trans (congrArg some (by kernel_rfl))
  f27:=Tryz.func250.trans (congrArg some (by kernel_rfl))
  f28:=Tryz.func264.trans (congrArg some (by kernel_rfl))
  f29:=Tryz.func144.trans (congrArg some (by kernel_rfl))
  f30:=Tryz.func190.trans (congrArg some (by kernel_rfl))
  f31:=Tryz.func191.trans (congrArg some (by kernel_rfl))
  f32:=Tryz.func192.trans (congrArg some (by kernel_rfl))
  f33:=Tryz.func193.trans (congrArg some (by kernel_rfl))
  f34:=Tryz.func216.trans (congrArg some (by kernel_rfl))
  f35:=Tryz.func181.trans (congrArg some (by kernel_rfl))
  f36:=Tryz.func217.trans (congrArg some (by kernel_rfl))
  f37:=Tryz.func218.trans (congrArg some (by kernel_rfl))
  f38:=Tryz.func219.trans (congrArg some (by kernel_rfl))
  f39:=Tryz.func240.trans (congrArg some (by kernel_rfl))
  f40:=Tryz.func241.trans (congrArg some (by kernel_rfl))
  t0:=Tryz.underlying0
  a0:=Tryz.isAgg0
  z0:=Tryz.sizeOf0
  v0:=Tryz.zeroValue0
  i0:=by kernel_rfl
  t2:=Tryz.underlying2
  a2:=Tryz.isAgg2
  z2:=Tryz.sizeOf2
  v2:=Tryz.zeroValue2
  i2:=by kernel_rfl
  t3:=Tryz.underlying3
  a3:=Tryz.isAgg3
  z3:=Tryz.sizeOf3
  v3:=Tryz.zeroValue3
  i3:=by kernel_rfl
  t4:=Tryz.underlying4
  a4:=Tryz.isAgg4
  z4:=Tryz.sizeOf4
  v4:=Tryz.zeroValue4
  i4:=by kernel_rfl
  t5:=Tryz.underlying5
  a5:=Tryz.isAgg5
  z5:=Tryz.sizeOf5
  v5:=Tryz.zeroValue5
  i5:=by kernel_rfl
  t9:=Tryz.underlying9
  a9:=Tryz.isAgg9
  z9:=Tryz.sizeOf9
  v9:=Tryz.zeroValue9
  i9:=by kernel_rfl
  t20:=Tryz.underlying20
  a20:=Tryz.isAgg20
  z20:=Tryz.sizeOf20
  v20:=Tryz.zeroValue20
  i20:=by kernel_rfl
  t21:=Tryz.underlying21
  a21:=Tryz.isAgg21
  z21:=Tryz.sizeOf21
  v21:=Tryz.zeroValue21
  i21:=by kernel_rfl
  t22:=Tryz.underlying197
  a22:=Tryz.isAgg197
  z22:=Tryz.sizeOf197
  v22:=Tryz.zeroValue197
  i22:=by kernel_rfl
  t24:=Tryz.underlying138
  a24:=Tryz.isAgg138
  z24:=Tryz.sizeOf138
  v24:=Tryz.zeroValue138
  i24:=by kernel_rfl
  t25:=Tryz.underlying198
  a25:=Tryz.isAgg198
  z25:=Tryz.sizeOf198
  v25:=Tryz.zeroValue198
  i25:=by kernel_rfl
  t34:=Tryz.underlying272
  a34:=Tryz.isAgg272
  z34:=Tryz.sizeOf272
  v34:=Tryz.zeroValue272
  i34:=by kernel_rfl
  c34:=by kernel_rfl
  t36:=Tryz.underlying172
  a36:=Tryz.isAgg172
  z36:=Tryz.sizeOf172
  v36:=Tryz.zeroValue172
  i36:=by kernel_rfl
  t37:=Tryz.underlying108
  a37:=Tryz.isAgg108
  z37:=Tryz.sizeOf108
  v37:=Tryz.zeroValue108
  i37:=by kernel_rfl
  t39:=Tryz.underlying274
  a39:=Tryz.isAgg274
  z39:=Tryz.sizeOf274
  v39:=Tryz.zeroValue274
  i39:=by kernel_rfl
  t44:=Tryz.underlying298
  a44:=Tryz.isAgg298
  z44:=Tryz.sizeOf298
  v44:=Tryz.zeroValue298
  i44:=by kernel_rfl
  t47:=Tryz.underlying140
  a47:=Tryz.isAgg140
  z47:=Tryz.sizeOf140
  v47:=Tryz.zeroValue140
  i47:=by kernel_rfl
  t48:=Tryz.underlying315
  a48:=Tryz.isAgg315
  z48:=Tryz.sizeOf315
  v48:=Tryz.zeroValue315
  i48:=by kernel_rfl
  t50:=Tryz.underlying317
  a50:=Tryz.isAgg317
  z50:=Tryz.sizeOf317
  v50:=Tryz.zeroValue317
  i50:=by kernel_rfl
  t52:=Tryz.underlying229
  a52:=Tryz.isAgg229
  z52:=Tryz.sizeOf229
  v52:=Tryz.zeroValue229
  i52:=by kernel_rfl
  t55:=Tryz.underlying231
  a55:=Tryz.isAgg231
  z55:=Tryz.sizeOf231
  v55:=Tryz.zeroValue231
  i55:=by kernel_rfl
  t59:=Tryz.underlying254
  a59:=Tryz.isAgg254
  z59:=Tryz.sizeOf254
  v59:=Tryz.zeroValue254
  i59:=by kernel_rfl
  t60:=Tryz.underlying183
  a60:=Tryz.isAgg183
  z60:=Tryz.sizeOf183
  v60:=Tryz.zeroValue183
  i60:=by kernel_rfl
  t61:=Tryz.underlying255
  a61:=Tryz.isAgg255
  z61:=Tryz.sizeOf255
  t65:=Tryz.underlying303
  a65:=Tryz.isAgg303
  z65:=Tryz.sizeOf303
  v65:=Tryz.zeroValue303
  i65:=by kernel_rfl
  t66:=Tryz.underlying304
  a66:=Tryz.isAgg304
  z66:=Tryz.sizeOf304
  v66:=Tryz.zeroValue304
  i66:=by kernel_rfl
  t67:=Tryz.underlying114
  a67:=Tryz.isAgg114
  z67:=Tryz.sizeOf114
  v67:=Tryz.zeroValue114
  i67:=by kernel_rfl
  g0:=by kernel_rfl
  m0:=by kernel_rfl
  g1:=by kernel_rfl
  m1:=by kernel_rfl
  g2:=by kernel_rfl
  m2:=by kernel_rfl
  g3:=by kernel_rfl
  m3:=by kernel_rfl
  g4:=by kernel_rfl
  m4:=by kernel_rfl}
open Go.RowKit in
theorem Tryz.strconv_ParseUint_10_at64_ok(s:ByteArray)(hmax:s.size<=9223372036854775806)(u:Nat)(h:Lib.parseUintB 64 s.data.toList = .ok u)(w:World):
    Calls Tryz.prog 148 #[.string s,.int .i64 10,.int .i64 64] w fun e w'=>e = .returned (.tuple #[.int .u64 u,.nilIface])/\(w'=w\/w'=Lib.bytesWorld w 5 s):=Any.strconv_ParseUint_10_at64_ok Tryz.laysPu14 s hmax u h w
open Go.RowKit in
theorem Tryz.strconv_ParseUint_10_at64_range(s:ByteArray)(hlim:s.size<=281474976710656)(h:Lib.parseUintB 64 s.data.toList = .range)(ev:Value)(w:World)(hv:w.cell? ⟨3,0,none⟩=some ev)(hev:ev = .nilIface\/∃te pe,ev = .iface te pe):
    Calls Tryz.prog 148 #[.string s,.int .i64 10,.int .i64 64] w fun e w'=>∃N,e = .returned (.tuple #[.int .u64 18446744073709551615,.iface 274 (.pointer (some ⟨N,0,none⟩))])/\w.heap.size<=N/\w'.heap[N]? = some (.cells #[.string ⟨#[80,97,114,115,101,85,105,110,116]⟩,.string s,ev] 298 (0,0))/\Below w.heap.size w w':=Any.strconv_ParseUint_10_at64_range Tryz.laysPu14 s hlim h ev w hv hev
def Tryz.lays143_ren:Go.Shelf.Ren:=⟨fun|143=>138|219=>189|217=>150|225=>213|224=>214|267=>215|266=>200|314=>239|n=>n,fun|9=>9|3=>3|4=>4|5=>5|46=>172|146=>248|51=>183|n=>n,fun|1=>0|n=>n⟩
theorem Tryz.lays143:Go.Proofs.Lays.n143 Tryz.prog Tryz.lays143_ren:={
  mixed:=by kernel_rfl
  f143:=Tryz.func138.trans (congrArg some (by kernel_rfl))
  f217:=Tryz.func150.trans (congrArg some (by kernel_rfl))
  f219:=Tryz.func189.trans (congrArg some (by kernel_rfl))
  f224:=Tryz.func214.trans (congrArg some (by kernel_rfl))
  f225:=Tryz.func213.trans (congrArg some (by kernel_rfl))
  f266:=Tryz.func200.trans (congrArg some (by kernel_rfl))
  f267:=Tryz.func215.trans (congrArg some (by kernel_rfl))
  f314:=Tryz.func239.trans (congrArg some (by kernel_rfl))
  t3:=Tryz.underlying3
  a3:=Tryz.isAgg3
  z3:=Tryz.sizeOf3
  v3:=Tryz.zeroValue3
  t4:=Tryz.underlying4
  a4:=Tryz.isAgg4
  z4:=Tryz.sizeOf4
  v4:=Tryz.zeroValue4
  t5:=Tryz.underlying5
  a5:=Tryz.isAgg5
  z5:=Tryz.sizeOf5
  v5:=Tryz.zeroValue5
  t9:=Tryz.underlying9
  a9:=Tryz.isAgg9
  z9:=Tryz.sizeOf9
  v9:=Tryz.zeroValue9
  t46:=Tryz.underlying172
  a46:=Tryz.isAgg172
  z46:=Tryz.sizeOf172
  v46:=Tryz.zeroValue172
  t51:=Tryz.underlying183
  a51:=Tryz.isAgg183
  z51:=Tryz.sizeOf183
  v51:=Tryz.zeroValue183
  t146:=Tryz.underlying248
  a146:=Tryz.isAgg248
  z146:=Tryz.sizeOf248
  v146:=Tryz.zeroValue248
  g1:=by kernel_rfl}
open Go.RowKit Go.Lib in
theorem Tryz.strings_Index_one(s:ByteArray)(c:UInt8)(w:World):
    Calls Tryz.prog 138 #[.string s,.string ⟨#[c]⟩] w fun e w'=>e = .returned (.int .i64 (Lib.indexByte s.data.toList c))/\w'=w:=Any.strings_Index_one Tryz.lays143 s c w
def Tryz.lays144_ren:Go.Shelf.Ren:=⟨fun|144=>80|143=>138|219=>189|217=>150|225=>213|224=>214|267=>215|266=>200|314=>239|n=>n,fun|9=>9|4=>4|3=>3|5=>5|46=>172|146=>248|51=>183|n=>n,fun|1=>0|n=>n⟩
theorem Tryz.lays144:Go.Proofs.Lays.n144 Tryz.prog Tryz.lays144_ren:={
  mixed:=by kernel_rfl
  f143:=Tryz.func138.trans (congrArg some (by kernel_rfl))
  f144:=Tryz.func80.trans (congrArg some (by kernel_rfl))
  f217:=Tryz.func150.trans (congrArg some (by kernel_rfl))
  f219:=Tryz.func189.trans (congrArg some (by kernel_rfl))
  f224:=Tryz.func214.trans (congrArg some (by kernel_rfl))
  f225:=Tryz.func213.trans (congrArg some (by kernel_rfl))
  f266:=Tryz.func200.trans (congrArg some (by kernel_rfl))
  f267:=Tryz.func215.trans (congrArg some (by kernel_rfl))
  f314:=Tryz.func239.trans (congrArg some (by kernel_rfl))
  t3:=Tryz.underlying3
  a3:=Tryz.isAgg3
  z3:=Tryz.sizeOf3
  v3:=Tryz.zeroValue3
  t4:=Tryz.underlying4
  a4:=Tryz.isAgg4
  z4:=Tryz.sizeOf4
  v4:=Tryz.zeroValue4
  t5:=Tryz.underlying5
  a5:=Tryz.isAgg5
  z5:=Tryz.sizeOf5
  v5:=Tryz.zeroValue5
  t9:=Tryz.underlying9
  a9:=Tryz.isAgg9
  z9:=Tryz.sizeOf9
  v9:=Tryz.zeroValue9
  t46:=Tryz.underlying172
  a46:=Tryz.isAgg172
  z46:=Tryz.sizeOf172
  v46:=Tryz.zeroValue172
  t51:=Tryz.underlying183
  a51:=Tryz.isAgg183
  z51:=Tryz.sizeOf183
  v51:=Tryz.zeroValue183
  t146:=Tryz.underlying248
  a146:=Tryz.isAgg248
  z146:=Tryz.sizeOf248
  v146:=Tryz.zeroValue248
  g1:=by kernel_rfl}
open Go.RowKit Go.Lib in
theorem Tryz.strings_Contains(s sub:ByteArray)(m:Int)(w:World)(hs:s.size<4294967281)(hm:w.cell? ⟨0,0,none⟩=some (.int .i64 m)):
    Calls Tryz.prog 80 #[.string s,.string sub] w fun e w'=>e = .returned (.bool (Lib.contains s.data.toList sub.data.toList))/\w'=w:=Any.strings_Contains Tryz.lays144 s sub m w hs hm
def Tryz.lays138_ren:Go.Shelf.Ren:=⟨fun|138=>104|195=>151|218=>152|143=>138|219=>189|217=>150|225=>213|224=>214|267=>215|266=>200|314=>239|n=>n,fun|9=>9|3=>3|4=>4|5=>5|0=>0|46=>172|146=>248|51=>183|n=>n,fun|1=>0|n=>n⟩
theorem Tryz.lays138:Go.Proofs.Lays.n138 Tryz.prog Tryz.lays138_ren:={
  mixed:=by kernel_rfl
  f138:=Tryz.func104.trans (congrArg some (by kernel_rfl))
  f143:=Tryz.func138.trans (congrArg some (by kernel_rfl))
  f195:=Tryz.func151.trans (congrArg some (by kernel_rfl))
  f217:=Tryz.func150.trans (congrArg some (by kernel_rfl))
  f218:=Tryz.func152.trans (congrArg some (by kernel_rfl))
  f219:=Tryz.func189.trans (congrArg some (by kernel_rfl))
  f224:=Tryz.func214.trans (congrArg some (by kernel_rfl))
  f225:=Tryz.func213.trans (congrArg some (by kernel_rfl))
  f266:=Tryz.func200.trans (congrArg some (by kernel_rfl))
  f267:=Tryz.func215.trans (congrArg some (by kernel_rfl))
  f314:=Tryz.func239.trans (congrArg some (by kernel_rfl))
  t0:=Tryz.underlying0
  a0:=Tryz.isAgg0
  z0:=Tryz.sizeOf0
  v0:=Tryz.zeroValue0
  t3:=Tryz.underlying3
  a3:=Tryz.isAgg3
  z3:=Tryz.sizeOf3
  v3:=Tryz.zeroValue3
  t4:=Tryz.underlying4
  a4:=Tryz.isAgg4
  z4:=Tryz.sizeOf4
  v4:=Tryz.zeroValue4
  t5:=Tryz.underlying5
  a5:=Tryz.isAgg5
  z5:=Tryz.sizeOf5
  v5:=Tryz.zeroValue5
  t9:=Tryz.underlying9
  a9:=Tryz.isAgg9
  z9:=Tryz.sizeOf9
  v9:=Tryz.zeroValue9
  t46:=Tryz.underlying172
  a46:=Tryz.isAgg172
  z46:=Tryz.sizeOf172
  v46:=Tryz.zeroValue172
  t51:=Tryz.underlying183
  a51:=Tryz.isAgg183
  z51:=Tryz.sizeOf183
  v51:=Tryz.zeroValue183
  t146:=Tryz.underlying248
  a146:=Tryz.isAgg248
  z146:=Tryz.sizeOf248
  v146:=Tryz.zeroValue248
  g1:=by kernel_rfl}
open Go.RowKit Go.Lib in
theorem Tryz.strings_Count_one(s:ByteArray)(c:UInt8)(w:World):
    Calls Tryz.prog 104 #[.string s,.string ⟨#[c]⟩] w fun e w'=>e = .returned (.int .i64 (Lib.countByte s.data.toList c))/\w'=w:=Any.strings_Count_one Tryz.lays138 s c w
open Go.RowKit Go.Lib in
theorem Tryz.strings_Count(s sub:ByteArray)(m:Int)(w:World)(hs:s.size<4294967281)(hm:w.cell? ⟨0,0,none⟩=some (.int .i64 m))(h2:2<=sub.size):
    Calls Tryz.prog 104 #[.string s,.string sub] w fun e w'=>e = .returned (.int .i64 (Lib.countB s sub))/\w'=w:=Any.strings_Count Tryz.lays138 s sub m w hs hm h2
def Tryz.lays190_ren:Go.Shelf.Ren:=⟨fun|190=>67|125=>123|258=>122|128=>180|129=>181|302=>171|303=>172|304=>173|305=>174|306=>175|307=>176|308=>177|309=>178|310=>179|333=>204|329=>205|330=>206|334=>207|335=>208|336=>209|344=>238|n=>n,fun|31=>40|9=>9|3=>3|46=>172|0=>0|51=>183|53=>197|4=>4|183=>211|182=>210|131=>215|5=>5|218=>243|222=>123|228=>279|229=>280|n=>n,fun|n=>n⟩
theorem Tryz.lays190:Go.Proofs.Lays.n190 Tryz.prog Tryz.lays190_ren:={
  mixed:=by kernel_rfl
  f125:=Tryz.func123.trans (congrArg some (by kernel_rfl))
  f128:=Tryz.func180.trans (congrArg some (by kernel_rfl))
  f129:=Tryz.func181.trans (congrArg some (by kernel_rfl))
  f190:=Tryz.func67.trans (congrArg some (by kernel_rfl))
  f258:=Tryz.func122.trans (congrArg some (by kernel_rfl))
  f302:=Tryz.func171.trans (congrArg some (by kernel_rfl))
  f303:=Tryz.func172.trans (congrArg some (by kernel_rfl))
  f304:=Tryz.func173.trans (congrArg some (by kernel_rfl))
  f305:=Tryz.func174.trans (congrArg some (by kernel_rfl))
  f306:=Tryz.func175.trans (congrArg some (by kernel_rfl))
  f307:=Tryz.func176.trans (congrArg some (by kernel_rfl))
  f308:=Tryz.func177.trans (congrArg some (by kernel_rfl))
  f309:=Tryz.func178.trans (congrArg some (by kernel_rfl))
  f310:=Tryz.func179.trans (congrArg some (by kernel_rfl))
  f329:=Tryz.func205.trans (congrArg some (by kernel_rfl))
  f330:=Tryz.func206.trans (congrArg some (by kernel_rfl))
  f333:=Tryz.func204.trans (congrArg some (by kernel_rfl))
  f334:=Tryz.func207.trans (congrArg some (by kernel_rfl))
  f335:=Tryz.func208.trans (congrArg some (by kernel_rfl))
  f336:=Tryz.func209.trans (congrArg some (by kernel_rfl))
  f344:=Tryz.func238.trans (congrArg some (by kernel_rfl))
  t0:=Tryz.underlying0
  a0:=Tryz.isAgg0
  z0:=Tryz.sizeOf0
  v0:=Tryz.zeroValue0
  t3:=Tryz.underlying3
  a3:=Tryz.isAgg3
  z3:=Tryz.sizeOf3
  v3:=Tryz.zeroValue3
  t4:=Tryz.underlying4
  a4:=Tryz.isAgg4
  z4:=Tryz.sizeOf4
  v4:=Tryz.zeroValue4
  t5:=Tryz.underlying5
  a5:=Tryz.isAgg5
  z5:=Tryz.sizeOf5
  v5:=Tryz.zeroValue5
  t9:=Tryz.underlying9
  a9:=Tryz.isAgg9
  z9:=Tryz.sizeOf9
  v9:=Tryz.zeroValue9
  t31:=Tryz.underlying40
  a31:=Tryz.isAgg40
  z31:=Tryz.sizeOf40
  v31:=Tryz.zeroValue40
  t46:=Tryz.underlying172
  a46:=Tryz.isAgg172
  z46:=Tryz.sizeOf172
  v46:=Tryz.zeroValue172
  t51:=Tryz.underlying183
  a51:=Tryz.isAgg183
  z51:=Tryz.sizeOf183
  v51:=Tryz.zeroValue183
  t53:=Tryz.underlying197
  a53:=Tryz.isAgg197
  z53:=Tryz.sizeOf197
  v53:=Tryz.zeroValue197
  t131:=Tryz.underlying215
  a131:=Tryz.isAgg215
  z131:=Tryz.sizeOf215
  v131:=Tryz.zeroValue215
  t182:=Tryz.underlying210
  a182:=Tryz.isAgg210
  z182:=Tryz.sizeOf210
  v182:=Tryz.zeroValue210
  t183:=Tryz.underlying211
  a183:=Tryz.isAgg211
  z183:=Tryz.sizeOf211
  v183:=Tryz.zeroValue211
  t218:=Tryz.underlying243
  a218:=Tryz.isAgg243
  z218:=Tryz.sizeOf243
  v218:=Tryz.zeroValue243
  t222:=Tryz.underlying123
  a222:=Tryz.isAgg123
  z222:=Tryz.sizeOf123
  v222:=Tryz.zeroValue123
  t228:=Tryz.underlying279
  a228:=Tryz.isAgg279
  z228:=Tryz.sizeOf279
  v228:=Tryz.zeroValue279
  t229:=Tryz.underlying280
  a229:=Tryz.isAgg280
  z229:=Tryz.sizeOf280
  v229:=Tryz.zeroValue280}
open Go.Sort Go.RowKit in
theorem Tryz.slices_Sort_string(blk off cap:Nat)(ss:List (List UInt8))(w:World)(hH:Holds encStr w blk off ss.toArray)(hblk:blk<w.heap.size)(hsz:ss.length<4611686018427387904):
    Calls Tryz.prog 67 #[.slice (some ⟨blk,off,none⟩) ss.length cap] w fun e w'=>
      e = .returned (.tuple #[])/\∃n os,w'=grow (putRow encStr (Sort.ahead w n) blk off (ss.mergeSort fun x y=>decide (x<=y)).toArray) os:=Any.slices_Sort_string Tryz.lays190 blk off cap ss w hH hblk hsz
def Tryz.lays149_ren:Go.Shelf.Ren:=⟨fun|149=>105|222=>153|n=>n,fun|9=>9|5=>5|3=>3|4=>4|n=>n,fun|n=>n⟩
theorem Tryz.lays149:Go.Proofs.Lays.n149 Tryz.prog Tryz.lays149_ren:={
  mixed:=by kernel_rfl
  f149:=Tryz.func105.trans (congrArg some (by kernel_rfl))
  f222:=Tryz.func153.trans (congrArg some (by kernel_rfl))
  t3:=Tryz.underlying3
  a3:=Tryz.isAgg3
  z3:=Tryz.sizeOf3
  v3:=Tryz.zeroValue3
  t4:=Tryz.underlying4
  a4:=Tryz.isAgg4
  z4:=Tryz.sizeOf4
  v4:=Tryz.zeroValue4
  t5:=Tryz.underlying5
  a5:=Tryz.isAgg5
  z5:=Tryz.sizeOf5
  v5:=Tryz.zeroValue5
  t9:=Tryz.underlying9
  a9:=Tryz.isAgg9
  z9:=Tryz.sizeOf9
  v9:=Tryz.zeroValue9}
open Go.RowKit Go.Lib in
theorem Tryz.strings_LastIndexByte(s:ByteArray)(c:Int)(hs:s.size<4611686018427387904)(w:World):
    Calls Tryz.prog 105 #[.string s,.int .u8 c] w fun e w'=>e = .returned (.int .i64 (Lib.lastIndexByte s c))/\w'=w:=Any.strings_LastIndexByte Tryz.lays149 s c hs w
def Tryz.laysGw17_ren:Go.Shelf.Ren:=⟨fun|17=>315|15=>320|20=>321|n=>n,fun|9=>9|23=>354|4=>4|3=>3|0=>0|21=>21|n=>n,fun|n=>n⟩
theorem Tryz.laysGw17:Go.Proofs.LaysGw.n17 Tryz.prog Tryz.laysGw17_ren:={
  mixed:=by kernel_rfl
  f15:=Tryz.func320.trans (congrArg some (by kernel_rfl))
  f17:=Tryz.func315.trans (congrArg some (by kernel_rfl))
  f20:=Tryz.func321.trans (congrArg some (by kernel_rfl))
  t0:=Tryz.underlying0
  a0:=Tryz.isAgg0
  z0:=Tryz.sizeOf0
  v0:=Tryz.zeroValue0
  i0:=by kernel_rfl
  t3:=Tryz.underlying3
  a3:=Tryz.isAgg3
  z3:=Tryz.sizeOf3
  v3:=Tryz.zeroValue3
  i3:=by kernel_rfl
  t4:=Tryz.underlying4
  a4:=Tryz.isAgg4
  z4:=Tryz.sizeOf4
  v4:=Tryz.zeroValue4
  i4:=by kernel_rfl
  t9:=Tryz.underlying9
  a9:=Tryz.isAgg9
  z9:=Tryz.sizeOf9
  v9:=Tryz.zeroValue9
  i9:=by kernel_rfl
  t21:=Tryz.underlying21
  a21:=Tryz.isAgg21
  z21:=Tryz.sizeOf21
  v21:=Tryz.zeroValue21
  i21:=by kernel_rfl
  t23:=Tryz.underlying354
  a23:=Tryz.isAgg354
  z23:=Tryz.sizeOf354
  v23:=Tryz.zeroValue354
  i23:=by kernel_rfl}
def Tryz.lays99_ren:Go.Shelf.Ren:=⟨fun|99=>102|206=>149|n=>n,fun|9=>9|4=>4|3=>3|n=>n,fun|n=>n⟩
theorem Tryz.lays99:Go.Proofs.Lays.n99 Tryz.prog Tryz.lays99_ren:={
  mixed:=by kernel_rfl
  f99:=Tryz.func102.trans (congrArg some (by kernel_rfl))
  f206:=Tryz.func149.trans (congrArg some (by kernel_rfl))
  t3:=Tryz.underlying3
  a3:=Tryz.isAgg3
  z3:=Tryz.sizeOf3
  v3:=Tryz.zeroValue3
  t4:=Tryz.underlying4
  a4:=Tryz.isAgg4
  z4:=Tryz.sizeOf4
  v4:=Tryz.zeroValue4
  t9:=Tryz.underlying9
  a9:=Tryz.isAgg9
  z9:=Tryz.sizeOf9
  v9:=Tryz.zeroValue9}
open Go.RowKit Go.Lib in
theorem Tryz.strings_HasPrefix(s p:ByteArray)(w:World):
    Calls Tryz.prog 102 #[.string s,.string p] w fun e w'=>e = .returned (.bool (Lib.hasPrefix s.data.toList p.data.toList))/\w'=w:=Any.strings_HasPrefix Tryz.lays99 s p w
def Tryz.lays102_ren:Go.Shelf.Ren:=⟨fun|102=>298|209=>307|207=>312|n=>n,fun|9=>9|4=>4|3=>3|n=>n,fun|n=>n⟩
theorem Tryz.lays102:Go.Proofs.Lays.n102 Tryz.prog Tryz.lays102_ren:={
  mixed:=by kernel_rfl
  f102:=Tryz.func298.trans (congrArg some (by kernel_rfl))
  f207:=Tryz.func312.trans (congrArg some (by kernel_rfl))
  f209:=Tryz.func307.trans (congrArg some (by kernel_rfl))
  t3:=Tryz.underlying3
  a3:=Tryz.isAgg3
  z3:=Tryz.sizeOf3
  v3:=Tryz.zeroValue3
  t4:=Tryz.underlying4
  a4:=Tryz.isAgg4
  z4:=Tryz.sizeOf4
  v4:=Tryz.zeroValue4
  t9:=Tryz.underlying9
  a9:=Tryz.isAgg9
  z9:=Tryz.sizeOf9
  v9:=Tryz.zeroValue9}
open Go.RowKit Go.Lib in
theorem Tryz.strings_TrimSuffix(s p:ByteArray)(w:World)(hs:s.size<=9223372036854775807):
    Calls Tryz.prog 298 #[.string s,.string p] w fun e w'=>e = .returned (.string ⟨(Lib.trimSuffix s.data.toList p.data.toList).toArray⟩)/\w'=w:=Any.strings_TrimSuffix Tryz.lays102 s p w hs
def Tryz.lays155_ren:Go.Shelf.Ren:=⟨fun|155=>304|154=>309|138=>104|165=>92|143=>138|166=>93|197=>313|169=>46|195=>151|218=>152|240=>137|241=>147|219=>189|260=>318|276=>188|277=>197|217=>150|225=>213|224=>214|267=>215|266=>200|314=>239|n=>n,fun|9=>9|3=>3|4=>4|72=>110|0=>0|76=>153|105=>350|21=>21|5=>5|70=>107|20=>20|37=>108|75=>138|127=>140|164=>226|46=>172|119=>265|139=>358|138=>357|146=>248|51=>183|80=>114|n=>n,fun|1=>0|3=>6|4=>7|n=>n⟩
theorem Tryz.lays155:Go.Proofs.Lays.n155 Tryz.prog Tryz.lays155_ren:={
  mixed:=by kernel_rfl
  f138:=Tryz.func104.trans (congrArg some (by kernel_rfl))
  f143:=Tryz.func138.trans (congrArg some (by kernel_rfl))
  f154:=Tryz.func309.trans (congrArg some (by kernel_rfl))
  f155:=Tryz.func304.trans (congrArg some (by kernel_rfl))
  f165:=Tryz.func92.trans (congrArg some (by kernel_rfl))
  f166:=Tryz.func93.trans (congrArg some (by kernel_rfl))
  f169:=Tryz.func46.trans (congrArg some (by kernel_rfl))
  f195:=Tryz.func151.trans (congrArg some (by kernel_rfl))
  f197:=Tryz.func313.trans (congrArg some (by kernel_rfl))
  f217:=Tryz.func150.trans (congrArg some (by kernel_rfl))
  f218:=Tryz.func152.trans (congrArg some (by kernel_rfl))
  f219:=Tryz.func189.trans (congrArg some (by kernel_rfl))
  f224:=Tryz.func214.trans (congrArg some (by kernel_rfl))
  f225:=Tryz.func213.trans (congrArg some (by kernel_rfl))
  f240:=Tryz.func137.trans (congrArg some (by kernel_rfl))
  f241:=Tryz.func147.trans (congrArg some (by kernel_rfl))
  f260:=Tryz.func318.trans (congrArg some (by kernel_rfl))
  f266:=Tryz.func200.trans (congrArg some (by kernel_rfl))
  f267:=Tryz.func215.trans (congrArg some (by kernel_rfl))
  f276:=Tryz.func188.trans (congrArg some (by kernel_rfl))
  f277:=Tryz.func197.trans (congrArg some (by kernel_rfl))
  f314:=Tryz.func239.trans (congrArg some (by kernel_rfl))
  t0:=Tryz.underlying0
  a0:=Tryz.isAgg0
  z0:=Tryz.sizeOf0
  v0:=Tryz.zeroValue0
  t3:=Tryz.underlying3
  a3:=Tryz.isAgg3
  z3:=Tryz.sizeOf3
  v3:=Tryz.zeroValue3
  t4:=Tryz.underlying4
  a4:=Tryz.isAgg4
  z4:=Tryz.sizeOf4
  v4:=Tryz.zeroValue4
  t5:=Tryz.underlying5
  a5:=Tryz.isAgg5
  z5:=Tryz.sizeOf5
  v5:=Tryz.zeroValue5
  t9:=Tryz.underlying9
  a9:=Tryz.isAgg9
  z9:=Tryz.sizeOf9
  v9:=Tryz.zeroValue9
  t20:=Tryz.underlying20
  a20:=Tryz.isAgg20
  z20:=Tryz.sizeOf20
  v20:=Tryz.zeroValue20
  t21:=Tryz.underlying21
  a21:=Tryz.isAgg21
  z21:=Tryz.sizeOf21
  v21:=Tryz.zeroValue21
  t37:=Tryz.underlying108
  a37:=Tryz.isAgg108
  z37:=Tryz.sizeOf108
  v37:=Tryz.zeroValue108
  t46:=Tryz.underlying172
  a46:=Tryz.isAgg172
  z46:=Tryz.sizeOf172
  v46:=Tryz.zeroValue172
  t51:=Tryz.underlying183
  a51:=Tryz.isAgg183
  z51:=Tryz.sizeOf183
  v51:=Tryz.zeroValue183
  t70:=Tryz.underlying107
  a70:=Tryz.isAgg107
  z70:=Tryz.sizeOf107
  v70:=Tryz.zeroValue107
  t72:=Tryz.underlying110
  a72:=Tryz.isAgg110
  z72:=Tryz.sizeOf110
  v72:=Tryz.zeroValue110
  t75:=Tryz.underlying138
  a75:=Tryz.isAgg138
  z75:=Tryz.sizeOf138
  v75:=Tryz.zeroValue138
  t76:=Tryz.underlying153
  a76:=Tryz.isAgg153
  z76:=Tryz.sizeOf153
  v76:=Tryz.zeroValue153
  t105:=Tryz.underlying350
  a105:=Tryz.isAgg350
  z105:=Tryz.sizeOf350
  v105:=Tryz.zeroValue350
  t119:=Tryz.underlying265
  a119:=Tryz.isAgg265
  z119:=Tryz.sizeOf265
  t127:=Tryz.underlying140
  a127:=Tryz.isAgg140
  z127:=Tryz.sizeOf140
  v127:=Tryz.zeroValue140
  t138:=Tryz.underlying357
  a138:=Tryz.isAgg357
  z138:=Tryz.sizeOf357
  v138:=Tryz.zeroValue357
  t139:=Tryz.underlying358
  a139:=Tryz.isAgg358
  z139:=Tryz.sizeOf358
  v139:=Tryz.zeroValue358
  t146:=Tryz.underlying248
  a146:=Tryz.isAgg248
  z146:=Tryz.sizeOf248
  v146:=Tryz.zeroValue248
  t164:=Tryz.underlying226
  a164:=Tryz.isAgg226
  z164:=Tryz.sizeOf226
  v164:=Tryz.zeroValue226
  g1:=by kernel_rfl
  g3:=by kernel_rfl
  g4:=by kernel_rfl}
theorem Tryz.Builder_Extra_155:Builder.Extra Tryz.prog Tryz.lays155_ren:={
  sizeBuilder:=by kernel_rfl
  liesBuilder:=by kernel_rfl
  t5:=Tryz.underlying5
  a5:=Tryz.isAgg5
  z5:=Tryz.sizeOf5
  v5:=Tryz.zeroValue5
  infoByte:=by kernel_rfl
  cellsByte:=by kernel_rfl
  sizeByte:=by kernel_rfl
  neB5:=by decide}
open Go.RowKit Go.Lib in
theorem Tryz.strings_ReplaceAll(s old new:ByteArray)(m:Int)(w:World)(hs:s.size<4294967281)(hm:w.cell? ⟨0,0,none⟩=some (.int .i64 m))(h1:1<=old.size)(hlen:s.size+Lib.countB s old*new.size<=140737488355328):
    Calls Tryz.prog 304 #[.string s,.string old,.string new] w fun e w'=>
      e = .returned (.string ⟨(Lib.replaceAll s.data.toList old.data.toList new.data.toList).toArray⟩)/\Below w.heap.size w w':=Any.strings_ReplaceAll Tryz.lays155 Tryz.Builder_Extra_155 s old new m w hs hm h1 hlen
open Go.RowKit Go.Lib in
theorem Tryz.strings_ContainsFunc_grows(g:Nat)(lb:Array Value)(eg:∀args w,(callFunc g args).run Tryz.prog w = .ok (.enter g args) w)(p:Nat->Bool)(s:ByteArray)(w:World)(hp:PredGrows Tryz.prog g lb p w):
    Calls Tryz.prog 315 #[.string s,.func (.func g) #[] lb] w fun e w'=>e = .returned (.bool (decide (0<=Lib.idxFunc p true s)))/\Below w.heap.size w w':=Any.strings_ContainsFunc_grows Tryz.laysGw17 g lb eg p s w hp
def Tryz.lays110_ren:Go.Shelf.Ren:=⟨fun|110=>129|109=>183|n=>n,fun|31=>40|9=>9|4=>4|3=>3|0=>0|n=>n,fun|n=>n⟩
theorem Tryz.lays110:Go.Proofs.Lays.n110 Tryz.prog Tryz.lays110_ren:={
  mixed:=by kernel_rfl
  f109:=Tryz.func183.trans (congrArg some (by kernel_rfl))
  f110:=Tryz.func129.trans (congrArg some (by kernel_rfl))
  t0:=Tryz.underlying0
  a0:=Tryz.isAgg0
  z0:=Tryz.sizeOf0
  v0:=Tryz.zeroValue0
  t3:=Tryz.underlying3
  a3:=Tryz.isAgg3
  z3:=Tryz.sizeOf3
  v3:=Tryz.zeroValue3
  t4:=Tryz.underlying4
  a4:=Tryz.isAgg4
  z4:=Tryz.sizeOf4
  v4:=Tryz.zeroValue4
  t9:=Tryz.underlying9
  a9:=Tryz.isAgg9
  z9:=Tryz.sizeOf9
  v9:=Tryz.zeroValue9
  t31:=Tryz.underlying40
  a31:=Tryz.isAgg40
  z31:=Tryz.sizeOf40
  v31:=Tryz.zeroValue40}
open Go.Lib in
theorem Tryz.slices_Contains_string(b off n c:Nat)(zs:List ByteArray)(x:ByteArray)(w:World)(hz:n<=zs.length)(hbig:n<=9223372036854775807)(hc:∀j,j<zs.length->w.cell? ⟨b,off+j,none⟩=some (.string (zs.getD j ByteArray.empty))):
    Calls Tryz.prog 129 #[.slice (some ⟨b,off,none⟩) n c,.string x] w fun e w'=>e = .returned (.bool (Lib.containsS (zs.take n) x))/\w'=w:=Any.slices_Contains_string Tryz.lays110 b off n c zs x w hz hbig hc
open Go.Lib in
theorem Tryz.slices_Contains_string_empty(a:Option Addr)(c:Nat)(x:ByteArray)(w:World):
    Calls Tryz.prog 129 #[.slice a 0 c,.string x] w fun e w'=>e = .returned (.bool false)/\w'=w:=Any.slices_Contains_string_empty Tryz.lays110 a c x w
def Tryz.laysNm216_ren:Go.Shelf.Ren:=⟨fun|16=>69|n=>n,fun|24=>40|9=>9|4=>4|n=>n,fun|n=>n⟩
theorem Tryz.laysNm216:Go.Proofs.Lays2.n16 Tryz.prog Tryz.laysNm216_ren:={
  mixed:=by kernel_rfl
  f16:=Tryz.func69.trans (congrArg some (by kernel_rfl))
  t4:=Tryz.underlying4
  a4:=Tryz.isAgg4
  z4:=Tryz.sizeOf4
  v4:=Tryz.zeroValue4
  t9:=Tryz.underlying9
  a9:=Tryz.isAgg9
  z9:=Tryz.sizeOf9
  v9:=Tryz.zeroValue9
  t24:=Tryz.underlying40
  a24:=Tryz.isAgg40
  z24:=Tryz.sizeOf40
  v24:=Tryz.zeroValue40
  i9:=by kernel_rfl}
open Go.RowKit Go.Lib in
theorem Tryz.slices_Clone_string(b off n c:Nat)(zs:List ByteArray)(w:World)(hz:n<=zs.length)(hbig:n*16<=140737488355328)(hc:∀j,j<zs.length->w.cell? ⟨b,off+j,none⟩=some (.string (zs.getD j ByteArray.empty))):
    Calls Tryz.prog 69 #[.slice (some ⟨b,off,none⟩) n c] w fun e w'=>∃v',e = .returned v'/\w'.ownsRow w.heap.size 9 1 v' n ((zs.take n).map (Value.string))/\v' ≠ .slice none 0 0/\Below w.heap.size w w':=Any.slices_Clone_string Tryz.laysNm216 b off n c zs w hz hbig hc
open Go.RowKit Go.Lib in
theorem Tryz.slices_Clone_string_nil(n c:Nat)(w:World):
    Calls Tryz.prog 69 #[.slice none n c] w fun e w'=>e = .returned (.slice none 0 0)/\w'=w:=Any.slices_Clone_string_nil Tryz.laysNm216 n c w
open Go.RowKit Go.Lib in
theorem Tryz.slices_Clone_string_zero(a:Addr)(c:Nat)(w:World):
    Calls Tryz.prog 69 #[.slice (some a) 0 c] w fun e w'=>∃v',e = .returned v'/\w'.ownsRow w.heap.size 9 1 v' 0 []/\v' ≠ .slice none 0 0/\Below w.heap.size w w':=Any.slices_Clone_string_zero Tryz.laysNm216 a c w
open Go.RowKit Go.Sort in
theorem Tryz.slices_Sort_string_none(p:Option Addr)(cap:Nat)(w:World):
    Calls Tryz.prog 67 #[.slice p 0 cap] w fun e w'=>e = .returned (.tuple #[])/\w'=w:=Any.slices_Sort_string_none Tryz.lays190 p cap w
end Go.Proofs
