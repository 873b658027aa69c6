/-
  DERIVED:THE SHELF's CONTRACTS AT THIS DUMP,IN PLAIN WORDS (tools/lay-plain.mjs out of 'TryzShelf.lean',which tools/lay-shelf.mjs wrote):THE SAME DECLARATIONS UNDER THE SAME NAMES: 'import','namespace','open','def','theorem' AND NOTHING ELSE:no command of the shelf's:FOR A HAND-IN. Each laying:the table of numbers ('.._ren') and one theorem,a field a fact of the dump's own or the kernel's comparison;each contract:ONE APPLICATION.
-/
import Derived.Shelf.Strings.Builder1
import Derived.Shelf.Strings.Builder2
import Derived.Shelf.Strings.OnBuilder
import Derived.Shelf.Small.Bits
import Derived.Shelf.Small.Strs
import Derived.Shelf.Strings.BuilderF
import Derived.Shelf.Strings.BuilderK
import Derived.Shelf.Utf8.RuneCount
import Derived.Shelf.Strings.Builder2Cap
import Derived.Shelf.Strconv.Itoa0
import Derived.Shelf.Strconv.Itoa1
import Derived.Shelf.LaysM
import Derived.Shelf.Strconv.Itoa2
import Derived.Shelf.Strconv.Itoa3
import Derived.Shelf.Strconv.Itoa4
import Derived.Shelf.Strconv.ParseIntEmpty
import Derived.Shelf.Strconv.Clone
import Derived.Shelf.Strconv.SyntaxError
import Derived.Shelf.LaysC
import Derived.Shelf.Strconv.ToError
import Derived.Shelf.Strconv.Lower
import Derived.Shelf.Strconv.ParseUint10
import Derived.Shelf.Strconv.ParseUint10Empty
import Derived.Shelf.Strconv.ParseUint10Any
import Derived.Shelf.Strconv.ParseInt10
import Derived.Shelf.Strconv.RangeError
import Derived.Shelf.Strconv.ToErrorRange
import Derived.Shelf.Strconv.ParseUintEmpty
import Derived.Shelf.Strconv.ParseUint10b64
import Derived.Shelf.Strconv.ParseUint10b32
import Derived.Shelf.Strconv.ParseUint10b16
import Derived.Shelf.Strconv.ParseUint10b8
import Derived.Shelf.Strconv.ParseUint10At
import Derived.Shelf.Strconv.ParseInt10At64
import Derived.Shelf.Strconv.ParseInt10At32
import Derived.Shelf.Strconv.ParseInt10At16
import Derived.Shelf.Strconv.ParseInt10At8
import Derived.Shelf.Strconv.ParseInt10All
import Derived.Shelf.Strconv.ParseIntPublic10
import Derived.Shelf.Strconv.ErrVarParseInt
import Derived.Ground.MpProg
import Derived.Shelf.Pu.ParseUintPublic10
import Derived.Shelf.Pu.ErrVarParseUint
import Derived.Shelf.Strings.Search1
import Derived.Shelf.Strings.Search2
import Derived.Shelf.Strings.Search3
import Derived.Shelf.Strings.Count
import Derived.Shelf.Strings.Shaped
import Derived.Shelf.Sort.Plain
import Derived.Shelf.Strings.LastIndex
import Derived.Shelf.GgClosure.StringsIndexFunc
import Derived.Ground.GgwProg
import Derived.Shelf.GgClosure.StringsIndexFuncTop
import Derived.Shelf.GgClosure.StringsRunes
import Derived.Shelf.Strings.Prefix
import Derived.Shelf.Strings.Split
import Derived.Shelf.Strings.Replace
import Derived.Shelf.Strings.SplitShaped
import Derived.Shelf.Unicode.Decode
import Derived.Shelf.Strings.RuneCount
import Derived.Shelf.Bits.Mul64
import Derived.Shelf.Strings.Repeat
import Derived.Shelf.Unicode.DecodeSlow
import Derived.Shelf.Unicode.DecodeAny
import Derived.Shelf.Strings.FuncGrows
import Derived.Shelf.Strings.BuilderCap
import Derived.Shelf.Slices.Turned
import Derived.Shelf.Slices.Equal
import Derived.Ground.Names2Prog
import Derived.Shelf.Slices.Clone
import Derived.Shelf.Slices.In.SortNone
import Derived.Shelf.Slices.Empties2
import Derived.Ground.SlgnProg
import Derived.Shelf.SlicesE.Clone
import Derived.Ground.PaProg
import Derived.Shelf.Path.Small
import Derived.Test.YtkehdallfohjfaaGreatDoorProg
namespace Go.Proofs
open Go.Shelf
def Tryz.lays156_ren:Go.Shelf.Ren:=⟨fun|156=>41|165=>69|166=>70|169=>31|240=>105|241=>116|276=>139|277=>152|n=>n,fun|31=>23|9=>9|3=>3|4=>4|0=>0|20=>20|72=>79|76=>118|70=>76|37=>77|75=>102|127=>104|164=>171|5=>5|80=>83|n=>n,fun|n=>n⟩
theorem Tryz.lays156:Go.Proofs.Lays.n156 Tryz.prog Tryz.lays156_ren:={
  mixed:=by kernel_rfl
  f156:=Tryz.func41.trans (congrArg some (by kernel_rfl))
  f165:=Tryz.func69.trans (congrArg some (by kernel_rfl))
  f166:=Tryz.func70.trans (congrArg some (by kernel_rfl))
  f169:=Tryz.func31.trans (congrArg some (by kernel_rfl))
  f240:=Tryz.func105.trans (congrArg some (by kernel_rfl))
  f241:=Tryz.func116.trans (congrArg some (by kernel_rfl))
  f276:=Tryz.func139.trans (congrArg some (by kernel_rfl))
  f277:=Tryz.func152.trans (congrArg some (by kernel_rfl))
  t0:=Tryz.underlying0
  a0:=Tryz.isAgg0
  z0:=Tryz.sizeOf0
  v0:=Tryz.zeroValue0
  t3:=Tryz.underlying3
  a3:=Tryz.isAgg3
  z3:=Tryz.sizeOf3
  v3:=Tryz.zeroValue3
  t4:=Tryz.underlying4
  a4:=Tryz.isAgg4
  z4:=Tryz.sizeOf4
  v4:=Tryz.zeroValue4
  t9:=Tryz.underlying9
  a9:=Tryz.isAgg9
  z9:=Tryz.sizeOf9
  v9:=Tryz.zeroValue9
  t20:=Tryz.underlying20
  a20:=Tryz.isAgg20
  z20:=Tryz.sizeOf20
  v20:=Tryz.zeroValue20
  t31:=Tryz.underlying23
  a31:=Tryz.isAgg23
  z31:=Tryz.sizeOf23
  v31:=Tryz.zeroValue23
  t37:=Tryz.underlying77
  a37:=Tryz.isAgg77
  z37:=Tryz.sizeOf77
  v37:=Tryz.zeroValue77
  t70:=Tryz.underlying76
  a70:=Tryz.isAgg76
  z70:=Tryz.sizeOf76
  v70:=Tryz.zeroValue76
  t72:=Tryz.underlying79
  a72:=Tryz.isAgg79
  z72:=Tryz.sizeOf79
  v72:=Tryz.zeroValue79
  t75:=Tryz.underlying102
  a75:=Tryz.isAgg102
  z75:=Tryz.sizeOf102
  v75:=Tryz.zeroValue102
  t76:=Tryz.underlying118
  a76:=Tryz.isAgg118
  z76:=Tryz.sizeOf118
  v76:=Tryz.zeroValue118
  t127:=Tryz.underlying104
  a127:=Tryz.isAgg104
  z127:=Tryz.sizeOf104
  v127:=Tryz.zeroValue104
  t164:=Tryz.underlying171
  a164:=Tryz.isAgg171
  z164:=Tryz.sizeOf171
  v164:=Tryz.zeroValue171}
theorem Tryz.Builder_Extra_156:Builder.Extra Tryz.prog Tryz.lays156_ren:={
  sizeBuilder:=by kernel_rfl
  liesBuilder:=by kernel_rfl
  t5:=Tryz.underlying5
  a5:=Tryz.isAgg5
  z5:=Tryz.sizeOf5
  v5:=Tryz.zeroValue5
  infoByte:=by kernel_rfl
  cellsByte:=by kernel_rfl
  sizeByte:=by kernel_rfl
  neB5:=by decide}
open Go.RowKit in
theorem Tryz.strings_Join_none(a:Option Addr)(c:Nat)(sep:ByteArray)(w:World):
    Calls Tryz.prog 41 #[.slice a 0 c,.string sep] w fun e w'=>e = .returned (.string ⟨#[]⟩)/\w'=w:=Any.strings_Join_none Tryz.lays156 Tryz.Builder_Extra_156 a c sep w
open Go.RowKit in
theorem Tryz.strings_Join(bk o c:Nat)(xs:List ByteArray)(sep:ByteArray)(w:World)(hcells:∀(j:Nat) x,xs[j]? = some x->w.cell? ⟨bk,o+j,none⟩=some (.string x))(hbk:bk<w.heap.size)(hN:xs.length<=140737488355328)(hcap:xs.length<=c)(hlen:(Lib.join (xs.map (·.data.toList)) sep.data.toList).length<=140737488355328):
    Calls Tryz.prog 41 #[.slice (some ⟨bk,o,none⟩) xs.length c,.string sep] w fun e w'=>e = .returned (.string ⟨(Lib.join (xs.map (·.data.toList)) sep.data.toList).toArray⟩)/\Below w.heap.size w w':=Any.strings_Join Tryz.lays156 Tryz.Builder_Extra_156 bk o c xs sep w hcells hbk hN hcap hlen
def Tryz.lays137_ren:Go.Shelf.Ren:=⟨fun|137=>80|217=>119|266=>155|n=>n,fun|9=>9|5=>5|3=>3|n=>n,fun|n=>n⟩
theorem Tryz.lays137:Go.Proofs.Lays.n137 Tryz.prog Tryz.lays137_ren:={
  mixed:=by kernel_rfl
  f137:=Tryz.func80.trans (congrArg some (by kernel_rfl))
  f217:=Tryz.func119.trans (congrArg some (by kernel_rfl))
  f266:=Tryz.func155.trans (congrArg some (by kernel_rfl))
  t3:=Tryz.underlying3
  a3:=Tryz.isAgg3
  z3:=Tryz.sizeOf3
  v3:=Tryz.zeroValue3
  t5:=Tryz.underlying5
  a5:=Tryz.isAgg5
  z5:=Tryz.sizeOf5
  v5:=Tryz.zeroValue5
  t9:=Tryz.underlying9
  a9:=Tryz.isAgg9
  z9:=Tryz.sizeOf9
  v9:=Tryz.zeroValue9}
open Go.RowKit in
theorem Tryz.strings_IndexByte(s:ByteArray)(c:Int)(w:World):
    Calls Tryz.prog 80 #[.string s,.int .u8 c] w fun e w'=>e = .returned (.int .i64 (Lib.indexByte s.data.toList c.toNat.toUInt8))/\w'=w:=Any.strings_IndexByte Tryz.lays137 s c w
def Tryz.laysM173_ren:Go.Shelf.Ren:=⟨fun|173=>66|246=>113|283=>145|284=>146|285=>147|286=>148|129=>166|317=>165|318=>167|319=>168|320=>169|337=>193|338=>194|n=>n,fun|2=>2|3=>3|9=>9|4=>4|171=>185|0=>0|53=>157|37=>77|5=>5|173=>188|212=>213|51=>143|20=>20|213=>214|46=>166|232=>267|233=>268|n=>n,fun|17=>1|18=>4|19=>5|n=>n⟩
theorem Tryz.laysM173:Go.Proofs.LaysM.n173 Tryz.prog Tryz.laysM173_ren:={
  mixed:=by kernel_rfl
  f129:=Tryz.func166.trans (congrArg some (by kernel_rfl))
  f173:=Tryz.func66.trans (congrArg some (by kernel_rfl))
  f246:=Tryz.func113.trans (congrArg some (by kernel_rfl))
  f283:=Tryz.func145.trans (congrArg some (by kernel_rfl))
  f284:=Tryz.func146.trans (congrArg some (by kernel_rfl))
  f285:=Tryz.func147.trans (congrArg some (by kernel_rfl))
  f286:=Tryz.func148.trans (congrArg some (by kernel_rfl))
  f317:=Tryz.func165.trans (congrArg some (by kernel_rfl))
  f318:=Tryz.func167.trans (congrArg some (by kernel_rfl))
  f319:=Tryz.func168.trans (congrArg some (by kernel_rfl))
  f320:=Tryz.func169.trans (congrArg some (by kernel_rfl))
  f337:=Tryz.func193.trans (congrArg some (by kernel_rfl))
  f338:=Tryz.func194.trans (congrArg some (by kernel_rfl))
  t0:=Tryz.underlying0
  a0:=Tryz.isAgg0
  z0:=Tryz.sizeOf0
  v0:=Tryz.zeroValue0
  t2:=Tryz.underlying2
  a2:=Tryz.isAgg2
  z2:=Tryz.sizeOf2
  v2:=Tryz.zeroValue2
  t3:=Tryz.underlying3
  a3:=Tryz.isAgg3
  z3:=Tryz.sizeOf3
  v3:=Tryz.zeroValue3
  t4:=Tryz.underlying4
  a4:=Tryz.isAgg4
  z4:=Tryz.sizeOf4
  v4:=Tryz.zeroValue4
  t5:=Tryz.underlying5
  a5:=Tryz.isAgg5
  z5:=Tryz.sizeOf5
  v5:=Tryz.zeroValue5
  t9:=Tryz.underlying9
  a9:=Tryz.isAgg9
  z9:=Tryz.sizeOf9
  v9:=Tryz.zeroValue9
  t20:=Tryz.underlying20
  a20:=Tryz.isAgg20
  z20:=Tryz.sizeOf20
  v20:=Tryz.zeroValue20
  t37:=Tryz.underlying77
  a37:=Tryz.isAgg77
  z37:=Tryz.sizeOf77
  v37:=Tryz.zeroValue77
  t46:=Tryz.underlying166
  a46:=Tryz.isAgg166
  z46:=Tryz.sizeOf166
  v46:=Tryz.zeroValue166
  t51:=Tryz.underlying143
  a51:=Tryz.isAgg143
  z51:=Tryz.sizeOf143
  v51:=Tryz.zeroValue143
  t53:=Tryz.underlying157
  a53:=Tryz.isAgg157
  z53:=Tryz.sizeOf157
  v53:=Tryz.zeroValue157
  t171:=Tryz.underlying185
  a171:=Tryz.isAgg185
  z171:=Tryz.sizeOf185
  v171:=Tryz.zeroValue185
  t173:=Tryz.underlying188
  a173:=Tryz.isAgg188
  z173:=Tryz.sizeOf188
  v173:=Tryz.zeroValue188
  t212:=Tryz.underlying213
  a212:=Tryz.isAgg213
  z212:=Tryz.sizeOf213
  v212:=Tryz.zeroValue213
  t213:=Tryz.underlying214
  a213:=Tryz.isAgg214
  z213:=Tryz.sizeOf214
  t232:=Tryz.underlying267
  a232:=Tryz.isAgg267
  z232:=Tryz.sizeOf267
  v232:=Tryz.zeroValue267
  t233:=Tryz.underlying268
  a233:=Tryz.isAgg268
  z233:=Tryz.sizeOf268
  v233:=Tryz.zeroValue268
  g17:=by kernel_rfl
  g18:=by kernel_rfl
  g19:=by kernel_rfl
  i0:=by kernel_rfl
  i2:=by kernel_rfl
  i3:=by kernel_rfl
  i4:=by kernel_rfl
  i5:=by kernel_rfl
  i9:=by kernel_rfl
  i20:=by kernel_rfl
  i37:=by kernel_rfl
  i46:=by kernel_rfl
  i51:=by kernel_rfl
  i53:=by kernel_rfl
  i171:=by kernel_rfl
  i173:=by kernel_rfl
  i212:=by kernel_rfl
  i232:=by kernel_rfl
  i233:=by kernel_rfl
  m17:=by kernel_rfl
  m18:=by kernel_rfl
  m19:=by kernel_rfl}
open Go.RowKit Go.Sort Go.Lib in
theorem Tryz.strconv_FormatInt_10(n:Int)(h0: -9223372036854775808<=n)(h1:n<=9223372036854775807)(w:World)(htab:Lib.TabIs Tryz.prog w "internal/strconv.uint64pow10" .u64 Lib.pow10Tab):
    Calls Tryz.prog 66 #[.int .i64 n,.int .i64 10] w fun e w'=>e = .returned (.string ⟨(Lib.itoa n).toArray⟩)/\∃k os,w'=grow (w.drewN k) os:=Any.strconv_FormatInt_10 Tryz.laysM173 n h0 h1 w htab
def Tryz.laysC174_ren:Go.Shelf.Ren:=⟨fun|174=>133|247=>158|245=>154|287=>153|279=>178|280=>179|281=>180|282=>181|321=>176|322=>177|316=>201|171=>203|205=>202|243=>223|246=>113|283=>145|284=>146|285=>147|286=>148|129=>166|317=>165|318=>167|319=>168|320=>169|337=>193|338=>194|n=>n,fun|9=>9|3=>3|2=>2|75=>102|85=>163|4=>4|167=>232|5=>5|53=>157|175=>158|46=>166|168=>234|37=>77|0=>0|210=>257|21=>21|127=>104|145=>281|143=>279|171=>185|173=>188|212=>213|51=>143|20=>20|213=>214|232=>267|233=>268|80=>83|n=>n,fun|15=>2|16=>3|17=>1|18=>4|19=>5|n=>n⟩
theorem Tryz.laysC174:Go.Proofs.LaysC.n174 Tryz.prog Tryz.laysC174_ren:={
  mixed:=by kernel_rfl
  f129:=Tryz.func166.trans (congrArg some (by kernel_rfl))
  f171:=Tryz.func203.trans (congrArg some (by kernel_rfl))
  f174:=Tryz.func133.trans (congrArg some (by kernel_rfl))
  f205:=Tryz.func202.trans (congrArg some (by kernel_rfl))
  f243:=Tryz.func223.trans (congrArg some (by kernel_rfl))
  f245:=Tryz.func154.trans (congrArg some (by kernel_rfl))
  f246:=Tryz.func113.trans (congrArg some (by kernel_rfl))
  f247:=Tryz.func158.trans (congrArg some (by kernel_rfl))
  f279:=Tryz.func178.trans (congrArg some (by kernel_rfl))
  f280:=Tryz.func179.trans (congrArg some (by kernel_rfl))
  f281:=Tryz.func180.trans (congrArg some (by kernel_rfl))
  f282:=Tryz.func181.trans (congrArg some (by kernel_rfl))
  f283:=Tryz.func145.trans (congrArg some (by kernel_rfl))
  f284:=Tryz.func146.trans (congrArg some (by kernel_rfl))
  f285:=Tryz.func147.trans (congrArg some (by kernel_rfl))
  f286:=Tryz.func148.trans (congrArg some (by kernel_rfl))
  f287:=Tryz.func153.trans (congrArg some (by kernel_rfl))
  f316:=Tryz.func201.trans (congrArg some (by kernel_rfl))
  f317:=Tryz.func165.trans (congrArg some (by kernel_rfl))
  f318:=Tryz.func167.trans (congrArg some (by kernel_rfl))
  f319:=Tryz.func168.trans (congrArg some (by kernel_rfl))
  f320:=Tryz.func169.trans (congrArg some (by kernel_rfl))
  f321:=Tryz.func176.trans (congrArg some (by kernel_rfl))
  f322:=Tryz.func177.trans (congrArg some (by kernel_rfl))
  f337:=Tryz.func193.trans (congrArg some (by kernel_rfl))
  f338:=Tryz.func194.trans (congrArg some (by kernel_rfl))
  t0:=Tryz.underlying0
  a0:=Tryz.isAgg0
  z0:=Tryz.sizeOf0
  v0:=Tryz.zeroValue0
  t2:=Tryz.underlying2
  a2:=Tryz.isAgg2
  z2:=Tryz.sizeOf2
  v2:=Tryz.zeroValue2
  t3:=Tryz.underlying3
  a3:=Tryz.isAgg3
  z3:=Tryz.sizeOf3
  v3:=Tryz.zeroValue3
  t4:=Tryz.underlying4
  a4:=Tryz.isAgg4
  z4:=Tryz.sizeOf4
  v4:=Tryz.zeroValue4
  t5:=Tryz.underlying5
  a5:=Tryz.isAgg5
  z5:=Tryz.sizeOf5
  v5:=Tryz.zeroValue5
  t9:=Tryz.underlying9
  a9:=Tryz.isAgg9
  z9:=Tryz.sizeOf9
  v9:=Tryz.zeroValue9
  t20:=Tryz.underlying20
  a20:=Tryz.isAgg20
  z20:=Tryz.sizeOf20
  v20:=Tryz.zeroValue20
  t21:=Tryz.underlying21
  a21:=Tryz.isAgg21
  z21:=Tryz.sizeOf21
  v21:=Tryz.zeroValue21
  t37:=Tryz.underlying77
  a37:=Tryz.isAgg77
  z37:=Tryz.sizeOf77
  v37:=Tryz.zeroValue77
  t46:=Tryz.underlying166
  a46:=Tryz.isAgg166
  z46:=Tryz.sizeOf166
  v46:=Tryz.zeroValue166
  t51:=Tryz.underlying143
  a51:=Tryz.isAgg143
  z51:=Tryz.sizeOf143
  v51:=Tryz.zeroValue143
  t53:=Tryz.underlying157
  a53:=Tryz.isAgg157
  z53:=Tryz.sizeOf157
  v53:=Tryz.zeroValue157
  t75:=Tryz.underlying102
  a75:=Tryz.isAgg102
  z75:=Tryz.sizeOf102
  v75:=Tryz.zeroValue102
  t85:=Tryz.underlying163
  a85:=Tryz.isAgg163
  z85:=Tryz.sizeOf163
  v85:=Tryz.zeroValue163
  t127:=Tryz.underlying104
  a127:=Tryz.isAgg104
  z127:=Tryz.sizeOf104
  v127:=Tryz.zeroValue104
  t143:=Tryz.underlying279
  a143:=Tryz.isAgg279
  z143:=Tryz.sizeOf279
  v143:=Tryz.zeroValue279
  t145:=Tryz.underlying281
  a145:=Tryz.isAgg281
  z145:=Tryz.sizeOf281
  v145:=Tryz.zeroValue281
  t167:=Tryz.underlying232
  a167:=Tryz.isAgg232
  z167:=Tryz.sizeOf232
  v167:=Tryz.zeroValue232
  t168:=Tryz.underlying234
  a168:=Tryz.isAgg234
  z168:=Tryz.sizeOf234
  v168:=Tryz.zeroValue234
  t171:=Tryz.underlying185
  a171:=Tryz.isAgg185
  z171:=Tryz.sizeOf185
  v171:=Tryz.zeroValue185
  t173:=Tryz.underlying188
  a173:=Tryz.isAgg188
  z173:=Tryz.sizeOf188
  v173:=Tryz.zeroValue188
  t175:=Tryz.underlying158
  a175:=Tryz.isAgg158
  z175:=Tryz.sizeOf158
  v175:=Tryz.zeroValue158
  t210:=Tryz.underlying257
  a210:=Tryz.isAgg257
  z210:=Tryz.sizeOf257
  v210:=Tryz.zeroValue257
  t212:=Tryz.underlying213
  a212:=Tryz.isAgg213
  z212:=Tryz.sizeOf213
  v212:=Tryz.zeroValue213
  t213:=Tryz.underlying214
  a213:=Tryz.isAgg214
  z213:=Tryz.sizeOf214
  t232:=Tryz.underlying267
  a232:=Tryz.isAgg267
  z232:=Tryz.sizeOf267
  v232:=Tryz.zeroValue267
  t233:=Tryz.underlying268
  a233:=Tryz.isAgg268
  z233:=Tryz.sizeOf268
  v233:=Tryz.zeroValue268
  g15:=by kernel_rfl
  g16:=by kernel_rfl
  g17:=by kernel_rfl
  g18:=by kernel_rfl
  g19:=by kernel_rfl
  t80:=Tryz.underlying83
  a80:=Tryz.isAgg83
  z80:=Tryz.sizeOf83
  v80:=Tryz.zeroValue83
  i0:=by kernel_rfl
  i2:=by kernel_rfl
  i3:=by kernel_rfl
  i4:=by kernel_rfl
  i5:=by kernel_rfl
  i9:=by kernel_rfl
  i20:=by kernel_rfl
  i21:=by kernel_rfl
  i37:=by kernel_rfl
  i46:=by kernel_rfl
  i51:=by kernel_rfl
  i53:=by kernel_rfl
  i75:=by kernel_rfl
  i80:=by kernel_rfl
  i85:=by kernel_rfl
  i127:=by kernel_rfl
  i143:=by kernel_rfl
  i145:=by kernel_rfl
  i167:=by kernel_rfl
  i168:=by kernel_rfl
  i171:=by kernel_rfl
  i173:=by kernel_rfl
  i175:=by kernel_rfl
  i210:=by kernel_rfl
  i212:=by kernel_rfl
  i232:=by kernel_rfl
  i233:=by kernel_rfl
  m15:=by kernel_rfl
  m16:=by kernel_rfl
  m17:=by kernel_rfl
  m18:=by kernel_rfl
  m19:=by kernel_rfl
  c0:=by kernel_rfl
  c2:=by kernel_rfl
  c3:=by kernel_rfl
  c4:=by kernel_rfl
  c5:=by kernel_rfl
  c9:=by kernel_rfl
  c20:=by kernel_rfl
  c21:=by kernel_rfl
  c37:=by kernel_rfl
  c46:=by kernel_rfl
  c51:=by kernel_rfl
  c53:=by kernel_rfl
  c75:=by kernel_rfl
  c80:=by kernel_rfl
  c85:=by kernel_rfl
  c127:=by kernel_rfl
  c143:=by kernel_rfl
  c145:=by kernel_rfl
  c167:=by kernel_rfl
  c168:=by kernel_rfl
  c171:=by kernel_rfl
  c173:=by kernel_rfl
  c175:=by kernel_rfl
  c210:=by kernel_rfl
  c212:=by kernel_rfl
  c213:=by kernel_rfl
  c232:=by kernel_rfl
  c233:=by kernel_rfl}
open Go.RowKit in
theorem Tryz.strconv_ParseInt_10_at64_ok(s:ByteArray)(hmax:s.size<=9223372036854775806)(v:Int)(h:Lib.parseIntB 64 s.data.toList = .ok v)(w:World):
    Calls Tryz.prog 133 #[.string s,.int .i64 10,.int .i64 64] w fun e w'=>e = .returned (.tuple #[.int .i64 v,.nilIface])/\(w'=w\/∃t,w'=Lib.bytesWorld w 5 t):=Any.strconv_ParseInt_10_at64_ok Tryz.laysC174 s hmax v h w
def Tryz.laysPu14_ren:Go.Shelf.Ren:=⟨fun|14=>117|16=>153|17=>154|19=>176|20=>177|21=>178|22=>179|23=>180|24=>181|25=>201|27=>203|26=>202|28=>223|29=>113|30=>145|31=>146|32=>147|33=>148|35=>166|34=>165|36=>167|37=>168|38=>169|39=>193|40=>194|n=>n,fun|9=>9|3=>3|22=>157|24=>102|25=>158|4=>4|34=>232|5=>5|36=>166|37=>77|0=>0|39=>234|21=>21|44=>257|47=>104|50=>281|48=>279|2=>2|52=>185|55=>188|59=>213|60=>143|20=>20|61=>214|65=>267|66=>268|67=>83|n=>n,fun|0=>2|1=>3|2=>1|3=>4|4=>5|n=>n⟩
theorem Tryz.laysPu14:Go.Proofs.LaysPu.n14 Tryz.prog Tryz.laysPu14_ren:={
  mixed:=by kernel_rfl
  f14:=Tryz.func117.trans (congrArg some (by kernel_rfl))
  f16:=Tryz.func153.trans (congrArg some (by kernel_rfl))
  f17:=Tryz.func154.trans (congrArg some (by kernel_rfl))
  f19:=Tryz.func176.trans (congrArg some (by kernel_rfl))
  f20:=Tryz.func177.trans (congrArg some (by kernel_rfl))
  f21:=Tryz.func178.trans (congrArg some (by kernel_rfl))
  f22:=Tryz.func179.trans (congrArg some (by kernel_rfl))
  f23:=Tryz.func180.trans (congrArg some (by kernel_rfl))
  f24:=Tryz.func181.trans (congrArg some (by kernel_rfl))
  f25:=Tryz.func201.trans (congrArg some (by kernel_rfl))
  f26:=Tryz.func202.trans (congrArg some (by kernel_rfl))
  f27:=Tryz.func203.trans (congrArg some (by kernel_rfl))
  f28:=Tryz.func223.trans (congrArg some (by kernel_rfl))
  f29:=Tryz.func113.trans (congrArg some (by kernel_rfl))
  f30:=Tryz.func145.trans (congrArg some (by kernel_rfl))
  f31:=Tryz.func146.trans (congrArg some (by kernel_rfl))
  f32:=Tryz.func147.trans (congrArg some (by kernel_rfl))
  f33:=Tryz.func148.trans (congrArg some (by kernel_rfl))
  f34:=Tryz.func165.trans (congrArg some (by kernel_rfl))
  f35:=Tryz.func166.trans (congrArg some (by kernel_rfl))
  f36:=Tryz.func167.trans (congrArg some (by kernel_rfl))
  f37:=Tryz.func168.trans (congrArg some (by kernel_rfl))
  f38:=Tryz.func169.trans (congrArg some (by kernel_rfl))
  f39:=Tryz.func193.trans (congrArg some (by kernel_rfl))
  f40:=Tryz.func194.trans (congrArg some (by kernel_rfl))
  t0:=Tryz.underlying0
  a0:=Tryz.isAgg0
  z0:=Tryz.sizeOf0
  v0:=Tryz.zeroValue0
  i0:=by kernel_rfl
  t2:=Tryz.underlying2
  a2:=Tryz.isAgg2
  z2:=Tryz.sizeOf2
  v2:=Tryz.zeroValue2
  i2:=by kernel_rfl
  t3:=Tryz.underlying3
  a3:=Tryz.isAgg3
  z3:=Tryz.sizeOf3
  v3:=Tryz.zeroValue3
  i3:=by kernel_rfl
  t4:=Tryz.underlying4
  a4:=Tryz.isAgg4
  z4:=Tryz.sizeOf4
  v4:=Tryz.zeroValue4
  i4:=by kernel_rfl
  t5:=Tryz.underlying5
  a5:=Tryz.isAgg5
  z5:=Tryz.sizeOf5
  v5:=Tryz.zeroValue5
  i5:=by kernel_rfl
  t9:=Tryz.underlying9
  a9:=Tryz.isAgg9
  z9:=Tryz.sizeOf9
  v9:=Tryz.zeroValue9
  i9:=by kernel_rfl
  t20:=Tryz.underlying20
  a20:=Tryz.isAgg20
  z20:=Tryz.sizeOf20
  v20:=Tryz.zeroValue20
  i20:=by kernel_rfl
  t21:=Tryz.underlying21
  a21:=Tryz.isAgg21
  z21:=Tryz.sizeOf21
  v21:=Tryz.zeroValue21
  i21:=by kernel_rfl
  t22:=Tryz.underlying157
  a22:=Tryz.isAgg157
  z22:=Tryz.sizeOf157
  v22:=Tryz.zeroValue157
  i22:=by kernel_rfl
  t24:=Tryz.underlying102
  a24:=Tryz.isAgg102
  z24:=Tryz.sizeOf102
  v24:=Tryz.zeroValue102
  i24:=by kernel_rfl
  t25:=Tryz.underlying158
  a25:=Tryz.isAgg158
  z25:=Tryz.sizeOf158
  v25:=Tryz.zeroValue158
  i25:=by kernel_rfl
  t34:=Tryz.underlying232
  a34:=Tryz.isAgg232
  z34:=Tryz.sizeOf232
  v34:=Tryz.zeroValue232
  i34:=by kernel_rfl
  c34:=by kernel_rfl
  t36:=Tryz.underlying166
  a36:=Tryz.isAgg166
  z36:=Tryz.sizeOf166
  v36:=Tryz.zeroValue166
  i36:=by kernel_rfl
  t37:=Tryz.underlying77
  a37:=Tryz.isAgg77
  z37:=Tryz.sizeOf77
  v37:=Tryz.zeroValue77
  i37:=by kernel_rfl
  t39:=Tryz.underlying234
  a39:=Tryz.isAgg234
  z39:=Tryz.sizeOf234
  v39:=Tryz.zeroValue234
  i39:=by kernel_rfl
  t44:=Tryz.underlying257
  a44:=Tryz.isAgg257
  z44:=Tryz.sizeOf257
  v44:=Tryz.zeroValue257
  i44:=by kernel_rfl
  t47:=Tryz.underlying104
  a47:=Tryz.isAgg104
  z47:=Tryz.sizeOf104
  v47:=Tryz.zeroValue104
  i47:=by kernel_rfl
  t48:=Tryz.underlying279
  a48:=Tryz.isAgg279
  z48:=Tryz.sizeOf279
  v48:=Tryz.zeroValue279
  i48:=by kernel_rfl
  t50:=Tryz.underlying281
  a50:=Tryz.isAgg281
  z50:=Tryz.sizeOf281
  v50:=Tryz.zeroValue281
  i50:=by kernel_rfl
  t52:=Tryz.underlying185
  a52:=Tryz.isAgg185
  z52:=Tryz.sizeOf185
  v52:=Tryz.zeroValue185
  i52:=by kernel_rfl
  t55:=Tryz.underlying188
  a55:=Tryz.isAgg188
  z55:=Tryz.sizeOf188
  v55:=Tryz.zeroValue188
  i55:=by kernel_rfl
  t59:=Tryz.underlying213
  a59:=Tryz.isAgg213
  z59:=Tryz.sizeOf213
  v59:=Tryz.zeroValue213
  i59:=by kernel_rfl
  t60:=Tryz.underlying143
  a60:=Tryz.isAgg143
  z60:=Tryz.sizeOf143
  v60:=Tryz.zeroValue143
  i60:=by kernel_rfl
  t61:=Tryz.underlying214
  a61:=Tryz.isAgg214
  z61:=Tryz.sizeOf214
  t65:=Tryz.underlying267
  a65:=Tryz.isAgg267
  z65:=Tryz.sizeOf267
  v65:=Tryz.zeroValue267
  i65:=by kernel_rfl
  t66:=Tryz.underlying268
  a66:=Tryz.isAgg268
  z66:=Tryz.sizeOf268
  v66:=Tryz.zeroValue268
  i66:=by kernel_rfl
  t67:=Tryz.underlying83
  a67:=Tryz.isAgg83
  z67:=Tryz.sizeOf83
  v67:=Tryz.zeroValue83
  i67:=by kernel_rfl
  g0:=by kernel_rfl
  m0:=by kernel_rfl
  g1:=by kernel_rfl
  m1:=by kernel_rfl
  g2:=by kernel_rfl
  m2:=by kernel_rfl
  g3:=by kernel_rfl
  m3:=by kernel_rfl
  g4:=by kernel_rfl
  m4:=by kernel_rfl}
open Go.RowKit in
theorem Tryz.strconv_ParseUint_10_at64_ok(s:ByteArray)(hmax:s.size<=9223372036854775806)(u:Nat)(h:Lib.parseUintB 64 s.data.toList = .ok u)(w:World):
    Calls Tryz.prog 117 #[.string s,.int .i64 10,.int .i64 64] w fun e w'=>e = .returned (.tuple #[.int .u64 u,.nilIface])/\(w'=w\/w'=Lib.bytesWorld w 5 s):=Any.strconv_ParseUint_10_at64_ok Tryz.laysPu14 s hmax u h w
open Go.RowKit in
theorem Tryz.strconv_ParseUint_10_at64_range(s:ByteArray)(hlim:s.size<=281474976710656)(h:Lib.parseUintB 64 s.data.toList = .range)(ev:Value)(w:World)(hv:w.cell? ⟨3,0,none⟩=some ev)(hev:ev = .nilIface\/∃te pe,ev = .iface te pe):
    Calls Tryz.prog 117 #[.string s,.int .i64 10,.int .i64 64] w fun e w'=>∃N,e = .returned (.tuple #[.int .u64 18446744073709551615,.iface 234 (.pointer (some ⟨N,0,none⟩))])/\w.heap.size<=N/\w'.heap[N]? = some (.cells #[.string ⟨#[80,97,114,115,101,85,105,110,116]⟩,.string s,ev] 257 (0,0))/\Below w.heap.size w w':=Any.strconv_ParseUint_10_at64_range Tryz.laysPu14 s hlim h ev w hv hev
def Tryz.lays144_ren:Go.Shelf.Ren:=⟨fun|144=>107|143=>122|219=>156|217=>119|225=>182|224=>183|267=>184|266=>155|314=>204|n=>n,fun|9=>9|4=>4|3=>3|5=>5|46=>166|146=>194|51=>143|n=>n,fun|1=>0|n=>n⟩
theorem Tryz.lays144:Go.Proofs.Lays.n144 Tryz.prog Tryz.lays144_ren:={
  mixed:=by kernel_rfl
  f143:=Tryz.func122.trans (congrArg some (by kernel_rfl))
  f144:=Tryz.func107.trans (congrArg some (by kernel_rfl))
  f217:=Tryz.func119.trans (congrArg some (by kernel_rfl))
  f219:=Tryz.func156.trans (congrArg some (by kernel_rfl))
  f224:=Tryz.func183.trans (congrArg some (by kernel_rfl))
  f225:=Tryz.func182.trans (congrArg some (by kernel_rfl))
  f266:=Tryz.func155.trans (congrArg some (by kernel_rfl))
  f267:=Tryz.func184.trans (congrArg some (by kernel_rfl))
  f314:=Tryz.func204.trans (congrArg some (by kernel_rfl))
  t3:=Tryz.underlying3
  a3:=Tryz.isAgg3
  z3:=Tryz.sizeOf3
  v3:=Tryz.zeroValue3
  t4:=Tryz.underlying4
  a4:=Tryz.isAgg4
  z4:=Tryz.sizeOf4
  v4:=Tryz.zeroValue4
  t5:=Tryz.underlying5
  a5:=Tryz.isAgg5
  z5:=Tryz.sizeOf5
  v5:=Tryz.zeroValue5
  t9:=Tryz.underlying9
  a9:=Tryz.isAgg9
  z9:=Tryz.sizeOf9
  v9:=Tryz.zeroValue9
  t46:=Tryz.underlying166
  a46:=Tryz.isAgg166
  z46:=Tryz.sizeOf166
  v46:=Tryz.zeroValue166
  t51:=Tryz.underlying143
  a51:=Tryz.isAgg143
  z51:=Tryz.sizeOf143
  v51:=Tryz.zeroValue143
  t146:=Tryz.underlying194
  a146:=Tryz.isAgg194
  z146:=Tryz.sizeOf194
  v146:=Tryz.zeroValue194
  g1:=by kernel_rfl}
open Go.RowKit Go.Lib in
theorem Tryz.strings_Contains(s sub:ByteArray)(m:Int)(w:World)(hs:s.size<4294967281)(hm:w.cell? ⟨0,0,none⟩=some (.int .i64 m)):
    Calls Tryz.prog 107 #[.string s,.string sub] w fun e w'=>e = .returned (.bool (Lib.contains s.data.toList sub.data.toList))/\w'=w:=Any.strings_Contains Tryz.lays144 s sub m w hs hm
def Tryz.lays138_ren:Go.Shelf.Ren:=⟨fun|138=>81|195=>120|218=>121|143=>122|219=>156|217=>119|225=>182|224=>183|267=>184|266=>155|314=>204|n=>n,fun|9=>9|3=>3|4=>4|5=>5|0=>0|46=>166|146=>194|51=>143|n=>n,fun|1=>0|n=>n⟩
theorem Tryz.lays138:Go.Proofs.Lays.n138 Tryz.prog Tryz.lays138_ren:={
  mixed:=by kernel_rfl
  f138:=Tryz.func81.trans (congrArg some (by kernel_rfl))
  f143:=Tryz.func122.trans (congrArg some (by kernel_rfl))
  f195:=Tryz.func120.trans (congrArg some (by kernel_rfl))
  f217:=Tryz.func119.trans (congrArg some (by kernel_rfl))
  f218:=Tryz.func121.trans (congrArg some (by kernel_rfl))
  f219:=Tryz.func156.trans (congrArg some (by kernel_rfl))
  f224:=Tryz.func183.trans (congrArg some (by kernel_rfl))
  f225:=Tryz.func182.trans (congrArg some (by kernel_rfl))
  f266:=Tryz.func155.trans (congrArg some (by kernel_rfl))
  f267:=Tryz.func184.trans (congrArg some (by kernel_rfl))
  f314:=Tryz.func204.trans (congrArg some (by kernel_rfl))
  t0:=Tryz.underlying0
  a0:=Tryz.isAgg0
  z0:=Tryz.sizeOf0
  v0:=Tryz.zeroValue0
  t3:=Tryz.underlying3
  a3:=Tryz.isAgg3
  z3:=Tryz.sizeOf3
  v3:=Tryz.zeroValue3
  t4:=Tryz.underlying4
  a4:=Tryz.isAgg4
  z4:=Tryz.sizeOf4
  v4:=Tryz.zeroValue4
  t5:=Tryz.underlying5
  a5:=Tryz.isAgg5
  z5:=Tryz.sizeOf5
  v5:=Tryz.zeroValue5
  t9:=Tryz.underlying9
  a9:=Tryz.isAgg9
  z9:=Tryz.sizeOf9
  v9:=Tryz.zeroValue9
  t46:=Tryz.underlying166
  a46:=Tryz.isAgg166
  z46:=Tryz.sizeOf166
  v46:=Tryz.zeroValue166
  t51:=Tryz.underlying143
  a51:=Tryz.isAgg143
  z51:=Tryz.sizeOf143
  v51:=Tryz.zeroValue143
  t146:=Tryz.underlying194
  a146:=Tryz.isAgg194
  z146:=Tryz.sizeOf194
  v146:=Tryz.zeroValue194
  g1:=by kernel_rfl}
open Go.RowKit Go.Lib in
theorem Tryz.strings_Count_one(s:ByteArray)(c:UInt8)(w:World):
    Calls Tryz.prog 81 #[.string s,.string ⟨#[c]⟩] w fun e w'=>e = .returned (.int .i64 (Lib.countByte s.data.toList c))/\w'=w:=Any.strings_Count_one Tryz.lays138 s c w
def Tryz.lays149_ren:Go.Shelf.Ren:=⟨fun|149=>82|222=>123|n=>n,fun|9=>9|5=>5|3=>3|4=>4|n=>n,fun|n=>n⟩
theorem Tryz.lays149:Go.Proofs.Lays.n149 Tryz.prog Tryz.lays149_ren:={
  mixed:=by kernel_rfl
  f149:=Tryz.func82.trans (congrArg some (by kernel_rfl))
  f222:=Tryz.func123.trans (congrArg some (by kernel_rfl))
  t3:=Tryz.underlying3
  a3:=Tryz.isAgg3
  z3:=Tryz.sizeOf3
  v3:=Tryz.zeroValue3
  t4:=Tryz.underlying4
  a4:=Tryz.isAgg4
  z4:=Tryz.sizeOf4
  v4:=Tryz.zeroValue4
  t5:=Tryz.underlying5
  a5:=Tryz.isAgg5
  z5:=Tryz.sizeOf5
  v5:=Tryz.zeroValue5
  t9:=Tryz.underlying9
  a9:=Tryz.isAgg9
  z9:=Tryz.sizeOf9
  v9:=Tryz.zeroValue9}
open Go.RowKit Go.Lib in
theorem Tryz.strings_LastIndexByte(s:ByteArray)(c:Int)(hs:s.size<4611686018427387904)(w:World):
    Calls Tryz.prog 82 #[.string s,.int .u8 c] w fun e w'=>e = .returned (.int .i64 (Lib.lastIndexByte s c))/\w'=w:=Any.strings_LastIndexByte Tryz.lays149 s c hs w
def Tryz.lays99_ren:Go.Shelf.Ren:=⟨fun|99=>79|206=>118|n=>n,fun|9=>9|4=>4|3=>3|n=>n,fun|n=>n⟩
theorem Tryz.lays99:Go.Proofs.Lays.n99 Tryz.prog Tryz.lays99_ren:={
  mixed:=by kernel_rfl
  f99:=Tryz.func79.trans (congrArg some (by kernel_rfl))
  f206:=Tryz.func118.trans (congrArg some (by kernel_rfl))
  t3:=Tryz.underlying3
  a3:=Tryz.isAgg3
  z3:=Tryz.sizeOf3
  v3:=Tryz.zeroValue3
  t4:=Tryz.underlying4
  a4:=Tryz.isAgg4
  z4:=Tryz.sizeOf4
  v4:=Tryz.zeroValue4
  t9:=Tryz.underlying9
  a9:=Tryz.isAgg9
  z9:=Tryz.sizeOf9
  v9:=Tryz.zeroValue9}
open Go.RowKit Go.Lib in
theorem Tryz.strings_HasPrefix(s p:ByteArray)(w:World):
    Calls Tryz.prog 79 #[.string s,.string p] w fun e w'=>e = .returned (.bool (Lib.hasPrefix s.data.toList p.data.toList))/\w'=w:=Any.strings_HasPrefix Tryz.lays99 s p w
def Tryz.lays110_ren:Go.Shelf.Ren:=⟨fun|110=>97|109=>134|n=>n,fun|31=>23|9=>9|4=>4|3=>3|0=>0|n=>n,fun|n=>n⟩
theorem Tryz.lays110:Go.Proofs.Lays.n110 Tryz.prog Tryz.lays110_ren:={
  mixed:=by kernel_rfl
  f109:=Tryz.func134.trans (congrArg some (by kernel_rfl))
  f110:=Tryz.func97.trans (congrArg some (by kernel_rfl))
  t0:=Tryz.underlying0
  a0:=Tryz.isAgg0
  z0:=Tryz.sizeOf0
  v0:=Tryz.zeroValue0
  t3:=Tryz.underlying3
  a3:=Tryz.isAgg3
  z3:=Tryz.sizeOf3
  v3:=Tryz.zeroValue3
  t4:=Tryz.underlying4
  a4:=Tryz.isAgg4
  z4:=Tryz.sizeOf4
  v4:=Tryz.zeroValue4
  t9:=Tryz.underlying9
  a9:=Tryz.isAgg9
  z9:=Tryz.sizeOf9
  v9:=Tryz.zeroValue9
  t31:=Tryz.underlying23
  a31:=Tryz.isAgg23
  z31:=Tryz.sizeOf23
  v31:=Tryz.zeroValue23}
open Go.Lib in
theorem Tryz.slices_Contains_string(b off n c:Nat)(zs:List ByteArray)(x:ByteArray)(w:World)(hz:n<=zs.length)(hbig:n<=9223372036854775807)(hc:∀j,j<zs.length->w.cell? ⟨b,off+j,none⟩=some (.string (zs.getD j ByteArray.empty))):
    Calls Tryz.prog 97 #[.slice (some ⟨b,off,none⟩) n c,.string x] w fun e w'=>e = .returned (.bool (Lib.containsS (zs.take n) x))/\w'=w:=Any.slices_Contains_string Tryz.lays110 b off n c zs x w hz hbig hc
def Tryz.laysNm216_ren:Go.Shelf.Ren:=⟨fun|16=>191|n=>n,fun|24=>23|9=>9|4=>4|n=>n,fun|n=>n⟩
theorem Tryz.laysNm216:Go.Proofs.Lays2.n16 Tryz.prog Tryz.laysNm216_ren:={
  mixed:=by kernel_rfl
  f16:=Tryz.func191.trans (congrArg some (by kernel_rfl))
  t4:=Tryz.underlying4
  a4:=Tryz.isAgg4
  z4:=Tryz.sizeOf4
  v4:=Tryz.zeroValue4
  t9:=Tryz.underlying9
  a9:=Tryz.isAgg9
  z9:=Tryz.sizeOf9
  v9:=Tryz.zeroValue9
  t24:=Tryz.underlying23
  a24:=Tryz.isAgg23
  z24:=Tryz.sizeOf23
  v24:=Tryz.zeroValue23
  i9:=by kernel_rfl}
open Go.RowKit Go.Lib in
theorem Tryz.slices_Clone_string(b off n c:Nat)(zs:List ByteArray)(w:World)(hz:n<=zs.length)(hbig:n*16<=140737488355328)(hc:∀j,j<zs.length->w.cell? ⟨b,off+j,none⟩=some (.string (zs.getD j ByteArray.empty))):
    Calls Tryz.prog 191 #[.slice (some ⟨b,off,none⟩) n c] w fun e w'=>∃v',e = .returned v'/\w'.ownsRow w.heap.size 9 1 v' n ((zs.take n).map (Value.string))/\v' ≠ .slice none 0 0/\Below w.heap.size w w':=Any.slices_Clone_string Tryz.laysNm216 b off n c zs w hz hbig hc
open Go.RowKit Go.Lib in
theorem Tryz.slices_Clone_string_nil(n c:Nat)(w:World):
    Calls Tryz.prog 191 #[.slice none n c] w fun e w'=>e = .returned (.slice none 0 0)/\w'=w:=Any.slices_Clone_string_nil Tryz.laysNm216 n c w
open Go.RowKit Go.Lib in
theorem Tryz.slices_Clone_string_zero(a:Addr)(c:Nat)(w:World):
    Calls Tryz.prog 191 #[.slice (some a) 0 c] w fun e w'=>∃v',e = .returned v'/\w'.ownsRow w.heap.size 9 1 v' 0 []/\v' ≠ .slice none 0 0/\Below w.heap.size w w':=Any.slices_Clone_string_zero Tryz.laysNm216 a c w
end Go.Proofs
