/-
  Shelf B0: what the laws of package msg need of them.
-/
import Derived.Shelf.Strings.Builder1
import Derived.Shelf.Strings.Builder2
import Derived.Shelf.Strings.OnBuilder
import Derived.Shelf.Small.Strs
import Derived.Shelf.Strings.BuilderF
import Derived.Shelf.Strings.BuilderK
import Derived.Shelf.Strings.BuilderRune
import Derived.Shelf.Utf8.AppendRune
import Derived.Shelf.Utf8.AppendRunePlain
import Derived.Shelf.Strings.Builder2Cap
import Derived.Shelf.Strconv.Itoa0
import Derived.Shelf.Strconv.Itoa1
import Derived.Shelf.LaysM
import Derived.Shelf.Strconv.Itoa2
import Derived.Shelf.Strconv.Itoa3
import Derived.Shelf.Strconv.Clone
import Derived.Shelf.Strconv.SyntaxError
import Derived.Shelf.LaysC
import Derived.Shelf.Strconv.ToError
import Derived.Shelf.Strconv.Lower
import Derived.Shelf.Strconv.ParseUint10
import Derived.Shelf.Strconv.RangeError
import Derived.Shelf.Strconv.ToErrorRange
import Derived.Shelf.Strconv.ParseUintEmpty
import Derived.Shelf.Strconv.ParseUint10b64
import Derived.Shelf.Strconv.ParseUint10b32
import Derived.Shelf.Strconv.ParseUint10b16
import Derived.Shelf.Strconv.ParseUint10b8
import Derived.Shelf.Strconv.ParseUint10At
import Derived.Ground.MpProg
import Derived.Shelf.Pu.ParseUintPublic10
import Derived.Shelf.Pu.ErrVarParseUint
import Derived.Shelf.Strings.Search1
import Derived.Shelf.Strings.Prefix
import Derived.Shelf.Unicode.Decode
import Derived.Shelf.Unicode.DecodeSlow
import Derived.Shelf.Unicode.DecodeAny
import Derived.Shelf.Strings.BuilderCap
import Derived.Ground.Names2Prog
import Derived.Shelf.Slices.Clone
import Derived.Ground.SlgnProg
import Derived.Shelf.SlicesE.Clone
import Derived.Test.YtkblmloobkiloaaGreatDoorProg
import Derived.Below
import Derived.Laws.OwnMore
import Derived.Deep.AppendLies
import Derived.Deep.Draws
import Derived.Laws.Rows
import Derived.Maps.AppendAt
import Derived.RegionTactic
import Derived.OwnWalk
import Derived.WalkKit
import Derived.Lib.Hide
import Derived.Laws.Strings
import Derived.Laws.RangeAny
import Derived.Lib.DecodeN
import Derived.Lib.TrimU
import Derived.Test.YtkblmloobkiloaaGreatDoorRows
import Derived.Deep.QuietTactic
import Derived.BigQuiet
import Derived.Lib.OwnKind
import Derived.Lib.SplitLaws
import Derived.Maps.OwnSet
import Derived.Maps.Views
import Derived.DeepKeys4
import Derived.Laws.BitsAllLaws
namespace Go.Proofs
open Go.Shelf
def Tryz.lays169_ren:Go.Shelf.Ren:=⟨fun|169=>201|n=>n,fun|70=>195|9=>9|0=>0|72=>197|37=>22|127=>229|3=>3|5=>5|n=>n,fun|n=>n⟩
theorem Tryz.lays169:Go.Proofs.Lays.n169 Tryz.prog Tryz.lays169_ren:= {
 mixed:=by kernel_rfl
 f169:=Tryz.func201.trans (congrArg some (by kernel_rfl))
 t0:=Tryz.underlying0
 a0:=Tryz.isAgg0
 z0:=Tryz.sizeOf0
 v0:=Tryz.zeroValue0
 t3:=Tryz.underlying3
 a3:=Tryz.isAgg3
 z3:=Tryz.sizeOf3
 v3:=Tryz.zeroValue3
 t9:=Tryz.underlying9
 a9:=Tryz.isAgg9
 z9:=Tryz.sizeOf9
 v9:=Tryz.zeroValue9
 t37:=Tryz.underlying22
 a37:=Tryz.isAgg22
 z37:=Tryz.sizeOf22
 v37:=Tryz.zeroValue22
 t70:=Tryz.underlying195
 a70:=Tryz.isAgg195
 z70:=Tryz.sizeOf195
 v70:=Tryz.zeroValue195
 t72:=Tryz.underlying197
 a72:=Tryz.isAgg197
 z72:=Tryz.sizeOf197
 v72:=Tryz.zeroValue197
 t127:=Tryz.underlying229
 a127:=Tryz.isAgg229
 z127:=Tryz.sizeOf229
 v127:=Tryz.zeroValue229}
theorem Tryz.Builder_Extra_169:Builder.Extra Tryz.prog Tryz.lays169_ren:= {
 sizeBuilder:=by kernel_rfl
 liesBuilder:=by kernel_rfl
 t5:=Tryz.underlying5
 a5:=Tryz.isAgg5
 z5:=Tryz.sizeOf5
 v5:=Tryz.zeroValue5
 infoByte:=by kernel_rfl
 cellsByte:=by kernel_rfl
 sizeByte:=by kernel_rfl
 neB5:=by decide}
def Tryz.lays156_ren:Go.Shelf.Ren:=⟨fun|156=>257|165=>279|166=>200|169=>201|240=>252|241=>288|276=>276|277=>290|n=>n,fun|31=>33|9=>9|3=>3|4=>4|0=>0|20=>20|72=>197|76=>199|70=>195|37=>22|75=>186|127=>229|164=>247|5=>5|80=>144|n=>n,fun|n=>n⟩
theorem Tryz.lays156:Go.Proofs.Lays.n156 Tryz.prog Tryz.lays156_ren:= {
 mixed:=by kernel_rfl
 f156:=Tryz.func257.trans (congrArg some (by kernel_rfl))
 f165:=Tryz.func279.trans (congrArg some (by kernel_rfl))
 f166:=Tryz.func200.trans (congrArg some (by kernel_rfl))
 f169:=Tryz.func201.trans (congrArg some (by kernel_rfl))
 f240:=Tryz.func252.trans (congrArg some (by kernel_rfl))
 f241:=Tryz.func288.trans (congrArg some (by kernel_rfl))
 f276:=Tryz.func276.trans (congrArg some (by kernel_rfl))
 f277:=Tryz.func290.trans (congrArg some (by kernel_rfl))
 t0:=Tryz.underlying0
 a0:=Tryz.isAgg0
 z0:=Tryz.sizeOf0
 v0:=Tryz.zeroValue0
 t3:=Tryz.underlying3
 a3:=Tryz.isAgg3
 z3:=Tryz.sizeOf3
 v3:=Tryz.zeroValue3
 t4:=Tryz.underlying4
 a4:=Tryz.isAgg4
 z4:=Tryz.sizeOf4
 v4:=Tryz.zeroValue4
 t9:=Tryz.underlying9
 a9:=Tryz.isAgg9
 z9:=Tryz.sizeOf9
 v9:=Tryz.zeroValue9
 t20:=Tryz.underlying20
 a20:=Tryz.isAgg20
 z20:=Tryz.sizeOf20
 v20:=Tryz.zeroValue20
 t31:=Tryz.underlying33
 a31:=Tryz.isAgg33
 z31:=Tryz.sizeOf33
 v31:=Tryz.zeroValue33
 t37:=Tryz.underlying22
 a37:=Tryz.isAgg22
 z37:=Tryz.sizeOf22
 v37:=Tryz.zeroValue22
 t70:=Tryz.underlying195
 a70:=Tryz.isAgg195
 z70:=Tryz.sizeOf195
 v70:=Tryz.zeroValue195
 t72:=Tryz.underlying197
 a72:=Tryz.isAgg197
 z72:=Tryz.sizeOf197
 v72:=Tryz.zeroValue197
 t75:=Tryz.underlying186
 a75:=Tryz.isAgg186
 z75:=Tryz.sizeOf186
 v75:=Tryz.zeroValue186
 t76:=Tryz.underlying199
 a76:=Tryz.isAgg199
 z76:=Tryz.sizeOf199
 v76:=Tryz.zeroValue199
 t127:=Tryz.underlying229
 a127:=Tryz.isAgg229
 z127:=Tryz.sizeOf229
 v127:=Tryz.zeroValue229
 t164:=Tryz.underlying247
 a164:=Tryz.isAgg247
 z164:=Tryz.sizeOf247
 v164:=Tryz.zeroValue247}
theorem Tryz.Builder_Extra_156:Builder.Extra Tryz.prog Tryz.lays156_ren:= {
 sizeBuilder:=by kernel_rfl
 liesBuilder:=by kernel_rfl
 t5:=Tryz.underlying5
 a5:=Tryz.isAgg5
 z5:=Tryz.sizeOf5
 v5:=Tryz.zeroValue5
 infoByte:=by kernel_rfl
 cellsByte:=by kernel_rfl
 sizeByte:=by kernel_rfl
 neB5:=by decide}
open Go.RowKit in
theorem Tryz.strings_Join_none(a:Option Addr)(c:Nat)(sep:ByteArray)(w:World):
  Calls Tryz.prog 257 #[.slice a 0 c,.string sep] w fun e w'=>e= .returned (.string ⟨#[]⟩)∧w'=w:=Any.strings_Join_none Tryz.lays156 Tryz.Builder_Extra_156 a c sep w
open Go.RowKit in
theorem Tryz.strings_Join(bk o c:Nat)(xs:List ByteArray)(sep:ByteArray)(w:World)(hcells:∀(j:Nat) x,xs[j]? =some x→w.cell? ⟨bk,o+j,none⟩=some (.string x))(hbk:bk<w.heap.size)(hN:xs.length≤140737488355328)(hcap:xs.length≤c)(hlen:(Lib.join (xs.map (·.data.toList)) sep.data.toList).length≤140737488355328):
  Calls Tryz.prog 257 #[.slice (some ⟨bk,o,none⟩) xs.length c,.string sep] w fun e w'=>e= .returned (.string ⟨(Lib.join (xs.map (·.data.toList)) sep.data.toList).toArray⟩)∧Below w.heap.size w w':=Any.strings_Join Tryz.lays156 Tryz.Builder_Extra_156 bk o c xs sep w hcells hbk hN hcap hlen
open Go.RowKit in
theorem Tryz.Builder_String_any_k(B b:Nat)(l:List UInt8)(w:World)(h:Lib.IsBuilderF 197 5 B b (Lib.byteCells l) w)(hBw:B≤w.heap.size):
  Calls Tryz.prog 201 #[.pointer (some ⟨b,0,none⟩)] w fun e w'=>e= .returned (.string ⟨l.toArray⟩)∧(Lib.IsBuilderF 197 5 B b (Lib.byteCells l) w'∧Below B w w'∧Lib.OthersKept 5 (some b) w w'):=Any.Builder_String_any_k Tryz.lays169 Tryz.Builder_Extra_169 B b l w h hBw
def Tryz.lays242_ren:Go.Shelf.Ren:=⟨fun|242=>253|278=>277|n=>n,fun|37=>22|21=>21|51=>32|4=>4|5=>5|46=>189|n=>n,fun|n=>n⟩
theorem Tryz.lays242:Go.Proofs.Lays.n242 Tryz.prog Tryz.lays242_ren:= {
 mixed:=by kernel_rfl
 f242:=Tryz.func253.trans (congrArg some (by kernel_rfl))
 f278:=Tryz.func277.trans (congrArg some (by kernel_rfl))
 t4:=Tryz.underlying4
 a4:=Tryz.isAgg4
 z4:=Tryz.sizeOf4
 v4:=Tryz.zeroValue4
 t5:=Tryz.underlying5
 a5:=Tryz.isAgg5
 z5:=Tryz.sizeOf5
 v5:=Tryz.zeroValue5
 t21:=Tryz.underlying21
 a21:=Tryz.isAgg21
 z21:=Tryz.sizeOf21
 v21:=Tryz.zeroValue21
 t37:=Tryz.underlying22
 a37:=Tryz.isAgg22
 z37:=Tryz.sizeOf22
 v37:=Tryz.zeroValue22
 t46:=Tryz.underlying189
 a46:=Tryz.isAgg189
 z46:=Tryz.sizeOf189
 v46:=Tryz.zeroValue189
 t51:=Tryz.underlying32
 a51:=Tryz.isAgg32
 z51:=Tryz.sizeOf32
 v51:=Tryz.zeroValue32}
open Go.RowKit in
theorem Tryz.utf8_AppendRune_row(B:Nat)(v:Value)(n:Nat)(xs:List Value)(r:Int)(hr0: -2147483648≤r)(hr1:r≤2147483647)(w:World)(hown:w.ownsRowF B 5 1 v n xs)(hlen:n+4≤140737488355328)(hBw:B≤w.heap.size):
  Calls Tryz.prog 253 #[v,.int .i32 r] w fun e w'=>∃v',e= .returned v'∧w'.ownsRowF B 5 1 v' (n+(Lib.runeCells r).length) (xs++Lib.runeCells r)∧∃o,(w.alloc o).grownBy w' v.ownBlock:=Any.utf8_AppendRune_row Tryz.lays242 (by kernel_rfl) B v n xs r hr0 hr1 w hown hlen hBw
def Tryz.lays283_ren:Go.Shelf.Ren:=⟨fun|283=>247|n=>n,fun|3=>3|9=>9|4=>4|n=>n,fun|n=>n⟩
theorem Tryz.lays283:Go.Proofs.Lays.n283 Tryz.prog Tryz.lays283_ren:= {
 mixed:=by kernel_rfl
 f283:=Tryz.func247.trans (congrArg some (by kernel_rfl))
 t3:=Tryz.underlying3
 a3:=Tryz.isAgg3
 z3:=Tryz.sizeOf3
 v3:=Tryz.zeroValue3
 t4:=Tryz.underlying4
 a4:=Tryz.isAgg4
 z4:=Tryz.sizeOf4
 v4:=Tryz.zeroValue4
 t9:=Tryz.underlying9
 a9:=Tryz.isAgg9
 z9:=Tryz.sizeOf9
 v9:=Tryz.zeroValue9}
open Go.Lib in
theorem Tryz.internal_strconv_small(i:Nat)(h:i<100)(w:World):
  Calls Tryz.prog 247 #[.int .i64 i] w fun e w'=>e= .returned (.string ⟨(Lib.decDigits i).toArray⟩)∧w'=w:=Any.internal_strconv_small Tryz.lays283 i h w
def Tryz.laysM284_ren:Go.Shelf.Ren:=⟨fun|284=>248|129=>271|317=>270|318=>272|n=>n,fun|53=>35|3=>3|212=>244|0=>0|4=>4|46=>189|5=>5|9=>9|n=>n,fun|17=>0|n=>n⟩
theorem Tryz.laysM284:Go.Proofs.LaysM.n284 Tryz.prog Tryz.laysM284_ren:= {
 mixed:=by kernel_rfl
 f129:=Tryz.func271.trans (congrArg some (by kernel_rfl))
 f284:=Tryz.func248.trans (congrArg some (by kernel_rfl))
 f317:=Tryz.func270.trans (congrArg some (by kernel_rfl))
 f318:=Tryz.func272.trans (congrArg some (by kernel_rfl))
 t0:=Tryz.underlying0
 a0:=Tryz.isAgg0
 z0:=Tryz.sizeOf0
 v0:=Tryz.zeroValue0
 t3:=Tryz.underlying3
 a3:=Tryz.isAgg3
 z3:=Tryz.sizeOf3
 v3:=Tryz.zeroValue3
 t4:=Tryz.underlying4
 a4:=Tryz.isAgg4
 z4:=Tryz.sizeOf4
 v4:=Tryz.zeroValue4
 t5:=Tryz.underlying5
 a5:=Tryz.isAgg5
 z5:=Tryz.sizeOf5
 v5:=Tryz.zeroValue5
 t9:=Tryz.underlying9
 a9:=Tryz.isAgg9
 z9:=Tryz.sizeOf9
 v9:=Tryz.zeroValue9
 t46:=Tryz.underlying189
 a46:=Tryz.isAgg189
 z46:=Tryz.sizeOf189
 v46:=Tryz.zeroValue189
 t53:=Tryz.underlying35
 a53:=Tryz.isAgg35
 z53:=Tryz.sizeOf35
 v53:=Tryz.zeroValue35
 t212:=Tryz.underlying244
 a212:=Tryz.isAgg244
 z212:=Tryz.sizeOf244
 v212:=Tryz.zeroValue244
 g17:=by kernel_rfl
 i0:=by kernel_rfl
 i3:=by kernel_rfl
 i4:=by kernel_rfl
 i5:=by kernel_rfl
 i9:=by kernel_rfl
 i46:=by kernel_rfl
 i53:=by kernel_rfl
 i212:=by kernel_rfl
 m17:=by kernel_rfl}
open Go.Lib in
theorem Tryz.internal_strconv_numDigits(u:Nat)(h1:1≤u)(h2:u<18446744073709551616)(w:World)(htab:Lib.TabIs Tryz.prog w "internal/strconv.uint64pow10" .u64 Lib.pow10Tab):
  Calls Tryz.prog 248 #[.int .u64 u] w fun e w'=>e= .returned (.int .i64 (Lib.nDigits u))∧w'=w:=Any.internal_strconv_numDigits Tryz.laysM284 u h1 h2 w htab
def Tryz.lays285_ren:Go.Shelf.Ren:=⟨fun|285=>249|n=>n,fun|37=>22|53=>35|3=>3|4=>4|51=>32|9=>9|5=>5|0=>0|n=>n,fun|n=>n⟩
theorem Tryz.lays285:Go.Proofs.Lays.n285 Tryz.prog Tryz.lays285_ren:= {
 mixed:=by kernel_rfl
 f285:=Tryz.func249.trans (congrArg some (by kernel_rfl))
 t0:=Tryz.underlying0
 a0:=Tryz.isAgg0
 z0:=Tryz.sizeOf0
 v0:=Tryz.zeroValue0
 t3:=Tryz.underlying3
 a3:=Tryz.isAgg3
 z3:=Tryz.sizeOf3
 v3:=Tryz.zeroValue3
 t4:=Tryz.underlying4
 a4:=Tryz.isAgg4
 z4:=Tryz.sizeOf4
 v4:=Tryz.zeroValue4
 t5:=Tryz.underlying5
 a5:=Tryz.isAgg5
 z5:=Tryz.sizeOf5
 v5:=Tryz.zeroValue5
 t9:=Tryz.underlying9
 a9:=Tryz.isAgg9
 z9:=Tryz.sizeOf9
 v9:=Tryz.zeroValue9
 t37:=Tryz.underlying22
 a37:=Tryz.isAgg22
 z37:=Tryz.sizeOf22
 v37:=Tryz.zeroValue22
 t51:=Tryz.underlying32
 a51:=Tryz.isAgg32
 z51:=Tryz.sizeOf32
 v51:=Tryz.zeroValue32
 t53:=Tryz.underlying35
 a53:=Tryz.isAgg35
 z53:=Tryz.sizeOf35
 v53:=Tryz.zeroValue35}
open Go.RowKit Go.Sort Go.Lib in
theorem Tryz.internal_strconv_formatBase10(blk off cap:Nat)(u:Nat)(d:Array UInt8)(w:World)(hH:Holds (fun(b:UInt8)=>Value.int .u8 (b.toNat:Int)) w blk off d)(hu:u<10^d.size)(hu64:u<18446744073709551616)(hsz:d.size<4611686018427387904):
  Calls Tryz.prog 249 #[.slice (some ⟨blk,off,none⟩) d.size cap,.int .u64 u] w fun e w'=>
   e= .returned (.tuple #[])∧∃(n v':Nat) (dk:Array UInt8),w'=(putRow (fun(b:UInt8)=>Value.int .u8 (b.toNat:Int)) w blk off dk).drewN n∧FmtInv d.size u 0 v' dk:=Any.internal_strconv_formatBase10 Tryz.lays285 blk off cap u d w hH hu hu64 hsz
def Tryz.lays197_ren:Go.Shelf.Ren:=⟨fun|197=>251|260=>275|n=>n,fun|9=>9|21=>21|3=>3|4=>4|5=>5|105=>226|119=>255|0=>0|46=>189|139=>258|138=>257|n=>n,fun|3=>3|4=>4|n=>n⟩
theorem Tryz.lays197:Go.Proofs.Lays.n197 Tryz.prog Tryz.lays197_ren:= {
 mixed:=by kernel_rfl
 f197:=Tryz.func251.trans (congrArg some (by kernel_rfl))
 f260:=Tryz.func275.trans (congrArg some (by kernel_rfl))
 t0:=Tryz.underlying0
 a0:=Tryz.isAgg0
 z0:=Tryz.sizeOf0
 v0:=Tryz.zeroValue0
 t3:=Tryz.underlying3
 a3:=Tryz.isAgg3
 z3:=Tryz.sizeOf3
 v3:=Tryz.zeroValue3
 t4:=Tryz.underlying4
 a4:=Tryz.isAgg4
 z4:=Tryz.sizeOf4
 v4:=Tryz.zeroValue4
 t5:=Tryz.underlying5
 a5:=Tryz.isAgg5
 z5:=Tryz.sizeOf5
 v5:=Tryz.zeroValue5
 t9:=Tryz.underlying9
 a9:=Tryz.isAgg9
 z9:=Tryz.sizeOf9
 v9:=Tryz.zeroValue9
 t21:=Tryz.underlying21
 a21:=Tryz.isAgg21
 z21:=Tryz.sizeOf21
 v21:=Tryz.zeroValue21
 t46:=Tryz.underlying189
 a46:=Tryz.isAgg189
 z46:=Tryz.sizeOf189
 v46:=Tryz.zeroValue189
 t105:=Tryz.underlying226
 a105:=Tryz.isAgg226
 z105:=Tryz.sizeOf226
 v105:=Tryz.zeroValue226
 t119:=Tryz.underlying255
 a119:=Tryz.isAgg255
 z119:=Tryz.sizeOf255
 t138:=Tryz.underlying257
 a138:=Tryz.isAgg257
 z138:=Tryz.sizeOf257
 v138:=Tryz.zeroValue257
 t139:=Tryz.underlying258
 a139:=Tryz.isAgg258
 z139:=Tryz.sizeOf258
 v139:=Tryz.zeroValue258
 g3:=by kernel_rfl
 g4:=by kernel_rfl}
def Tryz.lays260_ren:Go.Shelf.Ren:=⟨fun|260=>275|n=>n,fun|9=>9|21=>21|3=>3|4=>4|5=>5|119=>255|0=>0|46=>189|139=>258|138=>257|n=>n,fun|3=>3|4=>4|n=>n⟩
theorem Tryz.lays260:Go.Proofs.Lays.n260 Tryz.prog Tryz.lays260_ren:= {
 mixed:=by kernel_rfl
 f260:=Tryz.func275.trans (congrArg some (by kernel_rfl))
 t0:=Tryz.underlying0
 a0:=Tryz.isAgg0
 z0:=Tryz.sizeOf0
 v0:=Tryz.zeroValue0
 t3:=Tryz.underlying3
 a3:=Tryz.isAgg3
 z3:=Tryz.sizeOf3
 v3:=Tryz.zeroValue3
 t4:=Tryz.underlying4
 a4:=Tryz.isAgg4
 z4:=Tryz.sizeOf4
 v4:=Tryz.zeroValue4
 t5:=Tryz.underlying5
 a5:=Tryz.isAgg5
 z5:=Tryz.sizeOf5
 v5:=Tryz.zeroValue5
 t9:=Tryz.underlying9
 a9:=Tryz.isAgg9
 z9:=Tryz.sizeOf9
 v9:=Tryz.zeroValue9
 t21:=Tryz.underlying21
 a21:=Tryz.isAgg21
 z21:=Tryz.sizeOf21
 v21:=Tryz.zeroValue21
 t46:=Tryz.underlying189
 a46:=Tryz.isAgg189
 z46:=Tryz.sizeOf189
 v46:=Tryz.zeroValue189
 t119:=Tryz.underlying255
 a119:=Tryz.isAgg255
 z119:=Tryz.sizeOf255
 t138:=Tryz.underlying257
 a138:=Tryz.isAgg257
 z138:=Tryz.sizeOf257
 v138:=Tryz.zeroValue257
 t139:=Tryz.underlying258
 a139:=Tryz.isAgg258
 z139:=Tryz.sizeOf258
 v139:=Tryz.zeroValue258
 g3:=by kernel_rfl
 g4:=by kernel_rfl}
open Go.RowKit Go.Lib in
theorem Tryz.utf8_DecodeRuneInString(s:ByteArray)(w:World)(hT:Lib.Utf8Tabs 3 4 w):
  Calls Tryz.prog 251 #[.string s] w fun e w'=>e= .returned (.tuple #[.int .i32 (Lib.decodeGo s).1,.int .i64 (Lib.decodeGo s).2])∧Below w.heap.size w w':=Any.utf8_DecodeRuneInString Tryz.lays197 s w hT
end Go.Proofs
namespace Go.Proofs.YtkblmloobkiloaaGreatDoor
open Go.RowKit
theorem nR(a:Addr)(n:Nat):(a.add n).block=a.block:=by unfold Addr.add;split<;>rfl
theorem lU(a:Addr)(i j:Nat):(a.add i).add j=a.add (i+j):=by
 unfold Addr.add
 by_cases hi:i=0<;>by_cases hj:j=0<;>simp[hi,hj,Nat.add_assoc]
def Reads(w:World)(B size:Nat)(A:Option Addr)(n:Nat)(xs:List Value):Prop:=
 xs.length=n*size∧(0<n→∃ad,A=some ad∧ad.block<B∧∀j u,xs[j]? =some u→w.cell? (ad.add j)=some u)
section
variable {w w':World} {B B' size n:Nat} {A:Option Addr} {xs:List Value}
theorem Reads.none_:Reads w B size A 0 []:=⟨by simp,fun h=>absurd h (by omega)⟩
theorem Reads.at_{k:Nat}(h:Reads w B 1 A n xs)(hk:k<n):∃ad u,A=some ad∧ad.block<B∧xs[k]? =some u∧w.cell? (ad.add k)=some u:=by
 obtain⟨ad,e,hb,hc⟩:=h.2 (by omega)
 have hl:k<xs.length:=by have:=h.1;omega
 exact⟨ad,xs[k],e,hb,List.getElem?_eq_getElem hl,hc k _ (List.getElem?_eq_getElem hl)⟩
theorem Reads.keep(h:Reads w B size A n xs)(hk:∀p:Addr,p.block<B→w'.cell? p=w.cell? p):Reads w' B size A n xs:=
 ⟨h.1,fun hn=>by
  obtain⟨ad,e,hb,hc⟩:=h.2 hn
  exact⟨ad,e,hb,fun j u hu=>(hk _ (by rw[nR];exact hb)).trans (hc j u hu)⟩⟩
theorem Reads.more(h:Reads w B size A n xs)(hB:B≤B'):Reads w B' size A n xs:=
 ⟨h.1,fun hn=>by
  obtain⟨ad,e,hb,hc⟩:=h.2 hn
  exact⟨ad,e,by omega,hc⟩⟩
theorem Reads.below(h:Reads w B size A n xs)(hb:Below B w w'):Reads w' B size A n xs:=h.keep fun _ hp=>hb.cell hp
theorem Reads.drew(h:Reads w B size A n xs):Reads w.drew B size A n xs:=h
theorem Reads.drewN(h:Reads w B size A n xs)(k:Nat):Reads (w.drewN k) B size A n xs:=h
theorem Reads.alloc(h:Reads w B size A n xs)(hB:B≤w.heap.size)(o:Obj):Reads (w.alloc o) B size A n xs:=h.keep fun p hp=>World.cell?_alloc_lt w o p (by omega)
theorem Reads.setCell(h:Reads w B size A n xs){p:Addr}(hB:B≤p.block)(u:Value):Reads (w.setCell p u) B size A n xs:=
 h.keep fun q hq=>World.cell?_setCell_other w p q u (fun e=>by subst e;omega)
theorem Reads.grown(h:Reads w B size A n xs){row:Option Nat}(hg:w.grownBy w' row)(hB:B≤w.heap.size)(hr:∀g,row=some g→B≤g):Reads w' B size A n xs:=
 h.keep fun p hp=>World.cell?_of_block (hg.block p.block (by omega) (fun e=>by have:=hr _ e.symm;omega))
theorem Reads.cut(h:Reads w B size A n xs){k cap:Nat}(hk:k≤n)(hc:n≤cap):
  Reads w B size (if cap=k then A else A.map (·.add (k*size))) (n-k) (xs.drop (k*size)):=by
 refine⟨by rw[List.length_drop,h.1,Nat.sub_mul],fun hn=> ?_⟩
 obtain⟨ad,rfl,hb,hcell⟩:=h.2 (by omega)
 rw[if_neg (by omega)]
 refine⟨ad.add (k*size),rfl,by rw[nR];exact hb,fun j u hu=> ?_⟩
 rw[lU]
 exact hcell _ u (by rw[←hu,List.getElem?_drop])
theorem Reads.iH{base:Nat}{e:TypeId}{c:Nat}(h:w.ownsRow base e size (.slice A n c) n xs):Reads w w.heap.size size A n xs:=by
 refine⟨h.1,fun hn=> ?_⟩
 obtain⟨g,cap,hv,_,hlt⟩:=h.form hn
 have hA:A=some ⟨g,0,none⟩:=by injection hv
 subst hA
 exact⟨_,rfl,hlt,h.cells (g:=g) rfl⟩
end
def Blk(w:World)(g:Nat)(t:TypeId)(cs:Array Value):Prop:=w.heap[g]? =some (.cells cs t (0,0))
section
variable {w w':World} {g:Nat} {t:TypeId} {cs:Array Value}
theorem Blk.lt(h:Blk w g t cs):g<w.heap.size:=by
 rcases Nat.lt_or_ge g w.heap.size with hlt|hge
 ·exact hlt
 ·unfold Blk at h;rw[Array.getElem?_eq_none hge]at h;cases h
theorem Blk.cell(h:Blk w g t cs)(i:Nat):w.cell? ⟨g,i,none⟩=cs[i]? :=cell_of_row w g i cs t (0,0) h
theorem Blk.frozen(h:Blk w g t cs)(i:Nat):w.frozen? ⟨g,i,none⟩=false:=by
 unfold Blk at h
 simp[World.frozen?,h]
theorem Blk.new(w:World)(t:TypeId)(cs:Array Value):Blk (w.alloc (.cells cs t)) w.heap.size t cs:=heap_alloc_new w _
theorem Blk.drew(h:Blk w g t cs):Blk w.drew g t cs:=h
theorem Blk.drewN(h:Blk w g t cs)(n:Nat):Blk (w.drewN n) g t cs:=h
theorem Blk.alloc(h:Blk w g t cs)(o:Obj):Blk (w.alloc o) g t cs:=(Below.heap_alloc w o g h.lt).trans h
theorem Blk.aW(h:Blk w g t cs)(i:Nat)(u:Value):Blk (w.setCell ⟨g,i,none⟩ u) g t (cs.setIfInBounds i u):=by
 unfold Blk at h⊢
 simp[World.setCell,Array.getElem?_modify,h]
theorem Blk.far(h:Blk w g t cs){p:Addr}(hp:g≠p.block)(u:Value):Blk (w.setCell p u) g t cs:=(Below.heap_setCell w p u g hp).trans h
theorem Blk.below{B:Nat}(h:Blk w g t cs)(hb:Below B w w')(hg:g<B):Blk w' g t cs:=(hb.block g hg).trans h
theorem Blk.grown{row:Option Nat}(h:Blk w g t cs)(hb:w.grownBy w' row)(hg:some g≠row):Blk w' g t cs:=(hb.block g h.lt hg).trans h
theorem Blk.ne_{g':Nat}{t':TypeId}{cs':Array Value}(h:Blk w g t cs)(h':Blk w g' t' cs')(hne:t≠t'):g≠g':=by
 rintro rfl
 unfold Blk at h h'
 rw[h]at h'
 injection h' with h'
 injection h' with _ ht
 exact hne ht
theorem gI{base:Nat}{e:TypeId}{size n:Nat}{v:Value}{xs:List Value}(h:w.ownsRow base e size v n xs)(hg:Blk w g t cs)(hne:e≠t):v.ownBlock≠some g:=by
 rcases h.2 with⟨rfl,_⟩|⟨g',cap,cur,rfl,_,hh,_⟩
 ·simp[Value.ownBlock]
 ·intro he
  have:g'=g:=by simpa [Value.ownBlock]using he
  subst this
  exact Blk.ne_ (t:=e) hh hg hne rfl
end
section
variable {P:Program} (w:World)
theorem ru(base:Nat)(t ty e:TypeId)(i:TypeInfo)(size:Nat)(ht:P.underlying t=some (.slice e))(hi:P.info? e=some i)
  (v:Value) (n:Nat) (xs:List Value) (hown:w.ownsRow base e size v n xs) (c:Nat):(Builtin.append_ #[t,t] ty #[v,.slice none 0 c]).run P w= .ok v w:=by
 rcases hown.2 with⟨rfl,rfl⟩|⟨g,cap,cur,rfl,_,_,hnc,_⟩
 ·simp[Builtin.append_,run_underlying ht,sizeOf,typeInfo,hi,Builtin.lenOf,Builtin.firstCells]
 ·simp[Builtin.append_,run_underlying ht,sizeOf,typeInfo,hi,Builtin.lenOf,Builtin.firstCells,hnc,storeCells]
theorem vg(base:Nat)(t ty e:TypeId)(i:TypeInfo)(z:Value)(size bytes:Nat)(ht:P.underlying t=some (.slice e))(hi:P.info? e=some i)(hz:i.zero=some z)
  (hsize:i.size=size) (hby:i.bytes=bytes) (hzs:z.cells.size=size) (hsz:0<size)
  (v:Value) (n:Nat) (xs:List Value) (hown:w.ownsRow base e size v n xs)
  (B:Nat) (A:Option Addr) (m c:Nat) (news:List Value) (hr:Reads w B size A m news) (h1:∀u∈news,u.oneCell'=true)
  (h63:n+m≤maxLen) (hbytes:(n+m)*bytes≤140737488355328) (hbase:base≤w.heap.size):
  ∃v' w',(Builtin.append_ #[t,t] ty #[v,.slice A m c]).run P w= .ok v' w'∧w'.ownsRow base e size v' (n+m) (xs++news)∧w.grownBy w' v.ownBlock∧
   (v'.ownBlock=v.ownBlock∨v'.ownBlock=some w.heap.size):=by
 rcases A with _|ad
 ·have hm:m=0:=by
   rcases Nat.eq_zero_or_pos m with h0|h0
   ·exact h0
   ·obtain⟨ad,h,_⟩:=hr.2 h0
    cases h
  subst hm
  have hn:news=[]:=List.eq_nil_of_length_eq_zero (by simpa using hr.1)
  subst hn
  exact⟨v,w,ru w base t ty e i size ht hi v n xs hown c,by simpa using hown,World.grownBy.refl w _,.inl rfl⟩
 ·have hcells:∀j u,news[j]? =some u→w.cell? (ad.add j)=some u:=by
   intro j u hu
   rcases Nat.eq_zero_or_pos m with h0|h0
   ·subst h0
    have hn:news=[]:=List.eq_nil_of_length_eq_zero (by simpa using hr.1)
    subst hn
    simp at hu
   ·obtain⟨ad',h,_,hc⟩:=hr.2 h0
    injection h with h
    subst h
    exact hc j u hu
  obtain⟨v',w',hrun,h2,h3,_,h5⟩:=run_append_own_at (P:=P) w base t ty e i z size bytes ht hi hz hsize hby hzs hsz v n xs hown ad m c news hr.1 hcells h1 h63 hbytes hbase
  exact⟨v',w',hrun,h2,h3,h5⟩
theorem qw{o:Oper}{a:Act}{K:Act→World→Prop}{Q:Exit→Act→World→Prop}(s x:Operand)(t:TypeId)
  (ho:o.op= .call {callee:= .builtin .append,args:= #[s,x],argTypes:= #[t,t]})
  (base:Nat) (e:TypeId) (i:TypeInfo) (z:Value) (size bytes:Nat) (ht:P.underlying t=some (.slice e)) (hi:P.info? e=some i) (hz:i.zero=some z)
  (hsize:i.size=size) (hby:i.bytes=bytes) (hzs:z.cells.size=size) (hsz:0<size)
  (v:Value) (n:Nat) (xs:List Value) (hs:a.eval s=v) (hown:w.ownsRow base e size v n xs)
  (B:Nat) (A:Option Addr) (m c:Nat) (news:List Value) (hx:a.eval x= .slice A m c) (hr:Reads w B size A m news) (h1:∀u∈news,u.oneCell'=true)
  (h63:n+m≤maxLen) (hbytes:(n+m)*bytes≤140737488355328) (hbase:base≤w.heap.size)
  (h:∀v' w',w'.ownsRow base e size v' (n+m) (xs++news)→w.grownBy w' v.ownBlock→(v'.ownBlock=v.ownBlock∨v'.ownBlock=some w.heap.size)→K (a.put o.dst v') w'):o.wp P a w K Q:=by
 obtain⟨v',w',hrun,h2,h3,h4⟩:=vg (P:=P) w base t o.type e i z size bytes ht hi hz hsize hby hzs hsz v n xs hown B A m c news hr h1 h63 hbytes hbase
 unfold Oper.wp execOp
 simp only[ho,resolve,invoke,builtin,Sem.run_bind,Sem.run_pure,Result.andThen_ok,List.map_toArray,List.map_cons,List.map_nil,hs,hx,hrun]
 exact h v' w' h2 h3 h4
theorem jA{ops:Array Oper}{rest:List Oper}{o:Oper}{a:Act}{Q:Exit→Act→World→Prop}(hgd:o.guard=none)(s x:Operand)(t:TypeId)
  (ho:o.op= .call {callee:= .builtin .append,args:= #[s,x],argTypes:= #[t,t]})
  (base:Nat) (e:TypeId) (i:TypeInfo) (z:Value) (size bytes:Nat) (ht:P.underlying t=some (.slice e)) (hi:P.info? e=some i) (hz:i.zero=some z)
  (hsize:i.size=size) (hby:i.bytes=bytes) (hzs:z.cells.size=size) (hsz:0<size)
  (v:Value) (n:Nat) (xs:List Value) (hs:a.eval s=v) (hown:w.ownsRow base e size v n xs)
  (B:Nat) (A:Option Addr) (m c:Nat) (news:List Value) (hx:a.eval x= .slice A m c) (hr:Reads w B size A m news) (h1:∀u∈news,u.oneCell'=true)
  (h63:n+m≤maxLen) (hbytes:(n+m)*bytes≤140737488355328) (hbase:base≤w.heap.size)
  (h:∀v' w',w'.ownsRow base e size v' (n+m) (xs++news)→w.grownBy w' v.ownBlock→(v'.ownBlock=v.ownBlock∨v'.ownBlock=some w.heap.size)→wpList P ops Q rest (a.put o.dst v') w'):wpList P ops Q (o::rest) a w:=
 wpList_plain hgd fun _ hK=>qw w s x t ho base e i z size bytes ht hi hz hsize hby hzs hsz v n xs hs hown B A m c news hx hr h1 h63 hbytes hbase fun v' w' h2 h3 h4=>hK _ _ (h v' w' h2 h3 h4)
end
def Row(w:World)(e size:Nat)(A:Option Addr)(n:Nat)(xs:List Value):Prop:=
 xs.length=n*size∧(0<n→∃g o cur fr,A=some ⟨g,o,none⟩∧w.heap[g]? =some (Obj.cells cur e fr)∧∀j u,xs[j]? =some u→cur[o+j]? =some u)
section
variable {w w':World} {e size n:Nat} {A:Option Addr} {xs:List Value}
theorem Row.none_:Row w e size A 0 []:=⟨by simp,fun h=>absurd h (by omega)⟩
theorem Row.keep(h:Row w e size A n xs)(hk:∀(g:Nat) cur fr,w.heap[g]? =some (Obj.cells cur e fr)→w'.heap[g]? =w.heap[g]?):Row w' e size A n xs:=
 ⟨h.1,fun hn=>by
  obtain⟨g,o,cur,fr,hA,hg,hc⟩:=h.2 hn
  exact⟨g,o,cur,fr,hA,(hk g cur fr hg).trans hg,hc⟩⟩
theorem dP{g:Nat}{x:Obj}(h:w.heap[g]? =some x):g<w.heap.size:=by
 rcases Nat.lt_or_ge g w.heap.size with hlt|hge
 ·exact hlt
 ·rw[Array.getElem?_eq_none hge]at h;cases h
theorem Row.below{B:Nat}(h:Row w e size A n xs)(hb:Below B w w')(hB:w.heap.size≤B):Row w' e size A n xs:=
 h.keep fun g _ _ hg=>hb.block g (by have:=dP hg;omega)
theorem Row.drew(h:Row w e size A n xs):Row w.drew e size A n xs:=h
theorem Row.drewN(h:Row w e size A n xs)(k:Nat):Row (w.drewN k) e size A n xs:=h
theorem Row.alloc(h:Row w e size A n xs)(x:Obj):Row (w.alloc x) e size A n xs:=
 h.keep fun g _ _ hg=>Below.heap_alloc w x g (dP hg)
theorem Row.setCell{t:TypeId}{p:Addr}{cs:Array Value}{fr':Nat×Nat}(h:Row w e size A n xs)(hp:w.heap[p.block]? =some (Obj.cells cs t fr'))(hne:t≠e)(u:Value):Row (w.setCell p u) e size A n xs:=
 h.keep fun g cur fr hg=>Below.heap_setCell w p u g (by
  rintro rfl
  rw[hp]at hg
  injection hg with hg
  injection hg with _ ht
  exact hne ht)
theorem Row.grown{row:Option Nat}(h:Row w e size A n xs)(hg:w.grownBy w' row)(hr:∀(g:Nat),row=some g→∀cur fr,w.heap[g]? ≠some (Obj.cells cur e fr)):Row w' e size A n xs:=
 h.keep fun g cur fr hc=>hg.block g (dP hc) (fun he=>hr g he.symm cur fr hc)
theorem Row.cell{g o:Nat}(h:Row w e size (some ⟨g,o,none⟩) n xs){j:Nat}{u:Value}(hj:xs[j]? =some u):w.cell? ⟨g,o+j,none⟩=some u:=by
 have hn:0<n:=by
  rcases Nat.eq_zero_or_pos n with h0|h0
  ·have:=h.1
   rw[h0,Nat.zero_mul]at this
   rw[List.eq_nil_of_length_eq_zero this]at hj
   simp at hj
  ·exact h0
 obtain⟨g',o',cur,fr,hA,hg,hc⟩:=h.2 hn
 obtain⟨rfl,rfl⟩:g=g'∧o=o':=by
  injection hA with hA
  injection hA with h1 h2
  exact⟨h1,h2⟩
 unfold World.cell?
 rw[hg]
 exact hc j u hj
theorem Row.form(h:Row w e size A n xs)(hn:0<n):∃g o,A=some ⟨g,o,none⟩∧g<w.heap.size:=by
 obtain⟨g,o,cur,fr,hA,hg,_⟩:=h.2 hn
 exact⟨g,o,hA,dP hg⟩
theorem Row.reads(h:Row w e size A n xs):Reads w w.heap.size size A n xs:=by
 refine⟨h.1,fun hn=> ?_⟩
 obtain⟨g,o,rfl,hlt⟩:=h.form hn
 refine⟨_,rfl,hlt,fun j u hu=> ?_⟩
 rw[Addr.add_lit]
 exact h.cell hu
theorem Row.iH{base c:Nat}(h:w.ownsRow base e size (.slice A n c) n xs):Row w e size A n xs:=by
 refine⟨h.1,fun hn=> ?_⟩
 rcases h.2 with⟨_,h0⟩|⟨g,cap,cur,hv,_,hg,_,_,hs,ht⟩
 ·omega
 ·injection hv with hA
  refine⟨g,0,cur,(0,0),hA,hg,fun j u hu=> ?_⟩
  rw[←ht]at hu
  have hj:=(List.getElem?_eq_some_iff.1 hu).1
  rw[List.getElem?_take_of_lt (by simp at hj;omega)]at hu
  rw[Nat.zero_add]
  simpa using hu
theorem Row.new(w:World)(e size n:Nat)(cs:Array Value)(fr:Nat×Nat)(xs:List Value)(hx:xs.length=n*size)(hc:∀(j:Nat) u,xs[j]? =some u→cs[j]? =some u):
  Row (w.alloc (.cells cs e fr)) e size (some ⟨w.heap.size,0,none⟩) n xs:=
 ⟨hx,fun _=>⟨_,0,cs,fr,rfl,heap_alloc_new w _,fun j u hu=>by rw[Nat.zero_add];exact hc j u hu⟩⟩
end
end Go.Proofs.YtkblmloobkiloaaGreatDoor
namespace Go.Proofs.YtkblmloobkiloaaGreatDoor
structure oO where
 name:ByteArray
 leader:ByteArray
 members:List ByteArray
 key:ByteArray
theorem Nv(a b:ByteArray):(a.toList==b.toList)=decide (a=b):=by
 rw[Bool.eq_iff_iff,beq_iff_eq,decide_eq_true_iff,ByteArray.toList_eq,ByteArray.toList_eq]
 constructor
 ·intro h
  apply ByteArray.ext
  exact Array.toList_inj.1 h
 ·rintro rfl;rfl
def ofL(l:List UInt8):ByteArray:=⟨l.toArray⟩
/-! ### cutting at a byte -/
def yt(c:UInt8):List UInt8→List (List UInt8)
 | []=>[[]]
 |b::l=>if b=c then []::yt c l else match yt c l with| []=>[[b]]|h::t=>(b::h)::t
theorem yT(c:UInt8):∀(l:List UInt8),(∀x∈l,x≠c)→yt c l=[l]
 | [],_=>rfl
 |b::l,h=>by
  rw[yt,if_neg (h b List.mem_cons_self),yT c l (fun x hx=>h x (List.mem_cons_of_mem _ hx))]
theorem BP(c:UInt8)(rest:List UInt8):∀(l:List UInt8),(∀x∈l,x≠c)→yt c (l++c::rest)=l::yt c rest
 | [],_=>by rw[List.nil_append,yt,if_pos rfl]
 |b::l,h=>by
  rw[List.cons_append,yt,if_neg (h b List.mem_cons_self),BP c rest l (fun x hx=>h x (List.mem_cons_of_mem _ hx))]
def cut(c:UInt8)(s:ByteArray):List ByteArray:=(yt c s.data.toList).map ofL
/-! ### characters -/
def gq(s:ByteArray):Nat→Nat→Bool
 |0,_=>true
 |f+1,pos=>if pos<s.size then(if(Utf8.decode s pos).1=0∨((Utf8.decode s pos).1=65533∧(Utf8.decode s pos).2=1)then false else gq s f (pos+(Utf8.decode s pos).2))else true
def good(s:ByteArray):Bool:=gq s s.size 0
def PG(c:UInt8):Bool:= !(decide (c.toNat<33)||decide (c.toNat=127)||decide (c.toNat=58)||decide (c.toNat=44)||decide (c.toNat=35)||decide (c.toNat=47))
def isName(s:ByteArray):Bool:=decide (1≤s.size)&&decide (s.size≤32)&&good s&&s.data.toList.all PG
def Nw(c:UInt8):Bool:= !(decide (c.toNat<33)||decide (126<c.toNat)||decide (c.toNat=58))
def isKey(s:ByteArray):Bool:=decide (s.size≤32)&&s.data.toList.all Nw
def formed(a:oO):Bool:=isName a.name&&(decide (a.leader.size=0)||isName a.leader)&&a.members.all isName&&isKey a.key
def account(line:ByteArray):Option oO:=
 match cut 58 line with
 | [a,b,c,d]=>
  let x:oO:= {name:=a,leader:=b,members:=if c.size=0 then []else cut 44 c,key:=d}
  if formed x then some x else none
 |_=>none
def has(l:List ByteArray)(s:ByteArray):Bool:=l.any (fun y=>decide (y=s))
def yU(all:List ByteArray):List ByteArray→Nat→Bool
 | [],_=>false
 |x::l,i=>has (all.take i) x||yU all l (i+1)
def twice(l:List ByteArray):Bool:=yU l l 0
def PI(L:List oO)(s:ByteArray):Option Nat:=L.findIdx? (fun a=>decide (a.name=s))
def known(L:List oO)(s:ByteArray):Bool:=L.any (fun a=>decide (a.name=s))
def knows(L:List oO)(a:oO):Bool:=(decide (a.leader.size=0)||known L a.leader)&&a.members.all (known L)
/-! ### what a table tells -/
def JO(L:List oO)(u g:ByteArray):Bool:=L.any (fun a=>decide (a.name=g)&&(decide (u=g)||has a.members u))
def leads(L:List oO)(u g:ByteArray):Bool:=
 match L.find? (fun a=>decide (a.name=g))with
 |none=>false
 |some a=>known L u&&(if a.leader.size=0 then JO L u g else decide (a.leader=u))
theorem dU(l:List UInt8):(ofL l).size=l.length:=by simp[ofL,ByteArray.size]
def eF(s:ByteArray)(i:Nat)(lo hi:Nat):Bool:=decide (i<s.size)&&(decide (lo≤(s.get! i).toNat)&&decide ((s.get! i).toNat≤hi))
def lM(s:ByteArray)(i:Nat):Nat:=
 if eF s i 0 127 then 1
 else if eF s i 194 223&&eF s (i+1) 128 191 then 2
 else
  let lo:=if eF s i 224 224 then 160 else 128
  let hi:=if eF s i 237 237 then 159 else 191
  if eF s i 224 239&&eF s (i+1) lo hi&&eF s (i+2) 128 191 then 3
  else
   let lo:=if eF s i 240 240 then 144 else lo
   let hi:=if eF s i 244 244 then 143 else hi
   if eF s i 240 244&&eF s (i+1) lo hi&&eF s (i+2) 128 191&&eF s (i+3) 128 191 then 4 else 0
def oP(n b0 b1 b2 b3:Nat):Nat:=
 if b0≤127 then 1
 else if(194≤b0∧b0≤223)∧(1<n∧128≤b1∧b1≤191)then 2
 else if(224≤b0∧b0≤239)∧(1<n∧(if b0=224 then 160 else 128)≤b1∧b1≤(if b0=237 then 159 else 191))∧(2<n∧128≤b2∧b2≤191)then 3
 else if(240≤b0∧b0≤244)∧(1<n∧(if b0=240 then 144 else if b0=224 then 160 else 128)≤b1∧b1≤(if b0=244 then 143 else if b0=237 then 159 else 191))∧(2<n∧128≤b2∧b2≤191)∧(3<n∧128≤b3∧b3≤191)then 4 else 0
set_option maxHeartbeats 4000000 in
theorem z_(n b0 b1 b2 b3:Nat)(h0:b0<256)(h1:b1<256)(h2:b2<256)(h3:b3<256)(r k:Nat)(hd:Lib.decodeN n b0 b1 b2 b3=(r,k)):
  oP n b0 b1 b2 b3=if r=65533∧k=1 then 0 else k:=by
 unfold Lib.decodeN at hd
 repeat' split at hd
 all_goals
  simp only[Prod.mk.injEq]at hd
  obtain⟨rfl,rfl⟩:=hd
 ·rw[if_neg (by omega)];unfold oP;rw[if_pos (by omega)]
 ·rw[if_neg (by omega)];unfold oP;rw[if_neg (by omega),if_pos (by omega)]
 ·rw[if_pos ⟨rfl,rfl⟩];unfold oP;rw[if_neg (by omega),if_neg (by omega),if_neg (by omega),if_neg (by omega)]
 ·rw[if_neg (by omega)];unfold oP;rw[if_neg (by omega),if_neg (by omega)]
  rw[if_pos (by(repeat' split)<;>omega)]
 ·rw[if_pos ⟨rfl,rfl⟩];unfold oP;rw[if_neg (by omega),if_neg (by omega)]
  rw[if_neg (by(repeat' split)<;>omega),if_neg (by omega)]
 ·rw[if_neg (by omega)];unfold oP;rw[if_neg (by omega),if_neg (by omega),if_neg (by omega)]
  rw[if_pos (by(repeat' split)<;>omega)]
 ·rw[if_pos ⟨rfl,rfl⟩];unfold oP;rw[if_neg (by omega),if_neg (by omega),if_neg (by omega)]
  rw[if_neg (by(repeat' split)<;>omega)]
 ·rw[if_pos ⟨rfl,rfl⟩];unfold oP
  rw[if_neg (by omega),if_neg (by omega),if_neg (by(repeat' split)<;>omega),if_neg (by(repeat' split)<;>omega)]
theorem Ny(s:ByteArray)(i:Nat)(hi:i<s.size):lM s i=oP (s.size-i) (s.get! i).toNat (s.get! (i+1)).toNat (s.get! (i+2)).toNat (s.get! (i+3)).toNat:=by
 have e1:decide (i+1<s.size)=decide (1<s.size-i):=by rw[Bool.eq_iff_iff];simp;omega
 have e2:decide (i+2<s.size)=decide (2<s.size-i):=by rw[Bool.eq_iff_iff];simp;omega
 have e3:decide (i+3<s.size)=decide (3<s.size-i):=by rw[Bool.eq_iff_iff];simp;omega
 have e0:decide (i<s.size)=true:=decide_eq_true hi
 unfold lM eF oP
 rw[e0,e1,e2,e3]
 generalize(s.get! i).toNat=b0
 generalize(s.get! (i+1)).toNat=b1
 generalize(s.get! (i+2)).toNat=b2
 generalize(s.get! (i+3)).toNat=b3
 generalize s.size-i=n
 simp only[Bool.true_and,Nat.zero_le,decide_true,Bool.and_eq_true,decide_eq_true_eq]
 have p1:(224≤b0∧b0≤224)=(b0=224):=propext (by omega)
 have p2:(237≤b0∧b0≤237)=(b0=237):=propext (by omega)
 have p3:(240≤b0∧b0≤240)=(b0=240):=propext (by omega)
 have p4:(244≤b0∧b0≤244)=(b0=244):=propext (by omega)
 simp only[p1,p2,p3,p4,and_assoc]
theorem Aa(s:ByteArray)(i:Nat)(hi:i<s.size):lM s i=if(Utf8.decode s i).1=65533∧(Utf8.decode s i).2=1 then 0 else(Utf8.decode s i).2:=by
 rw[Ny s i hi,Lib.decode_at]
 exact z_ _ _ _ _ _ (UInt8.toNat_lt _) (UInt8.toNat_lt _) (UInt8.toNat_lt _) (UInt8.toNat_lt _) _ _ rfl
theorem piece(s:ByteArray)(i:Nat)(hi:i<s.size)(hg:¬((Utf8.decode s i).1=65533∧(Utf8.decode s i).2=1)):
  i+(Utf8.decode s i).2≤s.size∧((Utf8.decode s i).1<128→(Utf8.decode s i).2=1∧(s.get! i).toNat=(Utf8.decode s i).1)∧(128≤(Utf8.decode s i).1→∀j,j<(Utf8.decode s i).2→128≤(s.get! (i+j)).toNat):=by
 rw[Lib.decode_at]at hg⊢
 have h0:=UInt8.toNat_lt (s.get! i)
 have h1:=UInt8.toNat_lt (s.get! (i+1))
 have h2:=UInt8.toNat_lt (s.get! (i+2))
 have h3:=UInt8.toNat_lt (s.get! (i+3))
 generalize hb1:(s.get! (i+1)).toNat=b1 at*
 generalize hb2:(s.get! (i+2)).toNat=b2 at*
 generalize hb3:(s.get! (i+3)).toNat=b3 at*
 generalize hb0:(s.get! i).toNat=b0 at*
 generalize hd:Lib.decodeN (s.size-i) b0 b1 b2 b3=d at*
 obtain⟨r,k⟩:=d
 unfold Lib.decodeN at hd
 repeat' split at hd
 all_goals
  simp only[Prod.mk.injEq]at hd
  obtain⟨rfl,rfl⟩:=hd
 ·exact⟨by omega,fun _=>⟨rfl,rfl⟩,fun h=>by omega⟩
 ·refine⟨by omega,fun h=>by omega,fun _ j hj=> ?_⟩
  match j,hj with
  |0,_=>rw[Nat.add_zero];omega
  |1,_=>omega
 ·exact absurd ⟨rfl,rfl⟩ hg
 ·refine⟨by omega,fun h=>by omega,fun _ j hj=> ?_⟩
  match j,hj with
  |0,_=>rw[Nat.add_zero];omega
  |1,_=>omega
  |2,_=>omega
 ·exact absurd ⟨rfl,rfl⟩ hg
 ·refine⟨by omega,fun h=>by omega,fun _ j hj=> ?_⟩
  match j,hj with
  |0,_=>rw[Nat.add_zero];omega
  |1,_=>omega
  |2,_=>omega
  |3,_=>omega
 ·exact absurd ⟨rfl,rfl⟩ hg
 ·exact absurd ⟨rfl,rfl⟩ hg
theorem BQ(s:ByteArray)(i:Nat)(hi:i<s.size):((s.get! i).toNat=0)↔(Utf8.decode s i).1=0:=by
 by_cases hg:(Utf8.decode s i).1=65533∧(Utf8.decode s i).2=1
 ·rw[hg.1]
  constructor
  ·intro h
   have:Utf8.decode s i=(0,1):=by
    rw[Lib.decode_at,h]
    rfl
   rw[this]at hg
   simp at hg
  ·intro h;cases h
 ·obtain⟨_,h1,h2⟩:=piece s i hi hg
  have hw:=Lib.width_pos s i
  by_cases hlow:(Utf8.decode s i).1<128
  ·rw[(h1 hlow).2]
  ·have:=h2 (by omega) 0 (by omega)
   rw[Nat.add_zero]at this
   constructor<;>omega
def badR(s:ByteArray):Nat→Nat→Nat
 |0,_=>s.size
 |f+1,i=>if i<s.size then(if lM s i=0∨(s.get! i).toNat=0 then i else badR s f (i+lM s i))else s.size
theorem yV(s:ByteArray):∀(f i:Nat),badR s f i=s.size↔gq s f i=true
 |0,i=>by simp[badR,gq]
 |f+1,i=>by
  unfold badR gq
  by_cases hi:i<s.size
  ·rw[if_pos hi,if_pos hi,Aa s i hi]
   simp only[BQ s i hi]
   have hw:=Lib.width_pos s i
   by_cases hb:(Utf8.decode s i).1=65533∧(Utf8.decode s i).2=1
   ·rw[if_pos hb,if_pos (.inl rfl),if_pos (.inr hb)]
    constructor
    ·intro h;omega
    ·intro h;cases h
   ·rw[if_neg hb]
    by_cases hz:(Utf8.decode s i).1=0
    ·rw[if_pos (.inr hz),if_pos (.inl hz)]
     constructor
     ·intro h;omega
     ·intro h;cases h
    ·rw[if_neg (by rintro(h|h);omega;exact hz h),if_neg (by rintro(h|h);exact hz h;exact hb h)]
     exact yV s f _
  ·rw[if_neg hi,if_neg hi];simp
open Go.RowKit
theorem jP{k:IntKind}{a b:Int}(h:a=b):Ending.returned (.int k a)= .returned (.int k b):=by rw[h]
theorem cZ{a b:Bool}(h:a=b):Ending.returned (.bool a)= .returned (.bool b):=by rw[h]
def nC(w w':World):Prop:=∃n,w'=w.drewN n
theorem nC.refl(w:World):nC w w:=⟨0,rfl⟩
theorem nC.next{w w':World}(h:nC w w')(k:Nat):nC w (w'.drewN k):=by obtain⟨n,rfl⟩:=h;exact⟨n+k,by rw[World.drewN_drewN]⟩
theorem nC.heap{w w':World}(h:nC w w'):w'.heap=w.heap:=by obtain⟨n,rfl⟩:=h;rfl
theorem nC.trans{a b c:World}(h:nC a b)(k:nC b c):nC a c:=by obtain⟨n,rfl⟩:=k;exact h.next n
theorem nC.below{w w':World}(h:nC w w')(B:Nat):Below B w w':=by
 obtain⟨n,rfl⟩:=h
 exact⟨rfl,rfl,rfl,Nat.le_refl _,fun _ _=>rfl⟩
def Strs(w:World)(v:Value)(l:List ByteArray):Prop:=
 ∃A c,v= .slice A l.length c∧l.length≤c∧c≤maxLen∧Row w 9 1 A l.length (l.map Value.string)
section
variable {w w':World} {v:Value} {l:List ByteArray}
theorem Strs.nil_(w:World):Strs w (.slice none 0 0) []:=⟨none,0,rfl,Nat.le_refl _,Nat.zero_le _,Row.none_⟩
theorem Strs.below{B:Nat}(h:Strs w v l)(hb:Below B w w')(hB:w.heap.size≤B):Strs w' v l:=by
 obtain⟨A,c,hv,h1,h2,hr⟩:=h;exact⟨A,c,hv,h1,h2,hr.below hb hB⟩
theorem Strs.alloc(h:Strs w v l)(x:Obj):Strs (w.alloc x) v l:=by
 obtain⟨A,c,hv,h1,h2,hr⟩:=h;exact⟨A,c,hv,h1,h2,hr.alloc x⟩
theorem Strs.drewN(h:Strs w v l)(k:Nat):Strs (w.drewN k) v l:=h
theorem Strs.drew(h:Strs w v l):Strs w.drew v l:=h
theorem Strs.keep(h:Strs w v l)(hk:∀(g:Nat) cur fr,w.heap[g]? =some (Obj.cells cur 9 fr)→w'.heap[g]? =w.heap[g]?):Strs w' v l:=by
 obtain⟨A,c,hv,h1,h2,hr⟩:=h;exact⟨A,c,hv,h1,h2,hr.keep hk⟩
theorem Strs.iH{base n:Nat}(h:w.ownsRow base 9 1 v n (l.map Value.string))(hn:n=l.length):Strs w v l:=by
 subst hn
 rcases h.2 with⟨rfl,h0⟩|⟨g,cap,cur,rfl,_,hg,hc,hm,hs,ht⟩
 ·have:l=[]:=List.eq_nil_of_length_eq_zero h0
  subst this
  exact Strs.nil_ w
 ·exact⟨_,cap,rfl,hc,hm,Row.iH h⟩
theorem Strs.new(w:World)(cs:Array Value)(fr:Nat×Nat)(l:List ByteArray)(c:Nat)(hc:l.length≤c)(hm:c≤maxLen)(hx:∀(j:Nat) u,(l.map Value.string)[j]? =some u→cs[j]? =some u):
  Strs (w.alloc (.cells cs 9 fr)) (.slice (some ⟨w.heap.size,0,none⟩) l.length c) l:=
 ⟨_,c,rfl,hc,hm,Row.new w _ 1 _ cs fr _ (by simp) hx⟩
theorem Strs.at_(h:Strs w v l){k:Nat}{x:ByteArray}(hk:l[k]? =some x):∃g o c,v= .slice (some ⟨g,o,none⟩) l.length c∧l.length≤c∧w.cell? ⟨g,o+k,none⟩=some (.string x):=by
 obtain⟨A,c,rfl,h1,_,hr⟩:=h
 have hl:k<l.length:=(List.getElem?_eq_some_iff.1 hk).1
 obtain⟨g,o,rfl,_⟩:=hr.form (by omega)
 exact⟨g,o,c,rfl,h1,hr.cell (by rw[List.getElem?_map,hk];rfl)⟩
end
section
variable {w w':World} {v:Value} {L:List oO}
end
section
variable {w w':World} {base e size n:Nat} {v:Value} {xs:List Value}
theorem own_below(h:w.ownsRow base e size v n xs)(hb:Below w.heap.size w w'):w'.ownsRow base e size v n xs:=by
 refine⟨h.1, ?_⟩
 rcases h.2 with h0|⟨g,cap,cur,hv,hbg,hg,hr⟩
 ·exact .inl h0
 ·exact .inr ⟨g,cap,cur,hv,hbg,(hb.block g (dP hg)).trans hg,hr⟩
theorem pV(h:w.ownsRow base e size v n xs){g:Nat}{cur:Array Value}{t:TypeId}{fr:Nat×Nat}(hg:w.heap[g]? =some (.cells cur t fr))(hne:t≠e):some g≠v.ownBlock:=by
 intro he
 obtain⟨c,fz,hk⟩:=Go.Lib.ownsRow_kind h g he.symm
 rw[hg]at hk
 injection hk with hk
 injection hk with _ ht
 exact hne ht
theorem yX{w:World}{base' e' size' m:Nat}{u:Value}{ys:List Value}(h:w.ownsRow base e size v n xs)(ho:w.ownsRow base' e' size' u m ys)(hg:w.grownBy w' u.ownBlock)(hne:e≠e'):w'.ownsRow base e size v n xs:=by
 refine⟨h.1, ?_⟩
 rcases h.2 with h0|⟨g,cap,cur,hv,hbg,hgc,hr⟩
 ·exact .inl h0
 ·exact .inr ⟨g,cap,cur,hv,hbg,(hg.block g (dP hgc) (pV ho hgc hne)).trans hgc,hr⟩
theorem Strs.grown{u:Value}{l:List ByteArray}(hs:Strs w u l)(h:w.ownsRow base e size v n xs)(hg:w.grownBy w' v.ownBlock)(hne:9≠e):Strs w' u l:=
 hs.keep fun g _ _ hc=>hg.block g (dP hc) (pV h hc hne)
end
section
variable {w w':World} {base:Nat} {v:Value} {L:List oO}
end
end Go.Proofs.YtkblmloobkiloaaGreatDoor
namespace Go.Proofs.YtkblmloobkiloaaGreatDoor
open Go.RowKit Go.Maps
def KS(s:ByteArray):Lit:= .string s.data.toList
def ix(L:List oO)(s:ByteArray):Nat:=(PI L s).getD 0
def qx(w:World)(b n:Nat)(L:List oO):Prop:=
 ∃D:DataW Unit,w.ownsMap Tryz.prog 9 (plainElem Tryz.prog 3) b n D∧
  ∀s:ByteArray,Maps.has D (KS s)=known L s∧D.atKey (KS s) (.lit (.int .i64 0))= .lit (.int .i64 (ix L s:Nat))
theorem qx.keep{w w':World}{b n:Nat}{L:List oO}(h:qx w b n L)(hk:∀es ck,w.heap[b]? =some (.map es ck)→w'.heap[b]? =w.heap[b]?):qx w' b n L:=by
 obtain⟨D,⟨es,ck,hb,r⟩,hx⟩:=h
 exact⟨D,⟨es,ck,(hk es ck hb).trans hb,r⟩,hx⟩
theorem qx.lt{w:World}{b n:Nat}{L:List oO}(h:qx w b n L):b<w.heap.size:=by
 obtain⟨D,⟨es,ck,hb,r⟩,hx⟩:=h
 exact dP hb
theorem qx.below{w w':World}{b n:Nat}{L:List oO}(h:qx w b n L)(hb:Below w.heap.size w w'):qx w' b n L:=
 h.keep fun _ _ hc=>hb.block b (dP hc)
theorem qx.made(w:World):qx (w.alloc (.map #[] 0)) w.heap.size 0 []:=
 ⟨.map [],World.ownsMap_made _ _ _ _,fun _=>⟨rfl,rfl⟩⟩
end Go.Proofs.YtkblmloobkiloaaGreatDoor
namespace Go.Proofs.YtkblmloobkiloaaGreatDoor
open Go.RowKit Go.Maps Go.WideMaps
end Go.Proofs.YtkblmloobkiloaaGreatDoor
namespace Go.Proofs.YtkblmloobkiloaaGreatDoor
structure Nd where
 path:Int
 parent:Int
 name:ByteArray
 mode:Int
 uid:ByteArray
 gid:ByteArray
 fE:ByteArray
 atime:Int
 mtime:Int
 vers:Int
 length:Int
 opens:Int
 kids:Int
def Nd.none:Nd:=⟨0,0,⟨#[]⟩,0,⟨#[]⟩,⟨#[]⟩,⟨#[]⟩,0,0,0,0,0,0⟩
def Nd.ok(n:Nd):Prop:=0≤n.mode∧n.mode<4294967296∧n.name.size≤16777216∧n.uid.size≤16777216∧n.gid.size≤16777216∧n.fE.size≤16777216
def Nz(own mem:Bool)(m:Nat):Nat:=((if own then m/64%8 else 0) ||| (if mem then m/8%8 else 0)) ||| m%8
def rights(own mem:Bool)(m:Int):Int:=(Nz own mem m.toNat:Nat)
end Go.Proofs.YtkblmloobkiloaaGreatDoor
