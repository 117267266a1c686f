/- Steps of the proof. -/
import Derived.Test.YtbmopacdflgfjaaGreatDoorM03
import Derived.Test.YtbmopacdflgfjaaGreatDoorM08
import Derived.Shelf.Small.Bits
import Derived.Shelf.Small.Wraps
import Derived.Shelf.Utf8.RuneCount
import Derived.Shelf.Strconv.Atoi
import Derived.Shelf.Strconv.Itoa0
import Derived.Shelf.Strconv.Itoa1
import Derived.Shelf.LaysM
import Derived.Shelf.Strconv.Itoa2
import Derived.Shelf.Strconv.Itoa3
import Derived.Shelf.Strconv.AtoiErrFast
import Derived.Shelf.Strconv.ParseIntEmpty
import Derived.Shelf.Strconv.AtoiFail
import Derived.Shelf.Strconv.Clone
import Derived.Shelf.Strconv.SyntaxError
import Derived.Shelf.LaysC
import Derived.Shelf.Strconv.ToError
import Derived.Shelf.Strconv.Lower
import Derived.Shelf.Strconv.ParseUint10
import Derived.Shelf.Strconv.ParseUint10Empty
import Derived.Shelf.Strconv.ParseUint10Any
import Derived.Shelf.Strconv.ParseInt10
import Derived.Shelf.Strconv.AtoiLong
import Derived.Shelf.Strconv.AtoiInnerAll
import Derived.Shelf.Strconv.RangeError
import Derived.Shelf.Strconv.ToErrorRange
import Derived.Shelf.Strconv.AtoiAll
import Derived.Shelf.Strconv.ErrVarAll
import Derived.Shelf.Strings.Search1
import Derived.Shelf.Strings.Search2
import Derived.Shelf.Strings.Search3
import Derived.Shelf.Strings.Count
import Derived.Shelf.Strings.Shaped
import Derived.Shelf.Sort.Plain
import Derived.Shelf.Strings.Prefix
import Derived.Shelf.Strings.Split
import Derived.Shelf.Unicode.Decode
import Derived.Shelf.Slices.Turned
import Derived.Shelf.Slices.Equal
import Derived.Shelf.Slices.Clone
import Derived.Shelf.Slices.CompactS
import Derived.Shelf.Slices.SearchI
import Derived.Shelf.Slices.Delete
import Derived.Shelf.Slices.Cells
import Derived.Shelf.Slices.In.SortNone
import Derived.Shelf.Slices.Empties
import Derived.Shelf.Slices.Empties2
import Derived.Shelf.Unicode.ValidAny
import Derived.Lib.ValidU
set_option maxHeartbeats 40000000
set_option maxRecDepth 100000
namespace Go.Proofs
open Go.Shelf
def Tryz.Yn:Go.Shelf.Ren:=⟨fun|103=>263|210=>272|206=>224|n=>n,fun|9=>9|4=>4|24=>175|3=>3|n=>n,fun|n=>n⟩
theorem Tryz.aiI:Go.Proofs.Lays.n103 Tryz.prog Tryz.Yn:={
 mixed:=by kernel_rfl
 f103:=Tryz.func263.trans (congrArg some zh)
 f206:=Tryz.func224.trans (congrArg some zh)
 f210:=Tryz.func272.trans (congrArg some zh)
 t3:=Tryz.underlying3
 a3:=Tryz.isAgg3
 z3:=Tryz.sizeOf3
 v3:=Tryz.zeroValue3
 t4:=Tryz.underlying4
 a4:=Tryz.isAgg4
 z4:=Tryz.sizeOf4
 v4:=Tryz.zeroValue4
 t9:=Tryz.underlying9
 a9:=Tryz.isAgg9
 z9:=Tryz.sizeOf9
 v9:=Tryz.zeroValue9
 t24:=Tryz.underlying175
 a24:=Tryz.isAgg175
 z24:=Tryz.sizeOf175
 v24:=Tryz.zeroValue175}
open Go.RowKit in
theorem Tryz.strings_CutPrefix (s p:ByteArray) (w:World):
   Calls Tryz.prog 263 #[.string s,.string p] w fun e w'=>e= .returned (.tuple #[.string ⟨(Lib.trimPrefix s.data.toList p.data.toList).toArray⟩,.bool (Lib.hasPrefix s.data.toList p.data.toList)])∧w'=w:=Any.strings_CutPrefix Tryz.aiI s p w
def Tryz.Yl:Go.Shelf.Ren:=⟨fun|122=>228|215=>246|n=>n,fun|3=>3|4=>4|n=>n,fun|n=>n⟩
theorem Tryz.aiH:Go.Proofs.Lays.n122 Tryz.prog Tryz.Yl:={
 mixed:=by kernel_rfl
 f122:=Tryz.func228.trans (congrArg some zh)
 f215:=Tryz.func246.trans (congrArg some zh)
 t3:=Tryz.underlying3
 a3:=Tryz.isAgg3
 z3:=Tryz.sizeOf3
 v3:=Tryz.zeroValue3
 t4:=Tryz.underlying4
 a4:=Tryz.isAgg4
 z4:=Tryz.sizeOf4
 v4:=Tryz.zeroValue4}
open Go.RowKit in
theorem Tryz.cmp_Compare_int (x y:Int) (w:World):
   Calls Tryz.prog 228 #[.int .i64 x,.int .i64 y] w fun e w'=>e= .returned (.int .i64 (Lib.compareInt x y))∧w'=w:=Any.cmp_Compare_int Tryz.aiH x y w
def Tryz.VJ:Go.Shelf.Ren:=⟨fun|171=>265|243=>275|246=>284|283=>289|284=>290|285=>291|286=>292|129=>168|317=>295|318=>296|319=>297|320=>298|337=>299|338=>300|n=>n,fun|3=>3|9=>9|2=>2|4=>4|171=>378|0=>0|53=>278|37=>22|5=>5|173=>380|212=>388|51=>276|20=>20|213=>389|46=>223|232=>390|233=>391|n=>n,fun|17=>8|18=>9|19=>10|n=>n⟩
theorem Tryz.afN:Go.Proofs.LaysM.n171 Tryz.prog Tryz.VJ:={
 mixed:=by kernel_rfl
 f129:=Tryz.func168.trans (congrArg some zh)
 f171:=Tryz.func265.trans (congrArg some zh)
 f243:=Tryz.func275.trans (congrArg some zh)
 f246:=Tryz.func284.trans (congrArg some zh)
 f283:=Tryz.func289.trans (congrArg some zh)
 f284:=Tryz.func290.trans (congrArg some zh)
 f285:=Tryz.func291.trans (congrArg some zh)
 f286:=Tryz.func292.trans (congrArg some zh)
 f317:=Tryz.func295.trans (congrArg some zh)
 f318:=Tryz.func296.trans (congrArg some zh)
 f319:=Tryz.func297.trans (congrArg some zh)
 f320:=Tryz.func298.trans (congrArg some zh)
 f337:=Tryz.func299.trans (congrArg some zh)
 f338:=Tryz.func300.trans (congrArg some zh)
 t0:=Tryz.underlying0
 a0:=Tryz.isAgg0
 z0:=Tryz.sizeOf0
 v0:=Tryz.zeroValue0
 t2:=Tryz.underlying2
 a2:=Tryz.isAgg2
 z2:=Tryz.sizeOf2
 v2:=Tryz.zeroValue2
 t3:=Tryz.underlying3
 a3:=Tryz.isAgg3
 z3:=Tryz.sizeOf3
 v3:=Tryz.zeroValue3
 t4:=Tryz.underlying4
 a4:=Tryz.isAgg4
 z4:=Tryz.sizeOf4
 v4:=Tryz.zeroValue4
 t5:=Tryz.underlying5
 a5:=Tryz.isAgg5
 z5:=Tryz.sizeOf5
 v5:=Tryz.zeroValue5
 t9:=Tryz.underlying9
 a9:=Tryz.isAgg9
 z9:=Tryz.sizeOf9
 v9:=Tryz.zeroValue9
 t20:=Tryz.underlying20
 a20:=Tryz.isAgg20
 z20:=Tryz.sizeOf20
 v20:=Tryz.zeroValue20
 t37:=Tryz.underlying22
 a37:=Tryz.isAgg22
 z37:=Tryz.sizeOf22
 v37:=Tryz.zeroValue22
 t46:=Tryz.underlying223
 a46:=Tryz.isAgg223
 z46:=Tryz.sizeOf223
 v46:=Tryz.zeroValue223
 t51:=Tryz.underlying276
 a51:=Tryz.isAgg276
 z51:=Tryz.sizeOf276
 v51:=Tryz.zeroValue276
 t53:=Tryz.underlying278
 a53:=Tryz.isAgg278
 z53:=Tryz.sizeOf278
 v53:=Tryz.zeroValue278
 t171:=Tryz.underlying378
 a171:=Tryz.isAgg378
 z171:=Tryz.sizeOf378
 v171:=Tryz.zeroValue378
 t173:=Tryz.underlying380
 a173:=Tryz.isAgg380
 z173:=Tryz.sizeOf380
 v173:=Tryz.zeroValue380
 t212:=Tryz.underlying388
 a212:=Tryz.isAgg388
 z212:=Tryz.sizeOf388
 v212:=Tryz.zeroValue388
 t213:=Tryz.underlying389
 a213:=Tryz.isAgg389
 z213:=Tryz.sizeOf389
 t232:=Tryz.underlying390
 a232:=Tryz.isAgg390
 z232:=Tryz.sizeOf390
 v232:=Tryz.zeroValue390
 t233:=Tryz.underlying391
 a233:=Tryz.isAgg391
 z233:=Tryz.sizeOf391
 v233:=Tryz.zeroValue391
 g17:=by kernel_rfl
 g18:=by kernel_rfl
 g19:=by kernel_rfl
 i0:=by kernel_rfl
 i2:=by kernel_rfl
 i3:=by kernel_rfl
 i4:=by kernel_rfl
 i5:=by kernel_rfl
 i9:=by kernel_rfl
 i20:=by kernel_rfl
 i37:=by kernel_rfl
 i46:=by kernel_rfl
 i51:=by kernel_rfl
 i53:=by kernel_rfl
 i171:=by kernel_rfl
 i173:=by kernel_rfl
 i212:=by kernel_rfl
 i232:=by kernel_rfl
 i233:=by kernel_rfl
 m17:=by kernel_rfl
 m18:=by kernel_rfl
 m19:=by kernel_rfl}
open Go.RowKit Go.Sort Go.Lib in
theorem Tryz.strconv_Itoa (n : Int) (h0 : -9223372036854775808 ≤ n) (h1 : n ≤ 9223372036854775807) (w : World) (aq8 : Lib.TabIs Tryz.prog w "internal/strconv.uint64pow10" .u64 Lib.pow10Tab) :
   Calls Tryz.prog 265 #[.int .i64 n] w fun e w'=>e= .returned (.string ⟨(Lib.itoa n).toArray⟩)∧∃k os,w'=grow (w.drewN k) os:=Any.strconv_Itoa Tryz.afN n h0 h1 w aq8
def Tryz.VK:Go.Shelf.Ren:=⟨fun|172=>264|244=>273|245=>274|247=>279|279=>280|280=>281|281=>282|282=>283|287=>286|316=>287|171=>265|205=>288|321=>293|322=>294|243=>275|246=>284|283=>289|284=>290|285=>291|286=>292|129=>168|317=>295|318=>296|319=>297|320=>298|337=>299|338=>300|n=>n,fun|9=>9|3=>3|75=>355|76=>356|4=>4|5=>5|167=>365|37=>22|0=>0|85=>366|2=>2|168=>368|53=>278|175=>372|46=>223|210=>376|127=>383|145=>386|143=>384|21=>21|171=>378|173=>380|212=>388|51=>276|20=>20|213=>389|232=>390|233=>391|80=>78|n=>n,fun|15=>6|16=>7|17=>8|18=>9|19=>10|n=>n⟩
theorem Tryz.O9:Go.Proofs.LaysC.n172 Tryz.prog Tryz.VK:={
 mixed:=by kernel_rfl
 f129:=Tryz.func168.trans (congrArg some zh)
 f171:=Tryz.func265.trans (congrArg some zh)
 f172:=Tryz.func264.trans (congrArg some zh)
 f205:=Tryz.func288.trans (congrArg some zh)
 f243:=Tryz.func275.trans (congrArg some zh)
 f244:=Tryz.func273.trans (congrArg some zh)
 f245:=Tryz.func274.trans (congrArg some zh)
 f246:=Tryz.func284.trans (congrArg some zh)
 f247:=Tryz.func279.trans (congrArg some zh)
 f279:=Tryz.func280.trans (congrArg some zh)
 f280:=Tryz.func281.trans (congrArg some zh)
 f281:=Tryz.func282.trans (congrArg some zh)
 f282:=Tryz.func283.trans (congrArg some zh)
 f283:=Tryz.func289.trans (congrArg some zh)
 f284:=Tryz.func290.trans (congrArg some zh)
 f285:=Tryz.func291.trans (congrArg some zh)
 f286:=Tryz.func292.trans (congrArg some zh)
 f287:=Tryz.func286.trans (congrArg some zh)
 f316:=Tryz.func287.trans (congrArg some zh)
 f317:=Tryz.func295.trans (congrArg some zh)
 f318:=Tryz.func296.trans (congrArg some zh)
 f319:=Tryz.func297.trans (congrArg some zh)
 f320:=Tryz.func298.trans (congrArg some zh)
 f321:=Tryz.func293.trans (congrArg some zh)
 f322:=Tryz.func294.trans (congrArg some zh)
 f337:=Tryz.func299.trans (congrArg some zh)
 f338:=Tryz.func300.trans (congrArg some zh)
 t0:=Tryz.underlying0
 a0:=Tryz.isAgg0
 z0:=Tryz.sizeOf0
 v0:=Tryz.zeroValue0
 t2:=Tryz.underlying2
 a2:=Tryz.isAgg2
 z2:=Tryz.sizeOf2
 v2:=Tryz.zeroValue2
 t3:=Tryz.underlying3
 a3:=Tryz.isAgg3
 z3:=Tryz.sizeOf3
 v3:=Tryz.zeroValue3
 t4:=Tryz.underlying4
 a4:=Tryz.isAgg4
 z4:=Tryz.sizeOf4
 v4:=Tryz.zeroValue4
 t5:=Tryz.underlying5
 a5:=Tryz.isAgg5
 z5:=Tryz.sizeOf5
 v5:=Tryz.zeroValue5
 t9:=Tryz.underlying9
 a9:=Tryz.isAgg9
 z9:=Tryz.sizeOf9
 v9:=Tryz.zeroValue9
 t20:=Tryz.underlying20
 a20:=Tryz.isAgg20
 z20:=Tryz.sizeOf20
 v20:=Tryz.zeroValue20
 t21:=Tryz.underlying21
 a21:=Tryz.isAgg21
 z21:=Tryz.sizeOf21
 v21:=Tryz.zeroValue21
 t37:=Tryz.underlying22
 a37:=Tryz.isAgg22
 z37:=Tryz.sizeOf22
 v37:=Tryz.zeroValue22
 t46:=Tryz.underlying223
 a46:=Tryz.isAgg223
 z46:=Tryz.sizeOf223
 v46:=Tryz.zeroValue223
 t51:=Tryz.underlying276
 a51:=Tryz.isAgg276
 z51:=Tryz.sizeOf276
 v51:=Tryz.zeroValue276
 t53:=Tryz.underlying278
 a53:=Tryz.isAgg278
 z53:=Tryz.sizeOf278
 v53:=Tryz.zeroValue278
 t75:=Tryz.underlying355
 a75:=Tryz.isAgg355
 z75:=Tryz.sizeOf355
 v75:=Tryz.zeroValue355
 t76:=Tryz.underlying356
 a76:=Tryz.isAgg356
 z76:=Tryz.sizeOf356
 v76:=Tryz.zeroValue356
 t85:=Tryz.underlying366
 a85:=Tryz.isAgg366
 z85:=Tryz.sizeOf366
 v85:=Tryz.zeroValue366
 t127:=Tryz.underlying383
 a127:=Tryz.isAgg383
 z127:=Tryz.sizeOf383
 v127:=Tryz.zeroValue383
 t143:=Tryz.underlying384
 a143:=Tryz.isAgg384
 z143:=Tryz.sizeOf384
 v143:=Tryz.zeroValue384
 t145:=Tryz.underlying386
 a145:=Tryz.isAgg386
 z145:=Tryz.sizeOf386
 v145:=Tryz.zeroValue386
 t167:=Tryz.underlying365
 a167:=Tryz.isAgg365
 z167:=Tryz.sizeOf365
 v167:=Tryz.zeroValue365
 t168:=Tryz.underlying368
 a168:=Tryz.isAgg368
 z168:=Tryz.sizeOf368
 v168:=Tryz.zeroValue368
 t171:=Tryz.underlying378
 a171:=Tryz.isAgg378
 z171:=Tryz.sizeOf378
 v171:=Tryz.zeroValue378
 t173:=Tryz.underlying380
 a173:=Tryz.isAgg380
 z173:=Tryz.sizeOf380
 v173:=Tryz.zeroValue380
 t175:=Tryz.underlying372
 a175:=Tryz.isAgg372
 z175:=Tryz.sizeOf372
 v175:=Tryz.zeroValue372
 t210:=Tryz.underlying376
 a210:=Tryz.isAgg376
 z210:=Tryz.sizeOf376
 v210:=Tryz.zeroValue376
 t212:=Tryz.underlying388
 a212:=Tryz.isAgg388
 z212:=Tryz.sizeOf388
 v212:=Tryz.zeroValue388
 t213:=Tryz.underlying389
 a213:=Tryz.isAgg389
 z213:=Tryz.sizeOf389
 t232:=Tryz.underlying390
 a232:=Tryz.isAgg390
 z232:=Tryz.sizeOf390
 v232:=Tryz.zeroValue390
 t233:=Tryz.underlying391
 a233:=Tryz.isAgg391
 z233:=Tryz.sizeOf391
 v233:=Tryz.zeroValue391
 g15:=by kernel_rfl
 g16:=by kernel_rfl
 g17:=by kernel_rfl
 g18:=by kernel_rfl
 g19:=by kernel_rfl
 t80:=Tryz.underlying78
 a80:=Tryz.isAgg78
 z80:=Tryz.sizeOf78
 v80:=Tryz.zeroValue78
 i0:=by kernel_rfl
 i2:=by kernel_rfl
 i3:=by kernel_rfl
 i4:=by kernel_rfl
 i5:=by kernel_rfl
 i9:=by kernel_rfl
 i20:=by kernel_rfl
 i21:=by kernel_rfl
 i37:=by kernel_rfl
 i46:=by kernel_rfl
 i51:=by kernel_rfl
 i53:=by kernel_rfl
 i75:=by kernel_rfl
 i76:=by kernel_rfl
 i80:=by kernel_rfl
 i85:=by kernel_rfl
 i127:=by kernel_rfl
 i143:=by kernel_rfl
 i145:=by kernel_rfl
 i167:=by kernel_rfl
 i168:=by kernel_rfl
 i171:=by kernel_rfl
 i173:=by kernel_rfl
 i175:=by kernel_rfl
 i210:=by kernel_rfl
 i212:=by kernel_rfl
 i232:=by kernel_rfl
 i233:=by kernel_rfl
 m15:=by kernel_rfl
 m16:=by kernel_rfl
 m17:=by kernel_rfl
 m18:=by kernel_rfl
 m19:=by kernel_rfl
 c0:=by kernel_rfl
 c2:=by kernel_rfl
 c3:=by kernel_rfl
 c4:=by kernel_rfl
 c5:=by kernel_rfl
 c9:=by kernel_rfl
 c20:=by kernel_rfl
 c21:=by kernel_rfl
 c37:=by kernel_rfl
 c46:=by kernel_rfl
 c51:=by kernel_rfl
 c53:=by kernel_rfl
 c75:=by kernel_rfl
 c76:=by kernel_rfl
 c80:=by kernel_rfl
 c85:=by kernel_rfl
 c127:=by kernel_rfl
 c143:=by kernel_rfl
 c145:=by kernel_rfl
 c167:=by kernel_rfl
 c168:=by kernel_rfl
 c171:=by kernel_rfl
 c173:=by kernel_rfl
 c175:=by kernel_rfl
 c210:=by kernel_rfl
 c212:=by kernel_rfl
 c213:=by kernel_rfl
 c232:=by kernel_rfl
 c233:=by kernel_rfl}
open Go.RowKit in
theorem Tryz.strconv_Atoi_ok (s:ByteArray) (ars:s.size≤9223372036854775806) (v:Int) (h:Lib.atoiAll s.data.toList= .ok v) (w:World):
   Calls Tryz.prog 264 #[.string s] w fun e w'=>e= .returned (.tuple #[.int .i64 v,.nilIface])∧(w'=w∨∃t,w'=Lib.bytesWorld w 5 t):=Any.strconv_Atoi_ok Tryz.O9 s ars v h w
open Go.RowKit in
theorem Tryz.strconv_Atoi_syntax (s:ByteArray) (af9:s.size≤281474976710656) (h:Lib.atoiAll s.data.toList=Lib.atoiAll []) (ev:Value) (w:World) (hv:w.cell? ⟨6,0,none⟩=some ev) (MC:ev= .nilIface∨∃te pe,ev= .iface te pe):
   Calls Tryz.prog 264 #[.string s] w fun e w'=>∃N,e= .returned (.tuple #[.int .i64 (0),.iface 368 (.pointer (some ⟨N,0,none⟩))])∧w.heap.size≤N∧w'.heap[N]? =some (.cells #[.string ⟨#[65,116,111,105]⟩,.string s,ev] 376 (0,0))∧Below w.heap.size w w':=Any.strconv_Atoi_syntax Tryz.O9 s af9 h ev w hv MC
open Go.RowKit in
theorem Tryz.strconv_Atoi_range (s:ByteArray) (af9:s.size≤281474976710656) (h:Lib.atoiAll s.data.toList= .range) (ev:Value) (w:World) (hv:w.cell? ⟨7,0,none⟩=some ev) (MC:ev= .nilIface∨∃te pe,ev= .iface te pe):
   Calls Tryz.prog 264 #[.string s] w fun e w'=>∃N,e= .returned (.tuple #[.int .i64 (Lib.atoiSat s.data.toList),.iface 368 (.pointer (some ⟨N,0,none⟩))])∧w.heap.size≤N∧w'.heap[N]? =some (.cells #[.string ⟨#[65,116,111,105]⟩,.string s,ev] 376 (0,0))∧Below w.heap.size w w':=Any.strconv_Atoi_range Tryz.O9 s af9 h ev w hv MC
def Tryz.Yk:Go.Shelf.Ren:=⟨fun|144=>183|143=>226|219=>243|217=>258|225=>259|224=>260|267=>261|266=>268|314=>269|n=>n,fun|9=>9|4=>4|3=>3|5=>5|46=>223|146=>358|51=>276|n=>n,fun|1=>5|n=>n⟩
theorem Tryz.aiG:Go.Proofs.Lays.n144 Tryz.prog Tryz.Yk:={
 mixed:=by kernel_rfl
 f143:=Tryz.func226.trans (congrArg some zh)
 f144:=Tryz.func183.trans (congrArg some zh)
 f217:=Tryz.func258.trans (congrArg some zh)
 f219:=Tryz.func243.trans (congrArg some zh)
 f224:=Tryz.func260.trans (congrArg some zh)
 f225:=Tryz.func259.trans (congrArg some zh)
 f266:=Tryz.func268.trans (congrArg some zh)
 f267:=Tryz.func261.trans (congrArg some zh)
 f314:=Tryz.func269.trans (congrArg some zh)
 t3:=Tryz.underlying3
 a3:=Tryz.isAgg3
 z3:=Tryz.sizeOf3
 v3:=Tryz.zeroValue3
 t4:=Tryz.underlying4
 a4:=Tryz.isAgg4
 z4:=Tryz.sizeOf4
 v4:=Tryz.zeroValue4
 t5:=Tryz.underlying5
 a5:=Tryz.isAgg5
 z5:=Tryz.sizeOf5
 v5:=Tryz.zeroValue5
 t9:=Tryz.underlying9
 a9:=Tryz.isAgg9
 z9:=Tryz.sizeOf9
 v9:=Tryz.zeroValue9
 t46:=Tryz.underlying223
 a46:=Tryz.isAgg223
 z46:=Tryz.sizeOf223
 v46:=Tryz.zeroValue223
 t51:=Tryz.underlying276
 a51:=Tryz.isAgg276
 z51:=Tryz.sizeOf276
 v51:=Tryz.zeroValue276
 t146:=Tryz.underlying358
 a146:=Tryz.isAgg358
 z146:=Tryz.sizeOf358
 v146:=Tryz.zeroValue358
 g1:=by kernel_rfl}
open Go.RowKit Go.Lib in
theorem Tryz.strings_Contains (s sub:ByteArray) (m:Int) (w:World) (hs:s.size<4294967281) (hm:w.cell? ⟨5,0,none⟩=some (.int .i64 m)):
   Calls Tryz.prog 183 #[.string s,.string sub] w fun e w'=>e= .returned (.bool (Lib.contains s.data.toList sub.data.toList))∧w'=w:=Any.strings_Contains Tryz.aiG s sub m w hs hm
def Tryz.Yi:Go.Shelf.Ren:=⟨fun|190=>78|125=>116|258=>115|128=>167|129=>168|302=>158|303=>159|304=>160|305=>161|306=>162|307=>163|308=>164|309=>165|310=>166|333=>212|329=>213|330=>214|334=>215|335=>216|336=>217|344=>240|n=>n,fun|31=>58|9=>9|3=>3|46=>223|0=>0|51=>276|53=>278|4=>4|183=>269|182=>268|131=>243|5=>5|218=>313|222=>317|228=>338|229=>298|n=>n,fun|n=>n⟩
theorem Tryz.YW:Go.Proofs.Lays.n190 Tryz.prog Tryz.Yi:={
 mixed:=by kernel_rfl
 f125:=Tryz.func116.trans (congrArg some zh)
 f128:=Tryz.func167.trans (congrArg some zh)
 f129:=Tryz.func168.trans (congrArg some zh)
 f190:=Tryz.func78.trans (congrArg some zh)
 f258:=Tryz.func115.trans (congrArg some zh)
 f302:=Tryz.func158.trans (congrArg some zh)
 f303:=Tryz.func159.trans (congrArg some zh)
 f304:=Tryz.func160.trans (congrArg some zh)
 f305:=Tryz.func161.trans (congrArg some zh)
 f306:=Tryz.func162.trans (congrArg some zh)
 f307:=Tryz.func163.trans (congrArg some zh)
 f308:=Tryz.func164.trans (congrArg some zh)
 f309:=Tryz.func165.trans (congrArg some zh)
 f310:=Tryz.func166.trans (congrArg some zh)
 f329:=Tryz.func213.trans (congrArg some zh)
 f330:=Tryz.func214.trans (congrArg some zh)
 f333:=Tryz.func212.trans (congrArg some zh)
 f334:=Tryz.func215.trans (congrArg some zh)
 f335:=Tryz.func216.trans (congrArg some zh)
 f336:=Tryz.func217.trans (congrArg some zh)
 f344:=Tryz.func240.trans (congrArg some zh)
 t0:=Tryz.underlying0
 a0:=Tryz.isAgg0
 z0:=Tryz.sizeOf0
 v0:=Tryz.zeroValue0
 t3:=Tryz.underlying3
 a3:=Tryz.isAgg3
 z3:=Tryz.sizeOf3
 v3:=Tryz.zeroValue3
 t4:=Tryz.underlying4
 a4:=Tryz.isAgg4
 z4:=Tryz.sizeOf4
 v4:=Tryz.zeroValue4
 t5:=Tryz.underlying5
 a5:=Tryz.isAgg5
 z5:=Tryz.sizeOf5
 v5:=Tryz.zeroValue5
 t9:=Tryz.underlying9
 a9:=Tryz.isAgg9
 z9:=Tryz.sizeOf9
 v9:=Tryz.zeroValue9
 t31:=Tryz.underlying58
 a31:=Tryz.isAgg58
 z31:=Tryz.sizeOf58
 v31:=Tryz.zeroValue58
 t46:=Tryz.underlying223
 a46:=Tryz.isAgg223
 z46:=Tryz.sizeOf223
 v46:=Tryz.zeroValue223
 t51:=Tryz.underlying276
 a51:=Tryz.isAgg276
 z51:=Tryz.sizeOf276
 v51:=Tryz.zeroValue276
 t53:=Tryz.underlying278
 a53:=Tryz.isAgg278
 z53:=Tryz.sizeOf278
 v53:=Tryz.zeroValue278
 t131:=Tryz.underlying243
 a131:=Tryz.isAgg243
 z131:=Tryz.sizeOf243
 v131:=Tryz.zeroValue243
 t182:=Tryz.underlying268
 a182:=Tryz.isAgg268
 z182:=Tryz.sizeOf268
 v182:=Tryz.zeroValue268
 t183:=Tryz.underlying269
 a183:=Tryz.isAgg269
 z183:=Tryz.sizeOf269
 v183:=Tryz.zeroValue269
 t218:=Tryz.underlying313
 a218:=Tryz.isAgg313
 z218:=Tryz.sizeOf313
 v218:=Tryz.zeroValue313
 t222:=Tryz.underlying317
 a222:=Tryz.isAgg317
 z222:=Tryz.sizeOf317
 v222:=Tryz.zeroValue317
 t228:=Tryz.underlying338
 a228:=Tryz.isAgg338
 z228:=Tryz.sizeOf338
 v228:=Tryz.zeroValue338
 t229:=Tryz.underlying298
 a229:=Tryz.isAgg298
 z229:=Tryz.sizeOf298
 v229:=Tryz.zeroValue298}
open Go.Sort Go.RowKit in
theorem Tryz.slices_Sort_string (blk off cap:Nat) (ss:List (List UInt8)) (w:World) (hH:Holds encStr w blk off ss.toArray) (arR:blk<w.heap.size) (hsz:ss.length<4611686018427387904):
   Calls Tryz.prog 78 #[.slice (some ⟨blk,off,none⟩) ss.length cap] w fun e w'=>
     e= .returned (.tuple #[])∧∃n os,w'=grow (putRow encStr (Sort.ahead w n) blk off (ss.mergeSort fun x y=>decide (x≤y)).toArray) os:=Any.slices_Sort_string Tryz.YW blk off cap ss w hH arR hsz
def Tryz.aby:Go.Shelf.Ren:=⟨fun|99=>181|206=>224|n=>n,fun|9=>9|4=>4|3=>3|n=>n,fun|n=>n⟩
theorem Tryz.ajO:Go.Proofs.Lays.n99 Tryz.prog Tryz.aby:={
 mixed:=by kernel_rfl
 f99:=Tryz.func181.trans (congrArg some zh)
 f206:=Tryz.func224.trans (congrArg some zh)
 t3:=Tryz.underlying3
 a3:=Tryz.isAgg3
 z3:=Tryz.sizeOf3
 v3:=Tryz.zeroValue3
 t4:=Tryz.underlying4
 a4:=Tryz.isAgg4
 z4:=Tryz.sizeOf4
 v4:=Tryz.zeroValue4
 t9:=Tryz.underlying9
 a9:=Tryz.isAgg9
 z9:=Tryz.sizeOf9
 v9:=Tryz.zeroValue9}
open Go.RowKit Go.Lib in
theorem Tryz.strings_HasPrefix (s p:ByteArray) (w:World):
   Calls Tryz.prog 181 #[.string s,.string p] w fun e w'=>e= .returned (.bool (Lib.hasPrefix s.data.toList p.data.toList))∧w'=w:=Any.strings_HasPrefix Tryz.ajO s p w
def Tryz.Yo:Go.Shelf.Ren:=⟨fun|100=>182|207=>225|n=>n,fun|9=>9|4=>4|3=>3|n=>n,fun|n=>n⟩
theorem Tryz.aiJ:Go.Proofs.Lays.n100 Tryz.prog Tryz.Yo:={
 mixed:=by kernel_rfl
 f100:=Tryz.func182.trans (congrArg some zh)
 f207:=Tryz.func225.trans (congrArg some zh)
 t3:=Tryz.underlying3
 a3:=Tryz.isAgg3
 z3:=Tryz.sizeOf3
 v3:=Tryz.zeroValue3
 t4:=Tryz.underlying4
 a4:=Tryz.isAgg4
 z4:=Tryz.sizeOf4
 v4:=Tryz.zeroValue4
 t9:=Tryz.underlying9
 a9:=Tryz.isAgg9
 z9:=Tryz.sizeOf9
 v9:=Tryz.zeroValue9}
open Go.RowKit Go.Lib in
theorem Tryz.strings_HasSuffix (s p:ByteArray) (w:World) (hs:s.size≤9223372036854775807):
   Calls Tryz.prog 182 #[.string s,.string p] w fun e w'=>e= .returned (.bool (Lib.hasSuffix s.data.toList p.data.toList))∧w'=w:=Any.strings_HasSuffix Tryz.aiJ s p w hs
def Tryz.Yj:Go.Shelf.Ren:=⟨fun|146=>247|221=>262|268=>270|138=>271|143=>226|195=>276|197=>277|218=>278|219=>243|260=>285|217=>258|225=>259|224=>260|267=>261|266=>268|314=>269|n=>n,fun|9=>9|31=>58|3=>3|4=>4|0=>0|105=>363|21=>21|5=>5|46=>223|119=>331|139=>334|138=>333|146=>358|51=>276|n=>n,fun|1=>5|3=>3|4=>4|n=>n⟩
theorem Tryz.aiF:Go.Proofs.Lays.n146 Tryz.prog Tryz.Yj:={
 mixed:=by kernel_rfl
 f138:=Tryz.func271.trans (congrArg some zh)
 f143:=Tryz.func226.trans (congrArg some zh)
 f146:=Tryz.func247.trans (congrArg some zh)
 f195:=Tryz.func276.trans (congrArg some zh)
 f197:=Tryz.func277.trans (congrArg some zh)
 f217:=Tryz.func258.trans (congrArg some zh)
 f218:=Tryz.func278.trans (congrArg some zh)
 f219:=Tryz.func243.trans (congrArg some zh)
 f221:=Tryz.func262.trans (congrArg some zh)
 f224:=Tryz.func260.trans (congrArg some zh)
 f225:=Tryz.func259.trans (congrArg some zh)
 f260:=Tryz.func285.trans (congrArg some zh)
 f266:=Tryz.func268.trans (congrArg some zh)
 f267:=Tryz.func261.trans (congrArg some zh)
 f268:=Tryz.func270.trans (congrArg some zh)
 f314:=Tryz.func269.trans (congrArg some zh)
 t0:=Tryz.underlying0
 a0:=Tryz.isAgg0
 z0:=Tryz.sizeOf0
 v0:=Tryz.zeroValue0
 t3:=Tryz.underlying3
 a3:=Tryz.isAgg3
 z3:=Tryz.sizeOf3
 v3:=Tryz.zeroValue3
 t4:=Tryz.underlying4
 a4:=Tryz.isAgg4
 z4:=Tryz.sizeOf4
 v4:=Tryz.zeroValue4
 t5:=Tryz.underlying5
 a5:=Tryz.isAgg5
 z5:=Tryz.sizeOf5
 v5:=Tryz.zeroValue5
 t9:=Tryz.underlying9
 a9:=Tryz.isAgg9
 z9:=Tryz.sizeOf9
 v9:=Tryz.zeroValue9
 t21:=Tryz.underlying21
 a21:=Tryz.isAgg21
 z21:=Tryz.sizeOf21
 v21:=Tryz.zeroValue21
 t31:=Tryz.underlying58
 a31:=Tryz.isAgg58
 z31:=Tryz.sizeOf58
 v31:=Tryz.zeroValue58
 t46:=Tryz.underlying223
 a46:=Tryz.isAgg223
 z46:=Tryz.sizeOf223
 v46:=Tryz.zeroValue223
 t51:=Tryz.underlying276
 a51:=Tryz.isAgg276
 z51:=Tryz.sizeOf276
 v51:=Tryz.zeroValue276
 t105:=Tryz.underlying363
 a105:=Tryz.isAgg363
 z105:=Tryz.sizeOf363
 v105:=Tryz.zeroValue363
 t119:=Tryz.underlying331
 a119:=Tryz.isAgg331
 z119:=Tryz.sizeOf331
 t138:=Tryz.underlying333
 a138:=Tryz.isAgg333
 z138:=Tryz.sizeOf333
 v138:=Tryz.zeroValue333
 t139:=Tryz.underlying334
 a139:=Tryz.isAgg334
 z139:=Tryz.sizeOf334
 v139:=Tryz.zeroValue334
 t146:=Tryz.underlying358
 a146:=Tryz.isAgg358
 z146:=Tryz.sizeOf358
 v146:=Tryz.zeroValue358
 g1:=by kernel_rfl
 g3:=by kernel_rfl
 g4:=by kernel_rfl}
open Go.RowKit Go.Lib in
theorem Tryz.strings_Split (s sep:ByteArray) (m:Int) (w:World) (hs:s.size<4294967281) (hm:w.cell? ⟨5,0,none⟩=some (.int .i64 m)) (h1:1≤sep.size):
   Calls Tryz.prog 247 #[.string s,.string sep] w fun e w'=>
     e= .returned (.slice (some ⟨w.heap.size,0,none⟩) (Lib.countB s sep+1) (Lib.countB s sep+1))∧w'=w.alloc (.cells ((Lib.splitB sep 0 (Lib.countB s sep) s).map Value.string).toArray 9):=Any.strings_Split Tryz.aiF zh s sep m w hs hm h1
open Go.Lib in
def Tryz.Ym:Go.Shelf.Ren:=⟨fun|110=>114|109=>157|n=>n,fun|31=>58|9=>9|4=>4|3=>3|0=>0|n=>n,fun|n=>n⟩
theorem Tryz.YX:Go.Proofs.Lays.n110 Tryz.prog Tryz.Ym:={
 mixed:=by kernel_rfl
 f109:=Tryz.func157.trans (congrArg some zh)
 f110:=Tryz.func114.trans (congrArg some zh)
 t0:=Tryz.underlying0
 a0:=Tryz.isAgg0
 z0:=Tryz.sizeOf0
 v0:=Tryz.zeroValue0
 t3:=Tryz.underlying3
 a3:=Tryz.isAgg3
 z3:=Tryz.sizeOf3
 v3:=Tryz.zeroValue3
 t4:=Tryz.underlying4
 a4:=Tryz.isAgg4
 z4:=Tryz.sizeOf4
 v4:=Tryz.zeroValue4
 t9:=Tryz.underlying9
 a9:=Tryz.isAgg9
 z9:=Tryz.sizeOf9
 v9:=Tryz.zeroValue9
 t31:=Tryz.underlying58
 a31:=Tryz.isAgg58
 z31:=Tryz.sizeOf58
 v31:=Tryz.zeroValue58}
open Go.Lib in
theorem Tryz.slices_Contains_string (b off n c:Nat) (zs:List ByteArray) (x:ByteArray) (w:World) (hz:n≤zs.length) (Wx:n≤9223372036854775807) (hc:∀j,j<zs.length→w.cell? ⟨b,off+j,none⟩=some (.string (zs.getD j ByteArray.empty))):
   Calls Tryz.prog 114 #[.slice (some ⟨b,off,none⟩) n c,.string x] w fun e w'=>e= .returned (.bool (Lib.containsS (zs.take n) x))∧w'=w:=Any.slices_Contains_string Tryz.YX b off n c zs x w hz Wx hc
open Go.Lib in
theorem Tryz.slices_Contains_string_empty (a:Option Addr) (c:Nat) (x:ByteArray) (w:World):
   Calls Tryz.prog 114 #[.slice a 0 c,.string x] w fun e w'=>e= .returned (.bool false)∧w'=w:=Any.slices_Contains_string_empty Tryz.YX a c x w
def Tryz.Yh:Go.Shelf.Ren:=⟨fun|193=>223|n=>n,fun|31=>58|9=>9|4=>4|3=>3|0=>0|n=>n,fun|n=>n⟩
theorem Tryz.R4:Go.Proofs.Lays.n193 Tryz.prog Tryz.Yh:={
 mixed:=by kernel_rfl
 f193:=Tryz.func223.trans (congrArg some zh)
 t0:=Tryz.underlying0
 a0:=Tryz.isAgg0
 z0:=Tryz.sizeOf0
 v0:=Tryz.zeroValue0
 t3:=Tryz.underlying3
 a3:=Tryz.isAgg3
 z3:=Tryz.sizeOf3
 v3:=Tryz.zeroValue3
 t4:=Tryz.underlying4
 a4:=Tryz.isAgg4
 z4:=Tryz.sizeOf4
 v4:=Tryz.zeroValue4
 t9:=Tryz.underlying9
 a9:=Tryz.isAgg9
 z9:=Tryz.sizeOf9
 v9:=Tryz.zeroValue9
 t31:=Tryz.underlying58
 a31:=Tryz.isAgg58
 z31:=Tryz.sizeOf58
 v31:=Tryz.zeroValue58}
open Go.RowKit Go.Lib in
theorem Tryz.slices_Equal_string (b1 o1 n c b2 o2 m d:Nat) (xs ys:List ByteArray) (w:World) (hx:n≤xs.length) (hy:m≤ys.length) (Wx:n≤9223372036854775807) (abM:m≤9223372036854775807) (dx:∀j,j<xs.length→w.cell? ⟨b1,o1+j,none⟩=some (.string (xs.getD j ByteArray.empty))) (dC:∀j,j<ys.length→w.cell? ⟨b2,o2+j,none⟩=some (.string (ys.getD j ByteArray.empty))):
   Calls Tryz.prog 223 #[.slice (some ⟨b1,o1,none⟩) n c,.slice (some ⟨b2,o2,none⟩) m d] w fun e w'=>e= .returned (.bool (decide (xs.take n=ys.take m)))∧∃q,w'=w.drewN q:=Any.slices_Equal_string Tryz.R4 b1 o1 n c b2 o2 m d xs ys w hx hy Wx abM dx dC
open Go.RowKit Go.Lib in
theorem Tryz.slices_Equal_string_empty (a1 a2:Option Addr) (c m d:Nat) (w:World) (abM:m≤9223372036854775807):
   Calls Tryz.prog 223 #[.slice a1 0 c,.slice a2 m d] w fun e w'=>e= .returned (.bool (decide (m=0)))∧w'=w:=Any.slices_Equal_string_empty Tryz.R4 a1 a2 c m d w abM
open Go.RowKit Go.Lib in
open Go.RowKit Go.Lib in
open Go.RowKit Go.Lib in
def Tryz.Yg:Go.Shelf.Ren:=⟨fun|194=>147|n=>n,fun|31=>58|9=>9|3=>3|4=>4|0=>0|n=>n,fun|n=>n⟩
theorem Tryz.YV:Go.Proofs.Lays.n194 Tryz.prog Tryz.Yg:={
 mixed:=by kernel_rfl
 f194:=Tryz.func147.trans (congrArg some zh)
 t0:=Tryz.underlying0
 a0:=Tryz.isAgg0
 z0:=Tryz.sizeOf0
 v0:=Tryz.zeroValue0
 t3:=Tryz.underlying3
 a3:=Tryz.isAgg3
 z3:=Tryz.sizeOf3
 v3:=Tryz.zeroValue3
 t4:=Tryz.underlying4
 a4:=Tryz.isAgg4
 z4:=Tryz.sizeOf4
 v4:=Tryz.zeroValue4
 t9:=Tryz.underlying9
 a9:=Tryz.isAgg9
 z9:=Tryz.sizeOf9
 v9:=Tryz.zeroValue9
 t31:=Tryz.underlying58
 a31:=Tryz.isAgg58
 z31:=Tryz.sizeOf58
 v31:=Tryz.zeroValue58}
open Go.RowKit Go.Lib Go.Sort in
theorem Tryz.slices_Compact_string_empty (a:Option Addr) (cap:Nat) (w:World):
   Calls Tryz.prog 147 #[.slice a 0 cap] w fun e w'=>e= .returned (.slice a 0 cap)∧w'=w:=Any.slices_Compact_string_empty Tryz.YV a cap w
def Tryz.UE:Go.Shelf.Ren:=⟨fun|24=>154|n=>n,fun|24=>58|9=>9|3=>3|4=>4|0=>0|n=>n,fun|n=>n⟩
theorem Tryz.adl:Go.Proofs.Lays2.n24 Tryz.prog Tryz.UE:={
 mixed:=by kernel_rfl
 f24:=Tryz.func154.trans (congrArg some zh)
 t0:=Tryz.underlying0
 a0:=Tryz.isAgg0
 z0:=Tryz.sizeOf0
 v0:=Tryz.zeroValue0
 t3:=Tryz.underlying3
 a3:=Tryz.isAgg3
 z3:=Tryz.sizeOf3
 v3:=Tryz.zeroValue3
 t4:=Tryz.underlying4
 a4:=Tryz.isAgg4
 z4:=Tryz.sizeOf4
 v4:=Tryz.zeroValue4
 t9:=Tryz.underlying9
 a9:=Tryz.isAgg9
 z9:=Tryz.sizeOf9
 v9:=Tryz.zeroValue9
 t24:=Tryz.underlying58
 a24:=Tryz.isAgg58
 z24:=Tryz.sizeOf58
 v24:=Tryz.zeroValue58
 i9:=by kernel_rfl}
open Go.RowKit Go.Lib Go.Sort in
theorem Tryz.slices_Compact_string_cells (b off n c:Nat) (Sx:Nat→ByteArray) (w:World) (Wx:n≤9223372036854775807) (uX:n≤c) (hc:∀i,i<n→w.cell? ⟨b,off+i,none⟩=some (.string (Sx i))) (hf:∀j,j<n→w.frozen? ⟨b,off+j,none⟩=false):
   Calls Tryz.prog 147 #[.slice (some ⟨b,off,none⟩) n c] w fun e w'=>e= .returned (.slice (some ⟨b,off,none⟩) (Lib.compact (Lib.strsOf Sx n)).length c)∧∃q,w'=(w.drewN q).setCells b off ((Lib.compact (Lib.strsOf Sx n)++List.replicate (n-(Lib.compact (Lib.strsOf Sx n)).length) []).map encStr):=Any.slices_Compact_string_cells Tryz.YV b off n c Sx w Wx uX hc hf
open Go.RowKit Go.Lib Go.Sort in
theorem Tryz.slices_Delete_string_cells (b off n c i j:Nat) (Sx:Nat→ByteArray) (w:World) (uX:n≤c) (hm:c≤9223372036854775807) (Hy:i≤j) (hj:j≤n) (hc:∀i,i<n→w.cell? ⟨b,off+i,none⟩=some (.string (Sx i))) (hf:∀j,j<n→w.frozen? ⟨b,off+j,none⟩=false):
   Calls Tryz.prog 154 #[.slice (some ⟨b,off,none⟩) n c,.int .i64 i,.int .i64 j] w fun e w'=>e= .returned (.slice (some ⟨b,off,none⟩) (n-(j-i)) c)∧∃q,w'=(w.drewN q).setCells b off (((Lib.strsOf Sx n).take i++(Lib.strsOf Sx n).drop j++List.replicate (j-i) []).map encStr):=Any.slices_Delete_string_cells Tryz.adl b off n c i j Sx w uX hm Hy hj hc hf
open Go.RowKit Go.Sort in
theorem Tryz.slices_Sort_string_none (p:Option Addr) (cap:Nat) (w:World):
   Calls Tryz.prog 78 #[.slice p 0 cap] w fun e w'=>e= .returned (.tuple #[])∧w'=w:=Any.slices_Sort_string_none Tryz.YW p cap w
open Go.RowKit Go.Lib in
open Go.RowKit Go.Lib in
theorem Tryz.slices_Equal_string_lens (a1 a2:Option Addr) (n c m d:Nat) (w:World) (Bp:n≠m):
   Calls Tryz.prog 223 #[.slice a1 n c,.slice a2 m d] w fun e w'=>e= .returned (.bool false)∧w'=w:=Any.slices_Equal_string_lens Tryz.R4 a1 a2 n c m d w Bp
def Tryz.Dz:Go.Shelf.Ren:=⟨fun|196=>190|259=>233|n=>n,fun|9=>9|4=>4|3=>3|5=>5|12=>12|119=>331|0=>0|46=>223|139=>334|138=>333|53=>278|n=>n,fun|3=>3|4=>4|n=>n⟩
theorem Tryz.YU:Go.Proofs.Lays.n196 Tryz.prog Tryz.Dz:={
 mixed:=by kernel_rfl
 f196:=Tryz.func190.trans (congrArg some zh)
 f259:=Tryz.func233.trans (congrArg some zh)
 t0:=Tryz.underlying0
 a0:=Tryz.isAgg0
 z0:=Tryz.sizeOf0
 v0:=Tryz.zeroValue0
 t3:=Tryz.underlying3
 a3:=Tryz.isAgg3
 z3:=Tryz.sizeOf3
 v3:=Tryz.zeroValue3
 t4:=Tryz.underlying4
 a4:=Tryz.isAgg4
 z4:=Tryz.sizeOf4
 v4:=Tryz.zeroValue4
 t5:=Tryz.underlying5
 a5:=Tryz.isAgg5
 z5:=Tryz.sizeOf5
 v5:=Tryz.zeroValue5
 t9:=Tryz.underlying9
 a9:=Tryz.isAgg9
 z9:=Tryz.sizeOf9
 v9:=Tryz.zeroValue9
 t12:=Tryz.underlying12
 a12:=Tryz.isAgg12
 z12:=Tryz.sizeOf12
 v12:=Tryz.zeroValue12
 t46:=Tryz.underlying223
 a46:=Tryz.isAgg223
 z46:=Tryz.sizeOf223
 v46:=Tryz.zeroValue223
 t53:=Tryz.underlying278
 a53:=Tryz.isAgg278
 z53:=Tryz.sizeOf278
 v53:=Tryz.zeroValue278
 t119:=Tryz.underlying331
 a119:=Tryz.isAgg331
 z119:=Tryz.sizeOf331
 t138:=Tryz.underlying333
 a138:=Tryz.isAgg333
 z138:=Tryz.sizeOf333
 v138:=Tryz.zeroValue333
 t139:=Tryz.underlying334
 a139:=Tryz.isAgg334
 z139:=Tryz.sizeOf334
 v139:=Tryz.zeroValue334
 g3:=by kernel_rfl
 g4:=by kernel_rfl}
open Go.RowKit in
theorem Tryz.utf8_ValidString (s:ByteArray) (w:World) (hs:s.size≤9223372036854775807) (hT:Lib.Utf8Tabs (Tryz.Dz.g 3) (Tryz.Dz.g 4) w):
   Calls Tryz.prog 190 #[.string s] w fun e w'=>e= .returned (.bool (Lib.validD s.data.toList))∧Below w.heap.size w w':=Any.utf8_ValidString Tryz.YU s w hs hT
end Go.Proofs
namespace Go.Proofs.YtbmopacdflgfjaaGreatDoor
open Go Go.RowKit Go.Proofs.Tryz
theorem jZ {P:Program} {w:World} {ops:Array Oper} {rest:List Oper} {o:Oper} {a:Act} {Q:Exit→Act→World→Prop} (hg:o.guard=none) (t:TypeId) (hop:o.op= .alloc t) (z:Value) (hz:∀w,(zeroValue t).run P w= .ok z w)
   (h:∀w1:World,ah w1 w.heap.size t z.cells→Below w.heap.size w w1→w1.heap.size=w.heap.size+1→wpList P ops Q rest (a.put o.dst (.pointer (some ⟨w.heap.size,0,none⟩))) w1):wpList P ops Q (o::rest) a w:=by
 refine wpList_plain hg fun K hK=>?_;have hrun:(Instr.alloc t true (.tuple #[])).run P w= .ok (.pointer (some ⟨w.heap.size,0,none⟩)) (w.alloc (.cells z.cells t)):=by simp[Instr.alloc,hz,newVar,Result.andThen,newRow,newObj,Sem.run]
 unfold Oper.wp;simp only[execOp,hop,Sem.run_bind,hrun,Result.andThen_ok,Sem.run_pure];exact hK _ _ (h _ (ah.new w t _) ((Below.refl w.heap.size w).alloc ae _) zd)
theorem ru {P:Program} {ops:Array Oper} {rest:List Oper} {o:Oper} {a:Act} {w:World} {Q:Exit→Act→World→Prop} (ty:TypeId) (x y:Operand) (ho:o.op= .store ty x y)
   (g:Nat) (cells:Array Value) (hx:a.eval x= .pointer (some ⟨g,0,none⟩)) (hy:a.eval y= .agg cells)
   (t:TypeId) (old:Array Value) (hg:ah w g t old) {n:Nat} (hi:(P.info? ty).map (·.size)=some n) (hn:cells.size=n)
   (hold:old.size=n) (Gg:o.guard=none) (h1:cells.all (·.oneCell')=true)
   (h:∀w',ah w' g t cells→w.grownBy w' (some g)→wpList P ops Q rest (a.put o.dst undef) w'):wpList P ops Q (o::rest) a w:=
 wpList_store_row Gg ty x y ho g cells hx hy t old hg (by rw[hi,hn]) (by rw[hold,hn]) h1 (h _ (hg.row cells) ⟨rfl,rfl,rfl,by simp[World.setRow],fun k _ hk=>IC w g cells k (fun e=>hk z5v)⟩)
theorem eD {P:Program} {w:World} {ops:Array Oper} {rest:List Oper} {o:Oper} {a:Act} {Q:Exit→Act→World→Prop} (t:TypeId) (hop:o.op= .alloc t) {z:Value} (hz:∀w,(zeroValue t).run P w= .ok z w)
   (h:∀w1:World,Hid (ah w1 w.heap.size t z.cells∧Below w.heap.size w w1∧w1.heap.size=w.heap.size+1)→wpList P ops Q rest (a.put o.dst (.pointer (some ⟨w.heap.size,0,none⟩))) w1) (hg:o.guard=none:=by exact rfl):wpList P ops Q (o::rest) a w:=
 jZ hg t hop z hz fun w1 h1 h2 h3=>h w1 ⟨h1,h2,h3⟩
theorem bu {P:Program} {ops:Array Oper} {rest:List Oper} {o:Oper} {a:Act} {w:World} {Q:Exit→Act→World→Prop} (ty:TypeId) {x y:Operand} (ho:o.op= .store ty x y) (g:Nat) {cells old:Array Value} (hx:a.eval x= .pointer (some ⟨g,0,none⟩)) (hy:a.eval y= .agg cells) (hg:ah w g ty old) {n:Nat} (hi:(P.info? ty).map (·.size)=some n)
   (h:∀w',Hid (ah w' g ty cells∧w.grownBy w' (some g))→wpList P ops Q rest (a.put o.dst undef) w') (hn:cells.size=n:=by exact rfl) (hold:old.size=n:=by exact rfl) (Gg:o.guard=none:=by exact rfl) (h1:cells.all (·.oneCell')=true:=by simp[Value.oneCell']):wpList P ops Q (o::rest) a w:=
 ru ty x y ho g cells hx hy ty old hg hi hn hold Gg h1 fun w' h2 h3=>h w' ⟨h2,h3⟩
theorem jr {B g:Nat} {w w':World} (h:w.grownBy w' (some g)) (hB:B≤g) (hs:B≤w.heap.size):Below B w w':=(Below.refl B w).grown h hs (fun k hk=>zx)
structure DT (B:Nat) (w:World):Prop where
 lt:LT w
 b11:11≤B
 sz:B≤w.heap.size
 YN : Lib.TabIs prog w "internal/strconv.uint64pow10" .u64 Lib.pow10Tab
 es:∃ev,w.cell? ⟨6,0,none⟩=some ev∧(ev= .nilIface∨∃te pe,ev= .iface te pe)
 er:∃ev,w.cell? ⟨7,0,none⟩=some ev∧(ev= .nilIface∨∃te pe,ev= .iface te pe)
 tx:∀i,i<11→∃s:List UInt8,w.cell? ⟨0,i,none⟩=some (sv s)∧Tl s
 vr:∀i,i<6→∃s:List UInt8,w.cell? ⟨1,i,none⟩=some (sv s)∧Tl s
 ls:∀i,i<5→∃v l,w.cell? ⟨2,i,none⟩=some v∧fH w (fun k=>k<B) v l∧l.length≤20
theorem QW : prog.globalNamed "internal/strconv.uint64pow10" = some 8 := by kernel_rfl
theorem DT.same {B:Nat} {w w':World} (h:DT B w) (hs:w.heap.size≤w'.heap.size) (hk:∀k,k<B→w'.heap[k]? =w.heap[k]?):DT B w':=by
 have hc:∀(g i:Nat),g<11→w'.cell? ⟨g,i,none⟩=w.cell? ⟨g,i,none⟩:=fun g i hg=>World.cell?_of_block (hk g z4e);refine⟨h.lt.same hs fun k bT=>hk k z4e,h.b11,af h.sz hs,?_,?_,?_,fun i hi=>?_,fun i hi=>?_,fun i hi=>?_⟩
 ·exact zcI (zt 2)
 ·rw[hc _ _ zL];exact h.es
 ·rw[hc _ _ zL];exact h.er
 ·rw[hc _ _ zL];exact h.tx i hi
 ·rw[hc _ _ zL];exact h.vr i hi
 ·obtain⟨v,l,h1,h2,h3⟩:=h.ls i hi;exact⟨v,l,by rw[hc _ _ zL];exact h1,h2.keep ax fun k bT _=>hk k bT,h3⟩
theorem DT.below {B:Nat} {w w':World} (h:DT B w) (hb:Below w.heap.size w w'):DT B w':=h.same hb.size fun k hk=>hb.block k (by have:=h.sz;omega)
structure Dw (B g:Nat) (w:World):Prop where
 dt:DT B w
 bg:B≤g
 cd:Cd w g
section
variable {B g:Nat} {w w':World}
theorem Dw.lt (h:Dw B g w):g<w.heap.size:=h.cd.lt
theorem Dw.below (h:Dw B g w) (hb:Below w.heap.size w w'):Dw B g w':=⟨h.dt.below hb,h.bg,h.cd.below hb⟩
theorem Dw.dV {N:Nat} (h:Dw B g w) (hb:Below N w w') (hN:g<N):Dw B g w':=⟨h.dt.same hb.size fun k hk=>hb.block k (by have:=h.bg;omega),h.bg,h.cd.dV hb hN⟩
theorem Dw.only (h:Dw B g w) (hc:Cd w' g) (hg:w.grownBy w' (some g)):Dw B g w':=⟨h.dt.same hg.size fun k hk=>hg.block k (by have:=h.dt.sz;omega) (by intro e;injection e with e;have:=h.bg;omega),h.bg,hc⟩
theorem Dw.drewN (h:Dw B g w) (n:Nat):Dw B g (w.drewN n):=h.below (below_drewN aj n)
theorem Dw.drew (h:Dw B g w):Dw B g w.drew:=h.below (Below.refl _ _).drew
end
def BI (B g:Nat) (w:World) (Q:Value→World→Prop) (e:Ending) (w':World):Prop:=(∃v,e= .returned v∧Q v w')∧Dw B g w'∧w.grownBy w' (some g)
def agH (n:Nat) (v:Value) (_:World):Prop:=∃r:Nat,v= .int .i64 (r:Int)∧r<n
theorem dH (B g n:Nat) (w:World) (hD:Dw B g w) (h1:1≤n) (hn:n≤65536):
   Calls prog 16 #[.pointer (some ⟨g,0,none⟩),.int .i64 (n:Int)] w (BI B g w (agH n)):=by refine(O8 g n w hD.cd h1 hn).mono ?_;exact z7r
theorem Fz (B g n:Nat) (w:World) (hD:Dw B g w) (h1:1≤n) (hn:n≤65536):
   Calls prog 9 #[.pointer (some ⟨g,0,none⟩),.int .i64 (n:Int)] w (BI B g w (agH n)):=by refine(afi g n w hD.cd h1 hn).mono ?_;exact z7r
def TxP (v:Value) (_:World):Prop:=∃s:List UInt8,v=sv s∧Tl s
theorem JU (B g:Nat) (w:World) (hD:Dw B g w):
   Calls prog 17 #[.pointer (some ⟨g,0,none⟩)] w (BI B g w TxP):=by have HD:=aa hD;clear hD;go_enter func17,ntmps17;go_wp2_with fail;refine(dH B g 11 w HD.out z7 z7).mono ?_;rintro e1 w1 ⟨⟨_,rfl,r,rfl,hr⟩,QV,gP⟩;obtain⟨s,c0,ht⟩:=QV.dt.tx r hr;have H1:=ag QV (ai gP ht);have wE:(r:Int)<11:=z7;simp only[sv] at c0;clear QV gP ht;go_wp2_with fail;go_ret;exact⟨⟨_,rfl,s,rfl,H1.2.2⟩,H1.1,H1.2.1⟩
theorem PY (s:ByteArray) (hs:s.size≤9223372036854775807) (w:World) (hT:LT w):
   Calls prog 190 #[.string s] w fun e w'=>e= .returned (.bool (Lib.validD s.data.toList))∧Below w.heap.size w w':=by exact Go.Proofs.Tryz.utf8_ValidString s w hs hT.u8
theorem abf (s:ByteArray) (hs:s.size≤9223372036854775807) (w:World) (hT:LT w):
   Calls prog 137 #[.string s] w (EF w):=by
 go_enter func137,ntmps137;by_cases h2:(200:Int)<(s.size:Int)
 ·go_wp2_with fail;exact z6x
 ·go_wp2_with fail;refine(PY s hs w hT).mono ?_;rintro e w1 ⟨rfl,hb⟩;generalize Lib.validD s.data.toList=b;cases b
  ·go_wp2_with fail;go_ret;exact⟨⟨_,rfl⟩,hb⟩
  ·go_wp2_with fail;go_loopw [3] (fun i wr=>∃k:Nat,i= .int .i64 (k:Int)∧k≤s.size∧Below w.heap.size w wr) (fun i _=>s.size-(intOf i).toNat);case atStart=>exact⟨0,rfl,z7,hb⟩
   case round=>
    obtain⟨k,rfl,hk,hB⟩:=hrel;by_cases hlt:k<s.size
    ·go_wp2_with fail
     repeat' first
       | (go_ret
          exact⟨⟨_,rfl⟩,hB⟩)
       | (go_roundw
          case rel=>exact⟨k+1,zd,z7,hB⟩
          case measure=>simp[intOf];omega)
    ·obtain rfl:k=s.size:=z7;go_wp2_with fail;go_ret;exact⟨⟨_,rfl⟩,hB⟩
theorem oD (l:List UInt8) (hs:Tl l) (w:World) (hT:LT w):
   Calls prog 137 #[.string ⟨l.toArray⟩] w (EF w):=
 abf ⟨l.toArray⟩ z3B w hT
theorem Qj (s:ByteArray) (hs:s.size≤9223372036854775807) (w:World):
   Calls prog 267 #[.string s] w (anE w):=by
 go_enter func267,ntmps267;by_cases h0:(0:Int)<(s.size:Int)
 ·have h0':0<s.size:=z7;by_cases h45:(s[0].toNat:Int)=45
  ·go_wp2_with fail;have hds:(s.extract 1 s.size).size≤9223372036854775807:=z4U;generalize s.extract 1 s.size=d at hds⊢;clear h45;go_wp2_with fail;go_loopw [5] (fun i wr=>∃k:Nat,i= .int .i64 (k:Int)∧k≤d.size∧Below w.heap.size w wr) (fun i _=>d.size-(intOf i).toNat);case atStart=>exact z6y
   case round=>
    obtain⟨k,rfl,hk,hB⟩:=hrel;by_cases hlt:k<d.size
    ·exact z6H
    ·obtain rfl:k=d.size:=z7;cases hq:d.toList.isEmpty
     ·have uC:0<d.size:=by
       rcases Nat.eq_zero_or_pos d.size with h|h
       ·exact z7F
       ·exact h
      cases lL:((d[0].toNat:Int)==48)
      all_goals
        go_wp2_with fail
        repeat' first
          | (go_ret2
             exact⟨⟨_,_,rfl⟩,hB⟩)
          | (go_loopw [7,6] (fun i n wr=>∃(k:Nat) (x:Int),i= .int .i64 (k:Int)∧n= .int .i64 x∧k≤d.size∧Below w.heap.size w wr) (fun i _ _=>d.size-(intOf i).toNat)
             case atStart=>exact⟨0,0,rfl,rfl,z7,hB⟩
             case round=>
               obtain⟨k,x,rfl,rfl,hk,hB⟩:=hrel
               by_cases bR:k<d.size
               · go_wp2_with fail
                 go_roundw
                 case rel=>exact⟨k+1,_,zd,rfl,z7,hB⟩
                 case measure=>simp[intOf];omega
               · obtain rfl:k=d.size:=by omega
                 go_wp2_with fail
                 all_goals
                   go_ret2
                   exact⟨⟨_,_,rfl⟩,hB⟩)
     ·exact z7K
  ·have hb:((s[0].toNat:Int)==45)=false:=by simp[h45]
   clear h45;go_wp2_with fail;go_loopw [5] (fun i wr=>∃k:Nat,i= .int .i64 (k:Int)∧k≤s.size∧Below w.heap.size w wr) (fun i _=>s.size-(intOf i).toNat);case atStart=>exact z6y
   case round=>
    obtain⟨k,rfl,hk,hB⟩:=hrel;by_cases hlt:k<s.size
    ·exact z6H
    ·obtain rfl:k=s.size:=z7;cases hq:s.toList.isEmpty
     ·have uC:0<s.size:=by
       rcases Nat.eq_zero_or_pos s.size with h|h
       ·exact z7F
       ·exact h
      cases lL:((s[0].toNat:Int)==48)
      all_goals
        go_wp2_with fail
        repeat' first
          | (go_ret2
             exact⟨⟨_,_,rfl⟩,hB⟩)
          | (go_loopw [7,6] (fun i n wr=>∃(k:Nat) (x:Int),i= .int .i64 (k:Int)∧n= .int .i64 x∧k≤s.size∧Below w.heap.size w wr) (fun i _ _=>s.size-(intOf i).toNat)
             case atStart=>exact⟨0,0,rfl,rfl,z7,hB⟩
             case round=>
               obtain⟨k,x,rfl,rfl,hk,hB⟩:=hrel
               by_cases bR:k<s.size
               · go_wp2_with fail
                 go_roundw
                 case rel=>exact⟨k+1,_,zd,rfl,z7,hB⟩
                 case measure=>simp[intOf];omega
               · obtain rfl:k=s.size:=by omega
                 go_wp2_with fail
                 all_goals
                   go_ret2
                   exact⟨⟨_,_,rfl⟩,hB⟩)
     ·exact z7K
 ·have HE:=aa (show s.size=0 from z7);have hz:decide ((0:Int)<(s.size:Int))=false:=decide_eq_false z7;go_wp2_with fail;go_loopw [5] (fun i wr=>∃k:Nat,i= .int .i64 (k:Int)∧k≤s.size∧Below w.heap.size w wr) (fun i _=>s.size-(intOf i).toNat);case atStart=>exact z6y
  case round=>
   obtain⟨k,rfl,hk,hB⟩:=hrel;by_cases hlt:k<s.size
   ·exact z6H
   ·obtain rfl:k=s.size:=z7;have he:s.toList.isEmpty=true:=by rw[ByteArray.toList_eq,List.isEmpty_iff];exact List.eq_nil_of_length_eq_zero (by rw[Array.length_toList];exact HE.out)
    exact z7K
structure LU (w:World):Prop where
 lt:LT w
 YN : Lib.TabIs prog w "internal/strconv.uint64pow10" .u64 Lib.pow10Tab
 es:∃ev,w.cell? ⟨6,0,none⟩=some ev∧(ev= .nilIface∨∃te pe,ev= .iface te pe)
 er:∃ev,w.cell? ⟨7,0,none⟩=some ev∧(ev= .nilIface∨∃te pe,ev= .iface te pe)
theorem DT.lu {B:Nat} {w:World} (h:DT B w):LU w:=⟨h.lt,h.YN,h.es,h.er⟩
theorem LU.below {w w':World} (h:LU w) (hb:Below w.heap.size w w'):LU w':=by
 have hc:∀(g i:Nat),g<11→w'.cell? ⟨g,i,none⟩=w.cell? ⟨g,i,none⟩:=fun g i hg=>World.cell?_of_block (hb.block g (by have:=h.lt.sz;omega));refine⟨h.lt.below hb,?_,?_,?_⟩
 ·exact zcI (zt 1)
 ·rw[hc _ _ zL];exact h.es
 ·rw[hc _ _ zL];exact h.er
theorem afI (g n:Nat) (w:World) (hc:Cd w g) (h1:1≤n) (hn:n≤1000000):
   Calls prog 16 #[.pointer (some ⟨g,0,none⟩),.int .i64 (n:Int)] w fun e w'=>(∃r:Nat,e= .returned (.int .i64 (r:Int))∧r<n)∧Cd w' g∧w.grownBy w' (some g):=z68
theorem ajH (B g n:Nat) (w:World) (hD:Dw B g w) (h1:1≤n) (hn:n≤1000000):
   Calls prog 16 #[.pointer (some ⟨g,0,none⟩),.int .i64 (n:Int)] w (BI B g w (agH n)):=by refine(afI g n w hD.cd h1 hn).mono ?_;exact z7r
end Go.Proofs.YtbmopacdflgfjaaGreatDoor
