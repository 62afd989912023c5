/- The shelf's contracts at this program, written by the kit's tool. -/
import Derived.Shelf.Strconv.Itoa0
import Derived.Shelf.Strconv.Itoa1
import Derived.Shelf.LaysM
import Derived.Shelf.Strconv.Itoa2
import Derived.Shelf.Strconv.Itoa3
import Derived.Shelf.Strconv.Itoa4
import Derived.Shelf.Strconv.ParseIntEmpty
import Derived.Shelf.Strconv.Clone
import Derived.Shelf.Strconv.SyntaxError
import Derived.Shelf.LaysC
import Derived.Shelf.Strconv.ToError
import Derived.Shelf.Strconv.Lower
import Derived.Shelf.Strconv.ParseUint10
import Derived.Shelf.Strconv.ParseUint10Empty
import Derived.Shelf.Strconv.ParseUint10Any
import Derived.Shelf.Strconv.ParseInt10
import Derived.Shelf.Strconv.RangeError
import Derived.Shelf.Strconv.ToErrorRange
import Derived.Shelf.Strconv.ParseUintEmpty
import Derived.Shelf.Strconv.ParseUint10b64
import Derived.Shelf.Strconv.ParseUint10b32
import Derived.Shelf.Strconv.ParseUint10b16
import Derived.Shelf.Strconv.ParseUint10b8
import Derived.Shelf.Strconv.ParseUint10At
import Derived.Shelf.Strconv.ParseInt10At64
import Derived.Shelf.Strconv.ParseInt10At32
import Derived.Shelf.Strconv.ParseInt10At16
import Derived.Shelf.Strconv.ParseInt10At8
import Derived.Shelf.Strconv.ParseInt10All
import Derived.Shelf.Strconv.ParseIntPublic10
import Derived.Shelf.Unicode.ValidAny
import Derived.Test.YtimbiifcnhgcoaaGreatDoorProg
namespace Go.Proofs
open Go.Shelf
def wD:Go.Shelf.Ren:=⟨fun|174=>342|247=>347|245=>348|287=>350|279=>351|280=>352|281=>353|282=>354|321=>355|322=>356|316=>357|171=>359|205=>358|243=>360|246=>250|283=>298|284=>299|285=>300|286=>301|129=>321|317=>320|318=>322|319=>323|320=>324|337=>338|338=>339|n=>n,fun|9=>9|3=>3|2=>2|75=>389|85=>390|4=>4|167=>396|5=>5|53=>355|175=>397|46=>61|168=>399|37=>358|0=>0|210=>405|21=>21|127=>407|145=>410|143=>408|171=>354|173=>359|212=>378|51=>379|20=>20|213=>380|232=>392|233=>393|80=>411|n=>n,fun|15=>5|16=>6|17=>2|18=>3|19=>4|n=>n⟩
theorem rK:Go.Proofs.LaysC.n174 Tryz.prog wD:={
  mixed:=by kernel_rfl
  f129:=Tryz.func321.trans (congrArg some (by kernel_rfl))
  f171:=Tryz.func359.trans (congrArg some (by kernel_rfl))
  f174:=Tryz.func342.trans (congrArg some (by kernel_rfl))
  f205:=Tryz.func358.trans (congrArg some (by kernel_rfl))
  f243:=Tryz.func360.trans (congrArg some (by kernel_rfl))
  f245:=Tryz.func348.trans (congrArg some (by kernel_rfl))
  f246:=Tryz.func250.trans (congrArg some (by kernel_rfl))
  f247:=Tryz.func347.trans (congrArg some (by kernel_rfl))
  f279:=Tryz.func351.trans (congrArg some (by kernel_rfl))
  f280:=Tryz.func352.trans (congrArg some (by kernel_rfl))
  f281:=Tryz.func353.trans (congrArg some (by kernel_rfl))
  f282:=Tryz.func354.trans (congrArg some (by kernel_rfl))
  f283:=Tryz.func298.trans (congrArg some (by kernel_rfl))
  f284:=Tryz.func299.trans (congrArg some (by kernel_rfl))
  f285:=Tryz.func300.trans (congrArg some (by kernel_rfl))
  f286:=Tryz.func301.trans (congrArg some (by kernel_rfl))
  f287:=Tryz.func350.trans (congrArg some (by kernel_rfl))
  f316:=Tryz.func357.trans (congrArg some (by kernel_rfl))
  f317:=Tryz.func320.trans (congrArg some (by kernel_rfl))
  f318:=Tryz.func322.trans (congrArg some (by kernel_rfl))
  f319:=Tryz.func323.trans (congrArg some (by kernel_rfl))
  f320:=Tryz.func324.trans (congrArg some (by kernel_rfl))
  f321:=Tryz.func355.trans (congrArg some (by kernel_rfl))
  f322:=Tryz.func356.trans (congrArg some (by kernel_rfl))
  f337:=Tryz.func338.trans (congrArg some (by kernel_rfl))
  f338:=Tryz.func339.trans (congrArg some (by kernel_rfl))
  t0:=Tryz.underlying0
  a0:=Tryz.isAgg0
  z0:=Tryz.sizeOf0
  v0:=Tryz.zeroValue0
  t2:=Tryz.underlying2
  a2:=Tryz.isAgg2
  z2:=Tryz.sizeOf2
  v2:=Tryz.zeroValue2
  t3:=Tryz.underlying3
  a3:=Tryz.isAgg3
  z3:=Tryz.sizeOf3
  v3:=Tryz.zeroValue3
  t4:=Tryz.underlying4
  a4:=Tryz.isAgg4
  z4:=Tryz.sizeOf4
  v4:=Tryz.zeroValue4
  t5:=Tryz.underlying5
  a5:=Tryz.isAgg5
  z5:=Tryz.sizeOf5
  v5:=Tryz.zeroValue5
  t9:=Tryz.underlying9
  a9:=Tryz.isAgg9
  z9:=Tryz.sizeOf9
  v9:=Tryz.zeroValue9
  t20:=Tryz.underlying20
  a20:=Tryz.isAgg20
  z20:=Tryz.sizeOf20
  v20:=Tryz.zeroValue20
  t21:=Tryz.underlying21
  a21:=Tryz.isAgg21
  z21:=Tryz.sizeOf21
  v21:=Tryz.zeroValue21
  t37:=Tryz.underlying358
  a37:=Tryz.isAgg358
  z37:=Tryz.sizeOf358
  v37:=Tryz.zeroValue358
  t46:=Tryz.underlying61
  a46:=Tryz.isAgg61
  z46:=Tryz.sizeOf61
  v46:=Tryz.zeroValue61
  t51:=Tryz.underlying379
  a51:=Tryz.isAgg379
  z51:=Tryz.sizeOf379
  v51:=Tryz.zeroValue379
  t53:=Tryz.underlying355
  a53:=Tryz.isAgg355
  z53:=Tryz.sizeOf355
  v53:=Tryz.zeroValue355
  t75:=Tryz.underlying389
  a75:=Tryz.isAgg389
  z75:=Tryz.sizeOf389
  v75:=Tryz.zeroValue389
  t85:=Tryz.underlying390
  a85:=Tryz.isAgg390
  z85:=Tryz.sizeOf390
  v85:=Tryz.zeroValue390
  t127:=Tryz.underlying407
  a127:=Tryz.isAgg407
  z127:=Tryz.sizeOf407
  v127:=Tryz.zeroValue407
  t143:=Tryz.underlying408
  a143:=Tryz.isAgg408
  z143:=Tryz.sizeOf408
  v143:=Tryz.zeroValue408
  t145:=Tryz.underlying410
  a145:=Tryz.isAgg410
  z145:=Tryz.sizeOf410
  v145:=Tryz.zeroValue410
  t167:=Tryz.underlying396
  a167:=Tryz.isAgg396
  z167:=Tryz.sizeOf396
  v167:=Tryz.zeroValue396
  t168:=Tryz.underlying399
  a168:=Tryz.isAgg399
  z168:=Tryz.sizeOf399
  v168:=Tryz.zeroValue399
  t171:=Tryz.underlying354
  a171:=Tryz.isAgg354
  z171:=Tryz.sizeOf354
  v171:=Tryz.zeroValue354
  t173:=Tryz.underlying359
  a173:=Tryz.isAgg359
  z173:=Tryz.sizeOf359
  v173:=Tryz.zeroValue359
  t175:=Tryz.underlying397
  a175:=Tryz.isAgg397
  z175:=Tryz.sizeOf397
  v175:=Tryz.zeroValue397
  t210:=Tryz.underlying405
  a210:=Tryz.isAgg405
  z210:=Tryz.sizeOf405
  v210:=Tryz.zeroValue405
  t212:=Tryz.underlying378
  a212:=Tryz.isAgg378
  z212:=Tryz.sizeOf378
  v212:=Tryz.zeroValue378
  t213:=Tryz.underlying380
  a213:=Tryz.isAgg380
  z213:=Tryz.sizeOf380
  t232:=Tryz.underlying392
  a232:=Tryz.isAgg392
  z232:=Tryz.sizeOf392
  v232:=Tryz.zeroValue392
  t233:=Tryz.underlying393
  a233:=Tryz.isAgg393
  z233:=Tryz.sizeOf393
  v233:=Tryz.zeroValue393
  g15:=by kernel_rfl
  g16:=by kernel_rfl
  g17:=by kernel_rfl
  g18:=by kernel_rfl
  g19:=by kernel_rfl
  t80:=Tryz.underlying411
  a80:=Tryz.isAgg411
  z80:=Tryz.sizeOf411
  v80:=Tryz.zeroValue411
  i0:=by kernel_rfl
  i2:=by kernel_rfl
  i3:=by kernel_rfl
  i4:=by kernel_rfl
  i5:=by kernel_rfl
  i9:=by kernel_rfl
  i20:=by kernel_rfl
  i21:=by kernel_rfl
  i37:=by kernel_rfl
  i46:=by kernel_rfl
  i51:=by kernel_rfl
  i53:=by kernel_rfl
  i75:=by kernel_rfl
  i80:=by kernel_rfl
  i85:=by kernel_rfl
  i127:=by kernel_rfl
  i143:=by kernel_rfl
  i145:=by kernel_rfl
  i167:=by kernel_rfl
  i168:=by kernel_rfl
  i171:=by kernel_rfl
  i173:=by kernel_rfl
  i175:=by kernel_rfl
  i210:=by kernel_rfl
  i212:=by kernel_rfl
  i232:=by kernel_rfl
  i233:=by kernel_rfl
  m15:=by kernel_rfl
  m16:=by kernel_rfl
  m17:=by kernel_rfl
  m18:=by kernel_rfl
  m19:=by kernel_rfl
  c0:=by kernel_rfl
  c2:=by kernel_rfl
  c3:=by kernel_rfl
  c4:=by kernel_rfl
  c5:=by kernel_rfl
  c9:=by kernel_rfl
  c20:=by kernel_rfl
  c21:=by kernel_rfl
  c37:=by kernel_rfl
  c46:=by kernel_rfl
  c51:=by kernel_rfl
  c53:=by kernel_rfl
  c75:=by kernel_rfl
  c80:=by kernel_rfl
  c85:=by kernel_rfl
  c127:=by kernel_rfl
  c143:=by kernel_rfl
  c145:=by kernel_rfl
  c167:=by kernel_rfl
  c168:=by kernel_rfl
  c171:=by kernel_rfl
  c173:=by kernel_rfl
  c175:=by kernel_rfl
  c210:=by kernel_rfl
  c212:=by kernel_rfl
  c213:=by kernel_rfl
  c232:=by kernel_rfl
  c233:=by kernel_rfl }
def rP:Go.Shelf.Ren:=⟨fun|196=>297|259=>319|n=>n,fun|9=>9|4=>4|3=>3|5=>5|12=>12|119=>372|0=>0|46=>61|139=>375|138=>374|53=>355|n=>n,fun|3=>0|4=>1|n=>n⟩
theorem wJ:Go.Proofs.Lays.n196 Tryz.prog rP:={
  mixed:=by kernel_rfl
  f196:=Tryz.func297.trans (congrArg some (by kernel_rfl))
  f259:=Tryz.func319.trans (congrArg some (by kernel_rfl))
  t0:=Tryz.underlying0
  a0:=Tryz.isAgg0
  z0:=Tryz.sizeOf0
  v0:=Tryz.zeroValue0
  t3:=Tryz.underlying3
  a3:=Tryz.isAgg3
  z3:=Tryz.sizeOf3
  v3:=Tryz.zeroValue3
  t4:=Tryz.underlying4
  a4:=Tryz.isAgg4
  z4:=Tryz.sizeOf4
  v4:=Tryz.zeroValue4
  t5:=Tryz.underlying5
  a5:=Tryz.isAgg5
  z5:=Tryz.sizeOf5
  v5:=Tryz.zeroValue5
  t9:=Tryz.underlying9
  a9:=Tryz.isAgg9
  z9:=Tryz.sizeOf9
  v9:=Tryz.zeroValue9
  t12:=Tryz.underlying12
  a12:=Tryz.isAgg12
  z12:=Tryz.sizeOf12
  v12:=Tryz.zeroValue12
  t46:=Tryz.underlying61
  a46:=Tryz.isAgg61
  z46:=Tryz.sizeOf61
  v46:=Tryz.zeroValue61
  t53:=Tryz.underlying355
  a53:=Tryz.isAgg355
  z53:=Tryz.sizeOf355
  v53:=Tryz.zeroValue355
  t119:=Tryz.underlying372
  a119:=Tryz.isAgg372
  z119:=Tryz.sizeOf372
  t138:=Tryz.underlying374
  a138:=Tryz.isAgg374
  z138:=Tryz.sizeOf374
  v138:=Tryz.zeroValue374
  t139:=Tryz.underlying375
  a139:=Tryz.isAgg375
  z139:=Tryz.sizeOf375
  v139:=Tryz.zeroValue375
  g3:=by kernel_rfl
  g4:=by kernel_rfl }
open Go.RowKit in
theorem mH(s:ByteArray)(hmax:s.size<=9223372036854775806)(v:Int)(h:Lib.parseIntB 64 s.data.toList = .ok v)(w:World):
    Calls Tryz.prog 342 #[.string s, .int .i64 10, .int .i64 64] w fun e w'=> e = .returned (.tuple #[.int .i64 v, .nilIface])/\(w'= w\/∃t,w'= Lib.bytesWorld w 5 t):=Any.strconv_ParseInt_10_at64_ok rK s hmax v h w
open Go.RowKit in
theorem lY(s:ByteArray)(hlim:s.size<=281474976710656)(h:match Lib.parseIntB 64 s.data.toList with | .ok _=>False | .range=>False|_=>True)(ev:Value)(w:World)(hv:w.cell? ⟨5,0,none⟩=some ev)(hev:ev = .nilIface\/∃te pe,ev = .iface te pe):
    Calls Tryz.prog 342 #[.string s, .int .i64 10, .int .i64 64] w fun e w'=> ∃N,e = .returned (.tuple #[.int .i64 (0), .iface 399 (.pointer (some ⟨N,0,none⟩))])/\w.heap.size<=N/\w'.heap[N]? =some (.cells #[.string ⟨#[80,97,114,115,101,73,110,116]⟩, .string s,ev] 405 (0,0))/\Below w.heap.size w w':= Any.strconv_ParseInt_10_at64_syntax rK s hlim (by revert h;cases Lib.parseIntB 64 s.data.toList<;>simp) ev w hv hev
open Go.RowKit in
theorem fB(s:ByteArray)(hlim:s.size<=281474976710656)(h:Lib.parseIntB 64 s.data.toList = .range)(ev:Value)(w:World)(hv:w.cell? ⟨6,0,none⟩=some ev)(hev:ev = .nilIface\/∃te pe,ev = .iface te pe):
    Calls Tryz.prog 342 #[.string s, .int .i64 10, .int .i64 64] w fun e w'=> ∃N,e = .returned (.tuple #[.int .i64 (Lib.intSat 64 s.data.toList), .iface 399 (.pointer (some ⟨N,0,none⟩))])/\w.heap.size<=N/\w'.heap[N]? =some (.cells #[.string ⟨#[80,97,114,115,101,73,110,116]⟩, .string s,ev] 405 (0,0))/\Below w.heap.size w w':= Any.strconv_ParseInt_10_at64_range rK s hlim h ev w hv hev
theorem sE(s:ByteArray)(w:World)(hs:s.size<=9223372036854775807)(hT:Lib.Utf8Tabs 0 1 w):
    Calls Tryz.prog 297 #[.string s] w fun e w'=> e = .returned (.bool (Lib.validD s.data.toList))/\Go.RowKit.Below w.heap.size w w':= Any.utf8_ValidString wJ s w hs hT
end Go.Proofs
