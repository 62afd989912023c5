/- The shelf's contracts at this program, written by the kit's tool. -/
import Derived.Shelf.Strconv.Itoa0
import Derived.Shelf.Strconv.Itoa1
import Derived.Shelf.LaysM
import Derived.Shelf.Strconv.Itoa2
import Derived.Shelf.Strconv.Itoa3
import Derived.Shelf.Strconv.Itoa4
import Derived.Shelf.Strconv.ParseIntEmpty
import Derived.Shelf.Strconv.Clone
import Derived.Shelf.Strconv.SyntaxError
import Derived.Shelf.LaysC
import Derived.Shelf.Strconv.ToError
import Derived.Shelf.Strconv.Lower
import Derived.Shelf.Strconv.ParseUint10
import Derived.Shelf.Strconv.ParseUint10Empty
import Derived.Shelf.Strconv.ParseUint10Any
import Derived.Shelf.Strconv.ParseInt10
import Derived.Shelf.Strconv.RangeError
import Derived.Shelf.Strconv.ToErrorRange
import Derived.Shelf.Strconv.ParseUintEmpty
import Derived.Shelf.Strconv.ParseUint10b64
import Derived.Shelf.Strconv.ParseUint10b32
import Derived.Shelf.Strconv.ParseUint10b16
import Derived.Shelf.Strconv.ParseUint10b8
import Derived.Shelf.Strconv.ParseUint10At
import Derived.Shelf.Strconv.ParseInt10At64
import Derived.Shelf.Strconv.ParseInt10At32
import Derived.Shelf.Strconv.ParseInt10At16
import Derived.Shelf.Strconv.ParseInt10At8
import Derived.Shelf.Strconv.ParseInt10All
import Derived.Shelf.Strconv.ParseIntPublic10
import Derived.Ground.Names2Prog
import Derived.Shelf.Slices.SearchI
import Derived.Shelf.Unicode.ValidAny
import Derived.Test.YtdodieljpcfpcaaGreatDoorProg
namespace Go.Proofs
open Go.Shelf
def Dp:Go.Shelf.Ren:=⟨fun|174=>341|247=>346|245=>347|287=>349|279=>350|280=>351|281=>352|282=>353|321=>354|322=>355|316=>356|171=>358|205=>357|243=>359|246=>250|283=>297|284=>298|285=>299|286=>300|129=>320|317=>319|318=>321|319=>322|320=>323|337=>337|338=>338|n=>n,fun|9=>9|3=>3|2=>2|75=>387|85=>388|4=>4|167=>394|5=>5|53=>353|175=>395|46=>73|168=>397|37=>356|0=>0|210=>403|21=>21|127=>405|145=>408|143=>406|171=>352|173=>357|212=>376|51=>377|20=>20|213=>378|232=>390|233=>391|80=>409|n=>n,fun|15=>5|16=>6|17=>2|18=>3|19=>4|n=>n⟩
theorem rN:Go.Proofs.LaysC.n174 Tryz.prog Dp:={
  mixed:=by kernel_rfl
  f129:=Tryz.func320.trans (congrArg some (by kernel_rfl))
  f171:=Tryz.func358.trans (congrArg some (by kernel_rfl))
  f174:=Tryz.func341.trans (congrArg some (by kernel_rfl))
  f205:=Tryz.func357.trans (congrArg some (by kernel_rfl))
  f243:=Tryz.func359.trans (congrArg some (by kernel_rfl))
  f245:=Tryz.func347.trans (congrArg some (by kernel_rfl))
  f246:=Tryz.func250.trans (congrArg some (by kernel_rfl))
  f247:=Tryz.func346.trans (congrArg some (by kernel_rfl))
  f279:=Tryz.func350.trans (congrArg some (by kernel_rfl))
  f280:=Tryz.func351.trans (congrArg some (by kernel_rfl))
  f281:=Tryz.func352.trans (congrArg some (by kernel_rfl))
  f282:=Tryz.func353.trans (congrArg some (by kernel_rfl))
  f283:=Tryz.func297.trans (congrArg some (by kernel_rfl))
  f284:=Tryz.func298.trans (congrArg some (by kernel_rfl))
  f285:=Tryz.func299.trans (congrArg some (by kernel_rfl))
  f286:=Tryz.func300.trans (congrArg some (by kernel_rfl))
  f287:=Tryz.func349.trans (congrArg some (by kernel_rfl))
  f316:=Tryz.func356.trans (congrArg some (by kernel_rfl))
  f317:=Tryz.func319.trans (congrArg some (by kernel_rfl))
  f318:=Tryz.func321.trans (congrArg some (by kernel_rfl))
  f319:=Tryz.func322.trans (congrArg some (by kernel_rfl))
  f320:=Tryz.func323.trans (congrArg some (by kernel_rfl))
  f321:=Tryz.func354.trans (congrArg some (by kernel_rfl))
  f322:=Tryz.func355.trans (congrArg some (by kernel_rfl))
  f337:=Tryz.func337.trans (congrArg some (by kernel_rfl))
  f338:=Tryz.func338.trans (congrArg some (by kernel_rfl))
  t0:=Tryz.underlying0
  a0:=Tryz.isAgg0
  z0:=Tryz.sizeOf0
  v0:=Tryz.zeroValue0
  t2:=Tryz.underlying2
  a2:=Tryz.isAgg2
  z2:=Tryz.sizeOf2
  v2:=Tryz.zeroValue2
  t3:=Tryz.underlying3
  a3:=Tryz.isAgg3
  z3:=Tryz.sizeOf3
  v3:=Tryz.zeroValue3
  t4:=Tryz.underlying4
  a4:=Tryz.isAgg4
  z4:=Tryz.sizeOf4
  v4:=Tryz.zeroValue4
  t5:=Tryz.underlying5
  a5:=Tryz.isAgg5
  z5:=Tryz.sizeOf5
  v5:=Tryz.zeroValue5
  t9:=Tryz.underlying9
  a9:=Tryz.isAgg9
  z9:=Tryz.sizeOf9
  v9:=Tryz.zeroValue9
  t20:=Tryz.underlying20
  a20:=Tryz.isAgg20
  z20:=Tryz.sizeOf20
  v20:=Tryz.zeroValue20
  t21:=Tryz.underlying21
  a21:=Tryz.isAgg21
  z21:=Tryz.sizeOf21
  v21:=Tryz.zeroValue21
  t37:=Tryz.underlying356
  a37:=Tryz.isAgg356
  z37:=Tryz.sizeOf356
  v37:=Tryz.zeroValue356
  t46:=Tryz.underlying73
  a46:=Tryz.isAgg73
  z46:=Tryz.sizeOf73
  v46:=Tryz.zeroValue73
  t51:=Tryz.underlying377
  a51:=Tryz.isAgg377
  z51:=Tryz.sizeOf377
  v51:=Tryz.zeroValue377
  t53:=Tryz.underlying353
  a53:=Tryz.isAgg353
  z53:=Tryz.sizeOf353
  v53:=Tryz.zeroValue353
  t75:=Tryz.underlying387
  a75:=Tryz.isAgg387
  z75:=Tryz.sizeOf387
  v75:=Tryz.zeroValue387
  t85:=Tryz.underlying388
  a85:=Tryz.isAgg388
  z85:=Tryz.sizeOf388
  v85:=Tryz.zeroValue388
  t127:=Tryz.underlying405
  a127:=Tryz.isAgg405
  z127:=Tryz.sizeOf405
  v127:=Tryz.zeroValue405
  t143:=Tryz.underlying406
  a143:=Tryz.isAgg406
  z143:=Tryz.sizeOf406
  v143:=Tryz.zeroValue406
  t145:=Tryz.underlying408
  a145:=Tryz.isAgg408
  z145:=Tryz.sizeOf408
  v145:=Tryz.zeroValue408
  t167:=Tryz.underlying394
  a167:=Tryz.isAgg394
  z167:=Tryz.sizeOf394
  v167:=Tryz.zeroValue394
  t168:=Tryz.underlying397
  a168:=Tryz.isAgg397
  z168:=Tryz.sizeOf397
  v168:=Tryz.zeroValue397
  t171:=Tryz.underlying352
  a171:=Tryz.isAgg352
  z171:=Tryz.sizeOf352
  v171:=Tryz.zeroValue352
  t173:=Tryz.underlying357
  a173:=Tryz.isAgg357
  z173:=Tryz.sizeOf357
  v173:=Tryz.zeroValue357
  t175:=Tryz.underlying395
  a175:=Tryz.isAgg395
  z175:=Tryz.sizeOf395
  v175:=Tryz.zeroValue395
  t210:=Tryz.underlying403
  a210:=Tryz.isAgg403
  z210:=Tryz.sizeOf403
  v210:=Tryz.zeroValue403
  t212:=Tryz.underlying376
  a212:=Tryz.isAgg376
  z212:=Tryz.sizeOf376
  v212:=Tryz.zeroValue376
  t213:=Tryz.underlying378
  a213:=Tryz.isAgg378
  z213:=Tryz.sizeOf378
  t232:=Tryz.underlying390
  a232:=Tryz.isAgg390
  z232:=Tryz.sizeOf390
  v232:=Tryz.zeroValue390
  t233:=Tryz.underlying391
  a233:=Tryz.isAgg391
  z233:=Tryz.sizeOf391
  v233:=Tryz.zeroValue391
  g15:=by kernel_rfl
  g16:=by kernel_rfl
  g17:=by kernel_rfl
  g18:=by kernel_rfl
  g19:=by kernel_rfl
  t80:=Tryz.underlying409
  a80:=Tryz.isAgg409
  z80:=Tryz.sizeOf409
  v80:=Tryz.zeroValue409
  i0:=by kernel_rfl
  i2:=by kernel_rfl
  i3:=by kernel_rfl
  i4:=by kernel_rfl
  i5:=by kernel_rfl
  i9:=by kernel_rfl
  i20:=by kernel_rfl
  i21:=by kernel_rfl
  i37:=by kernel_rfl
  i46:=by kernel_rfl
  i51:=by kernel_rfl
  i53:=by kernel_rfl
  i75:=by kernel_rfl
  i80:=by kernel_rfl
  i85:=by kernel_rfl
  i127:=by kernel_rfl
  i143:=by kernel_rfl
  i145:=by kernel_rfl
  i167:=by kernel_rfl
  i168:=by kernel_rfl
  i171:=by kernel_rfl
  i173:=by kernel_rfl
  i175:=by kernel_rfl
  i210:=by kernel_rfl
  i212:=by kernel_rfl
  i232:=by kernel_rfl
  i233:=by kernel_rfl
  m15:=by kernel_rfl
  m16:=by kernel_rfl
  m17:=by kernel_rfl
  m18:=by kernel_rfl
  m19:=by kernel_rfl
  c0:=by kernel_rfl
  c2:=by kernel_rfl
  c3:=by kernel_rfl
  c4:=by kernel_rfl
  c5:=by kernel_rfl
  c9:=by kernel_rfl
  c20:=by kernel_rfl
  c21:=by kernel_rfl
  c37:=by kernel_rfl
  c46:=by kernel_rfl
  c51:=by kernel_rfl
  c53:=by kernel_rfl
  c75:=by kernel_rfl
  c80:=by kernel_rfl
  c85:=by kernel_rfl
  c127:=by kernel_rfl
  c143:=by kernel_rfl
  c145:=by kernel_rfl
  c167:=by kernel_rfl
  c168:=by kernel_rfl
  c171:=by kernel_rfl
  c173:=by kernel_rfl
  c175:=by kernel_rfl
  c210:=by kernel_rfl
  c212:=by kernel_rfl
  c213:=by kernel_rfl
  c232:=by kernel_rfl
  c233:=by kernel_rfl }
def sX:Go.Shelf.Ren:=⟨fun|196=>296|259=>318|n=>n,fun|9=>9|4=>4|3=>3|5=>5|12=>12|119=>370|0=>0|46=>73|139=>373|138=>372|53=>353|n=>n,fun|3=>0|4=>1|n=>n⟩
theorem Dq:Go.Proofs.Lays.n196 Tryz.prog sX:={
  mixed:=by kernel_rfl
  f196:=Tryz.func296.trans (congrArg some (by kernel_rfl))
  f259:=Tryz.func318.trans (congrArg some (by kernel_rfl))
  t0:=Tryz.underlying0
  a0:=Tryz.isAgg0
  z0:=Tryz.sizeOf0
  v0:=Tryz.zeroValue0
  t3:=Tryz.underlying3
  a3:=Tryz.isAgg3
  z3:=Tryz.sizeOf3
  v3:=Tryz.zeroValue3
  t4:=Tryz.underlying4
  a4:=Tryz.isAgg4
  z4:=Tryz.sizeOf4
  v4:=Tryz.zeroValue4
  t5:=Tryz.underlying5
  a5:=Tryz.isAgg5
  z5:=Tryz.sizeOf5
  v5:=Tryz.zeroValue5
  t9:=Tryz.underlying9
  a9:=Tryz.isAgg9
  z9:=Tryz.sizeOf9
  v9:=Tryz.zeroValue9
  t12:=Tryz.underlying12
  a12:=Tryz.isAgg12
  z12:=Tryz.sizeOf12
  v12:=Tryz.zeroValue12
  t46:=Tryz.underlying73
  a46:=Tryz.isAgg73
  z46:=Tryz.sizeOf73
  v46:=Tryz.zeroValue73
  t53:=Tryz.underlying353
  a53:=Tryz.isAgg353
  z53:=Tryz.sizeOf353
  v53:=Tryz.zeroValue353
  t119:=Tryz.underlying370
  a119:=Tryz.isAgg370
  z119:=Tryz.sizeOf370
  t138:=Tryz.underlying372
  a138:=Tryz.isAgg372
  z138:=Tryz.sizeOf372
  v138:=Tryz.zeroValue372
  t139:=Tryz.underlying373
  a139:=Tryz.isAgg373
  z139:=Tryz.sizeOf373
  v139:=Tryz.zeroValue373
  g3:=by kernel_rfl
  g4:=by kernel_rfl }
open Go.RowKit in
theorem nH(s:ByteArray)(hmax:s.size<=9223372036854775806)(v:Int)(h:Lib.parseIntB 64 s.data.toList = .ok v)(w:World):
    Calls Tryz.prog 341 #[.string s, .int .i64 10, .int .i64 64] w fun e w'=> e = .returned (.tuple #[.int .i64 v, .nilIface])/\(w'= w\/∃t,w'= Lib.bytesWorld w 5 t):=Any.strconv_ParseInt_10_at64_ok rN s hmax v h w
open Go.RowKit in
theorem mU(s:ByteArray)(hlim:s.size<=281474976710656)(h:match Lib.parseIntB 64 s.data.toList with | .ok _=>False | .range=>False|_=>True)(ev:Value)(w:World)(hv:w.cell? ⟨5,0,none⟩=some ev)(hev:ev = .nilIface\/∃te pe,ev = .iface te pe):
    Calls Tryz.prog 341 #[.string s, .int .i64 10, .int .i64 64] w fun e w'=> ∃N,e = .returned (.tuple #[.int .i64 (0), .iface 397 (.pointer (some ⟨N,0,none⟩))])/\w.heap.size<=N/\w'.heap[N]? =some (.cells #[.string ⟨#[80,97,114,115,101,73,110,116]⟩, .string s,ev] 403 (0,0))/\Below w.heap.size w w':= Any.strconv_ParseInt_10_at64_syntax rN s hlim (by revert h;cases Lib.parseIntB 64 s.data.toList<;>simp) ev w hv hev
open Go.RowKit in
theorem lW(s:ByteArray)(hlim:s.size<=281474976710656)(h:Lib.parseIntB 64 s.data.toList = .range)(ev:Value)(w:World)(hv:w.cell? ⟨6,0,none⟩=some ev)(hev:ev = .nilIface\/∃te pe,ev = .iface te pe):
    Calls Tryz.prog 341 #[.string s, .int .i64 10, .int .i64 64] w fun e w'=> ∃N,e = .returned (.tuple #[.int .i64 (Lib.intSat 64 s.data.toList), .iface 397 (.pointer (some ⟨N,0,none⟩))])/\w.heap.size<=N/\w'.heap[N]? =some (.cells #[.string ⟨#[80,97,114,115,101,73,110,116]⟩, .string s,ev] 403 (0,0))/\Below w.heap.size w w':= Any.strconv_ParseInt_10_at64_range rN s hlim h ev w hv hev
theorem vE(s:ByteArray)(w:World)(hs:s.size<=9223372036854775807)(hT:Lib.Utf8Tabs 0 1 w):
    Calls Tryz.prog 296 #[.string s] w fun e w'=> e = .returned (.bool (Lib.validD s.data.toList))/\Go.RowKit.Below w.heap.size w w':= Any.utf8_ValidString Dq s w hs hT
end Go.Proofs
