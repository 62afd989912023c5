/- The shelf's contracts at this program, written by the kit's tool. -/
import Derived.Shelf.Strconv.Itoa0
import Derived.Shelf.Strconv.Itoa1
import Derived.Shelf.LaysM
import Derived.Shelf.Strconv.Itoa2
import Derived.Shelf.Strconv.Itoa3
import Derived.Shelf.Strconv.Itoa4
import Derived.Shelf.Strconv.ParseIntEmpty
import Derived.Shelf.Strconv.Clone
import Derived.Shelf.Strconv.SyntaxError
import Derived.Shelf.LaysC
import Derived.Shelf.Strconv.ToError
import Derived.Shelf.Strconv.Lower
import Derived.Shelf.Strconv.ParseUint10
import Derived.Shelf.Strconv.ParseUint10Empty
import Derived.Shelf.Strconv.ParseUint10Any
import Derived.Shelf.Strconv.ParseInt10
import Derived.Shelf.Strconv.RangeError
import Derived.Shelf.Strconv.ToErrorRange
import Derived.Shelf.Strconv.ParseUintEmpty
import Derived.Shelf.Strconv.ParseUint10b64
import Derived.Shelf.Strconv.ParseUint10b32
import Derived.Shelf.Strconv.ParseUint10b16
import Derived.Shelf.Strconv.ParseUint10b8
import Derived.Shelf.Strconv.ParseUint10At
import Derived.Shelf.Strconv.ParseInt10At64
import Derived.Shelf.Strconv.ParseInt10At32
import Derived.Shelf.Strconv.ParseInt10At16
import Derived.Shelf.Strconv.ParseInt10At8
import Derived.Shelf.Strconv.ParseInt10All
import Derived.Shelf.Strconv.ParseIntPublic10
import Derived.Test.YtimbiifcnhgcoaaGreatDoorProg
namespace Go.Proofs
open Go.Shelf
def w9:Go.Shelf.Ren:=⟨fun|173=>185|246=>250|283=>298|284=>299|285=>300|286=>301|129=>321|317=>320|318=>322|319=>323|320=>324|337=>338|338=>339|n=>n,fun|2=>2|3=>3|9=>9|4=>4|171=>354|0=>0|53=>355|37=>358|5=>5|173=>359|212=>378|51=>379|20=>20|213=>380|46=>61|232=>392|233=>393|n=>n,fun|17=>2|18=>3|19=>4|n=>n⟩
theorem CZ:Go.Proofs.LaysM.n173 Tryz.prog w9:={
  mixed:=by kernel_rfl
  f129:=Tryz.func321.trans (congrArg some (by kernel_rfl))
  f173:=Tryz.func185.trans (congrArg some (by kernel_rfl))
  f246:=Tryz.func250.trans (congrArg some (by kernel_rfl))
  f283:=Tryz.func298.trans (congrArg some (by kernel_rfl))
  f284:=Tryz.func299.trans (congrArg some (by kernel_rfl))
  f285:=Tryz.func300.trans (congrArg some (by kernel_rfl))
  f286:=Tryz.func301.trans (congrArg some (by kernel_rfl))
  f317:=Tryz.func320.trans (congrArg some (by kernel_rfl))
  f318:=Tryz.func322.trans (congrArg some (by kernel_rfl))
  f319:=Tryz.func323.trans (congrArg some (by kernel_rfl))
  f320:=Tryz.func324.trans (congrArg some (by kernel_rfl))
  f337:=Tryz.func338.trans (congrArg some (by kernel_rfl))
  f338:=Tryz.func339.trans (congrArg some (by kernel_rfl))
  t0:=Tryz.underlying0
  a0:=Tryz.isAgg0
  z0:=Tryz.sizeOf0
  v0:=Tryz.zeroValue0
  t2:=Tryz.underlying2
  a2:=Tryz.isAgg2
  z2:=Tryz.sizeOf2
  v2:=Tryz.zeroValue2
  t3:=Tryz.underlying3
  a3:=Tryz.isAgg3
  z3:=Tryz.sizeOf3
  v3:=Tryz.zeroValue3
  t4:=Tryz.underlying4
  a4:=Tryz.isAgg4
  z4:=Tryz.sizeOf4
  v4:=Tryz.zeroValue4
  t5:=Tryz.underlying5
  a5:=Tryz.isAgg5
  z5:=Tryz.sizeOf5
  v5:=Tryz.zeroValue5
  t9:=Tryz.underlying9
  a9:=Tryz.isAgg9
  z9:=Tryz.sizeOf9
  v9:=Tryz.zeroValue9
  t20:=Tryz.underlying20
  a20:=Tryz.isAgg20
  z20:=Tryz.sizeOf20
  v20:=Tryz.zeroValue20
  t37:=Tryz.underlying358
  a37:=Tryz.isAgg358
  z37:=Tryz.sizeOf358
  v37:=Tryz.zeroValue358
  t46:=Tryz.underlying61
  a46:=Tryz.isAgg61
  z46:=Tryz.sizeOf61
  v46:=Tryz.zeroValue61
  t51:=Tryz.underlying379
  a51:=Tryz.isAgg379
  z51:=Tryz.sizeOf379
  v51:=Tryz.zeroValue379
  t53:=Tryz.underlying355
  a53:=Tryz.isAgg355
  z53:=Tryz.sizeOf355
  v53:=Tryz.zeroValue355
  t171:=Tryz.underlying354
  a171:=Tryz.isAgg354
  z171:=Tryz.sizeOf354
  v171:=Tryz.zeroValue354
  t173:=Tryz.underlying359
  a173:=Tryz.isAgg359
  z173:=Tryz.sizeOf359
  v173:=Tryz.zeroValue359
  t212:=Tryz.underlying378
  a212:=Tryz.isAgg378
  z212:=Tryz.sizeOf378
  v212:=Tryz.zeroValue378
  t213:=Tryz.underlying380
  a213:=Tryz.isAgg380
  z213:=Tryz.sizeOf380
  t232:=Tryz.underlying392
  a232:=Tryz.isAgg392
  z232:=Tryz.sizeOf392
  v232:=Tryz.zeroValue392
  t233:=Tryz.underlying393
  a233:=Tryz.isAgg393
  z233:=Tryz.sizeOf393
  v233:=Tryz.zeroValue393
  g17:=by kernel_rfl
  g18:=by kernel_rfl
  g19:=by kernel_rfl
  i0:=by kernel_rfl
  i2:=by kernel_rfl
  i3:=by kernel_rfl
  i4:=by kernel_rfl
  i5:=by kernel_rfl
  i9:=by kernel_rfl
  i20:=by kernel_rfl
  i37:=by kernel_rfl
  i46:=by kernel_rfl
  i51:=by kernel_rfl
  i53:=by kernel_rfl
  i171:=by kernel_rfl
  i173:=by kernel_rfl
  i212:=by kernel_rfl
  i232:=by kernel_rfl
  i233:=by kernel_rfl
  m17:=by kernel_rfl
  m18:=by kernel_rfl
  m19:=by kernel_rfl }
open Go.RowKit Go.Sort Go.Lib in
theorem pU(n:Int)(h0 : -9223372036854775808<=n)(h1:n<=9223372036854775807)(w:World)(htab:Lib.TabIs Tryz.prog w "internal/strconv.uint64pow10" .u64 Lib.pow10Tab):
    Calls Tryz.prog 185 #[.int .i64 n, .int .i64 10] w fun e w'=> e = .returned (.string ⟨(Lib.itoa n).toArray⟩)/\∃k os,w'= grow (w.drewN k) os:=Any.strconv_FormatInt_10 CZ n h0 h1 w htab
end Go.Proofs
