/- The shelf's contracts at this program, written by the kit's tool. -/
import Derived.Shelf.Strconv.Itoa0
import Derived.Shelf.Strconv.Itoa1
import Derived.Shelf.LaysM
import Derived.Shelf.Strconv.Itoa2
import Derived.Shelf.Strconv.Itoa3
import Derived.Shelf.Strconv.Itoa4
import Derived.Shelf.Strconv.ParseIntEmpty
import Derived.Shelf.Strconv.Clone
import Derived.Shelf.Strconv.SyntaxError
import Derived.Shelf.LaysC
import Derived.Shelf.Strconv.ToError
import Derived.Shelf.Strconv.Lower
import Derived.Shelf.Strconv.ParseUint10
import Derived.Shelf.Strconv.ParseUint10Empty
import Derived.Shelf.Strconv.ParseUint10Any
import Derived.Shelf.Strconv.ParseInt10
import Derived.Shelf.Strconv.RangeError
import Derived.Shelf.Strconv.ToErrorRange
import Derived.Shelf.Strconv.ParseUintEmpty
import Derived.Shelf.Strconv.ParseUint10b64
import Derived.Shelf.Strconv.ParseUint10b32
import Derived.Shelf.Strconv.ParseUint10b16
import Derived.Shelf.Strconv.ParseUint10b8
import Derived.Shelf.Strconv.ParseUint10At
import Derived.Shelf.Strconv.ParseInt10At64
import Derived.Shelf.Strconv.ParseInt10At32
import Derived.Shelf.Strconv.ParseInt10At16
import Derived.Shelf.Strconv.ParseInt10At8
import Derived.Shelf.Strconv.ParseInt10All
import Derived.Shelf.Strconv.ParseIntPublic10
import Derived.Ground.Names2Prog
import Derived.Shelf.Slices.SearchI
import Derived.Test.YtdodieljpcfpcaaGreatDoorProg
namespace Go.Proofs
open Go.Shelf
def Dr:Go.Shelf.Ren:=⟨fun|173=>183|246=>250|283=>297|284=>298|285=>299|286=>300|129=>320|317=>319|318=>321|319=>322|320=>323|337=>337|338=>338|n=>n,fun|2=>2|3=>3|9=>9|4=>4|171=>352|0=>0|53=>353|37=>356|5=>5|173=>357|212=>376|51=>377|20=>20|213=>378|46=>73|232=>390|233=>391|n=>n,fun|17=>2|18=>3|19=>4|n=>n⟩
theorem HE:Go.Proofs.LaysM.n173 Tryz.prog Dr:={
  mixed:=by kernel_rfl
  f129:=Tryz.func320.trans (congrArg some (by kernel_rfl))
  f173:=Tryz.func183.trans (congrArg some (by kernel_rfl))
  f246:=Tryz.func250.trans (congrArg some (by kernel_rfl))
  f283:=Tryz.func297.trans (congrArg some (by kernel_rfl))
  f284:=Tryz.func298.trans (congrArg some (by kernel_rfl))
  f285:=Tryz.func299.trans (congrArg some (by kernel_rfl))
  f286:=Tryz.func300.trans (congrArg some (by kernel_rfl))
  f317:=Tryz.func319.trans (congrArg some (by kernel_rfl))
  f318:=Tryz.func321.trans (congrArg some (by kernel_rfl))
  f319:=Tryz.func322.trans (congrArg some (by kernel_rfl))
  f320:=Tryz.func323.trans (congrArg some (by kernel_rfl))
  f337:=Tryz.func337.trans (congrArg some (by kernel_rfl))
  f338:=Tryz.func338.trans (congrArg some (by kernel_rfl))
  t0:=Tryz.underlying0
  a0:=Tryz.isAgg0
  z0:=Tryz.sizeOf0
  v0:=Tryz.zeroValue0
  t2:=Tryz.underlying2
  a2:=Tryz.isAgg2
  z2:=Tryz.sizeOf2
  v2:=Tryz.zeroValue2
  t3:=Tryz.underlying3
  a3:=Tryz.isAgg3
  z3:=Tryz.sizeOf3
  v3:=Tryz.zeroValue3
  t4:=Tryz.underlying4
  a4:=Tryz.isAgg4
  z4:=Tryz.sizeOf4
  v4:=Tryz.zeroValue4
  t5:=Tryz.underlying5
  a5:=Tryz.isAgg5
  z5:=Tryz.sizeOf5
  v5:=Tryz.zeroValue5
  t9:=Tryz.underlying9
  a9:=Tryz.isAgg9
  z9:=Tryz.sizeOf9
  v9:=Tryz.zeroValue9
  t20:=Tryz.underlying20
  a20:=Tryz.isAgg20
  z20:=Tryz.sizeOf20
  v20:=Tryz.zeroValue20
  t37:=Tryz.underlying356
  a37:=Tryz.isAgg356
  z37:=Tryz.sizeOf356
  v37:=Tryz.zeroValue356
  t46:=Tryz.underlying73
  a46:=Tryz.isAgg73
  z46:=Tryz.sizeOf73
  v46:=Tryz.zeroValue73
  t51:=Tryz.underlying377
  a51:=Tryz.isAgg377
  z51:=Tryz.sizeOf377
  v51:=Tryz.zeroValue377
  t53:=Tryz.underlying353
  a53:=Tryz.isAgg353
  z53:=Tryz.sizeOf353
  v53:=Tryz.zeroValue353
  t171:=Tryz.underlying352
  a171:=Tryz.isAgg352
  z171:=Tryz.sizeOf352
  v171:=Tryz.zeroValue352
  t173:=Tryz.underlying357
  a173:=Tryz.isAgg357
  z173:=Tryz.sizeOf357
  v173:=Tryz.zeroValue357
  t212:=Tryz.underlying376
  a212:=Tryz.isAgg376
  z212:=Tryz.sizeOf376
  v212:=Tryz.zeroValue376
  t213:=Tryz.underlying378
  a213:=Tryz.isAgg378
  z213:=Tryz.sizeOf378
  t232:=Tryz.underlying390
  a232:=Tryz.isAgg390
  z232:=Tryz.sizeOf390
  v232:=Tryz.zeroValue390
  t233:=Tryz.underlying391
  a233:=Tryz.isAgg391
  z233:=Tryz.sizeOf391
  v233:=Tryz.zeroValue391
  g17:=by kernel_rfl
  g18:=by kernel_rfl
  g19:=by kernel_rfl
  i0:=by kernel_rfl
  i2:=by kernel_rfl
  i3:=by kernel_rfl
  i4:=by kernel_rfl
  i5:=by kernel_rfl
  i9:=by kernel_rfl
  i20:=by kernel_rfl
  i37:=by kernel_rfl
  i46:=by kernel_rfl
  i51:=by kernel_rfl
  i53:=by kernel_rfl
  i171:=by kernel_rfl
  i173:=by kernel_rfl
  i212:=by kernel_rfl
  i232:=by kernel_rfl
  i233:=by kernel_rfl
  m17:=by kernel_rfl
  m18:=by kernel_rfl
  m19:=by kernel_rfl }
open Go.RowKit Go.Sort Go.Lib in
theorem qK(n:Int)(h0 : -9223372036854775808<=n)(h1:n<=9223372036854775807)(w:World)(htab:Lib.TabIs Tryz.prog w "internal/strconv.uint64pow10" .u64 Lib.pow10Tab):
    Calls Tryz.prog 183 #[.int .i64 n, .int .i64 10] w fun e w'=> e = .returned (.string ⟨(Lib.itoa n).toArray⟩)/\∃k os,w'= grow (w.drewN k) os:=Any.strconv_FormatInt_10 HE n h0 h1 w htab
end Go.Proofs
