/-
  DERIVED: THE SHELF's CONTRACTS AT THIS DUMP, IN PLAIN WORDS (tools/lay-plain.mjs out of 'TryzShelf.lean', which tools/lay-shelf.mjs wrote): THE SAME DECLARATIONS UNDER THE SAME NAMES: 'import', 'namespace', 'open', 'def', 'theorem' AND NOTHING ELSE: no command of the shelf's: FOR A HAND-IN. Each laying: the table of numbers ('.._ren') and one theorem, a field a fact of the dump's own or the kernel's comparison; each contract: ONE APPLICATION.
-/
import Derived.Shelf.Strconv.Itoa0
import Derived.Shelf.Strconv.Itoa1
import Derived.Shelf.LaysM
import Derived.Shelf.Strconv.Itoa2
import Derived.Shelf.Strconv.Itoa3
import Derived.Shelf.Strconv.Itoa4
import Derived.Shelf.Strconv.ParseIntEmpty
import Derived.Shelf.Strconv.Clone
import Derived.Shelf.Strconv.SyntaxError
import Derived.Shelf.LaysC
import Derived.Shelf.Strconv.ToError
import Derived.Shelf.Strconv.Lower
import Derived.Shelf.Strconv.ParseUint10
import Derived.Shelf.Strconv.ParseUint10Empty
import Derived.Shelf.Strconv.ParseUint10Any
import Derived.Shelf.Strconv.ParseInt10
import Derived.Shelf.Strconv.RangeError
import Derived.Shelf.Strconv.ToErrorRange
import Derived.Shelf.Strconv.ParseUintEmpty
import Derived.Shelf.Strconv.ParseUint10b64
import Derived.Shelf.Strconv.ParseUint10b32
import Derived.Shelf.Strconv.ParseUint10b16
import Derived.Shelf.Strconv.ParseUint10b8
import Derived.Shelf.Strconv.ParseUint10At
import Derived.Shelf.Strconv.ParseInt10At64
import Derived.Shelf.Strconv.ParseInt10At32
import Derived.Shelf.Strconv.ParseInt10At16
import Derived.Shelf.Strconv.ParseInt10At8
import Derived.Shelf.Strconv.ParseInt10All
import Derived.Shelf.Strconv.ParseIntPublic10
import Derived.Shelf.Unicode.ValidAny
import Derived.Test.YtgghkkeejagfkaaGreatDoorProg
namespace Go.Proofs
open Go.Shelf
def Tryz.laysC174_ren : Go.Shelf.Ren := ⟨fun | 174 => 351 | 247 => 358 | 245 => 359 | 287 => 361 | 279 => 362 | 280 => 363 | 281 => 364 | 282 => 365 | 321 => 366 | 322 => 367 | 316 => 368 | 171 => 370 | 205 => 369 | 243 => 371 | 246 => 280 | 283 => 304 | 284 => 305 | 285 => 306 | 286 => 307 | 129 => 326 | 317 => 325 | 318 => 327 | 319 => 328 | 320 => 329 | 337 => 345 | 338 => 346 | n => n, fun | 9 => 9 | 3 => 3 | 2 => 2 | 75 => 369 | 85 => 370 | 4 => 4 | 167 => 377 | 5 => 5 | 53 => 332 | 175 => 378 | 46 => 281 | 168 => 380 | 37 => 335 | 0 => 0 | 210 => 386 | 21 => 21 | 127 => 388 | 145 => 391 | 143 => 389 | 171 => 331 | 173 => 336 | 212 => 353 | 51 => 354 | 20 => 20 | 213 => 355 | 232 => 372 | 233 => 373 | 80 => 392 | n => n, fun | 15 => 5 | 16 => 6 | 17 => 2 | 18 => 3 | 19 => 4 | n => n⟩
theorem Tryz.laysC174 : Go.Proofs.LaysC.n174 Tryz.prog Tryz.laysC174_ren := {
  mixed := by kernel_rfl
  f129 := Tryz.func326.trans (congrArg some (by kernel_rfl))
  f171 := Tryz.func370.trans (congrArg some (by kernel_rfl))
  f174 := Tryz.func351.trans (congrArg some (by kernel_rfl))
  f205 := Tryz.func369.trans (congrArg some (by kernel_rfl))
  f243 := Tryz.func371.trans (congrArg some (by kernel_rfl))
  f245 := Tryz.func359.trans (congrArg some (by kernel_rfl))
  f246 := Tryz.func280.trans (congrArg some (by kernel_rfl))
  f247 := Tryz.func358.trans (congrArg some (by kernel_rfl))
  f279 := Tryz.func362.trans (congrArg some (by kernel_rfl))
  f280 := Tryz.func363.trans (congrArg some (by kernel_rfl))
  f281 := Tryz.func364.trans (congrArg some (by kernel_rfl))
  f282 := Tryz.func365.trans (congrArg some (by kernel_rfl))
  f283 := Tryz.func304.trans (congrArg some (by kernel_rfl))
  f284 := Tryz.func305.trans (congrArg some (by kernel_rfl))
  f285 := Tryz.func306.trans (congrArg some (by kernel_rfl))
  f286 := Tryz.func307.trans (congrArg some (by kernel_rfl))
  f287 := Tryz.func361.trans (congrArg some (by kernel_rfl))
  f316 := Tryz.func368.trans (congrArg some (by kernel_rfl))
  f317 := Tryz.func325.trans (congrArg some (by kernel_rfl))
  f318 := Tryz.func327.trans (congrArg some (by kernel_rfl))
  f319 := Tryz.func328.trans (congrArg some (by kernel_rfl))
  f320 := Tryz.func329.trans (congrArg some (by kernel_rfl))
  f321 := Tryz.func366.trans (congrArg some (by kernel_rfl))
  f322 := Tryz.func367.trans (congrArg some (by kernel_rfl))
  f337 := Tryz.func345.trans (congrArg some (by kernel_rfl))
  f338 := Tryz.func346.trans (congrArg some (by kernel_rfl))
  t0 := Tryz.underlying0
  a0 := Tryz.isAgg0
  z0 := Tryz.sizeOf0
  v0 := Tryz.zeroValue0
  t2 := Tryz.underlying2
  a2 := Tryz.isAgg2
  z2 := Tryz.sizeOf2
  v2 := Tryz.zeroValue2
  t3 := Tryz.underlying3
  a3 := Tryz.isAgg3
  z3 := Tryz.sizeOf3
  v3 := Tryz.zeroValue3
  t4 := Tryz.underlying4
  a4 := Tryz.isAgg4
  z4 := Tryz.sizeOf4
  v4 := Tryz.zeroValue4
  t5 := Tryz.underlying5
  a5 := Tryz.isAgg5
  z5 := Tryz.sizeOf5
  v5 := Tryz.zeroValue5
  t9 := Tryz.underlying9
  a9 := Tryz.isAgg9
  z9 := Tryz.sizeOf9
  v9 := Tryz.zeroValue9
  t20 := Tryz.underlying20
  a20 := Tryz.isAgg20
  z20 := Tryz.sizeOf20
  v20 := Tryz.zeroValue20
  t21 := Tryz.underlying21
  a21 := Tryz.isAgg21
  z21 := Tryz.sizeOf21
  v21 := Tryz.zeroValue21
  t37 := Tryz.underlying335
  a37 := Tryz.isAgg335
  z37 := Tryz.sizeOf335
  v37 := Tryz.zeroValue335
  t46 := Tryz.underlying281
  a46 := Tryz.isAgg281
  z46 := Tryz.sizeOf281
  v46 := Tryz.zeroValue281
  t51 := Tryz.underlying354
  a51 := Tryz.isAgg354
  z51 := Tryz.sizeOf354
  v51 := Tryz.zeroValue354
  t53 := Tryz.underlying332
  a53 := Tryz.isAgg332
  z53 := Tryz.sizeOf332
  v53 := Tryz.zeroValue332
  t75 := Tryz.underlying369
  a75 := Tryz.isAgg369
  z75 := Tryz.sizeOf369
  v75 := Tryz.zeroValue369
  t85 := Tryz.underlying370
  a85 := Tryz.isAgg370
  z85 := Tryz.sizeOf370
  v85 := Tryz.zeroValue370
  t127 := Tryz.underlying388
  a127 := Tryz.isAgg388
  z127 := Tryz.sizeOf388
  v127 := Tryz.zeroValue388
  t143 := Tryz.underlying389
  a143 := Tryz.isAgg389
  z143 := Tryz.sizeOf389
  v143 := Tryz.zeroValue389
  t145 := Tryz.underlying391
  a145 := Tryz.isAgg391
  z145 := Tryz.sizeOf391
  v145 := Tryz.zeroValue391
  t167 := Tryz.underlying377
  a167 := Tryz.isAgg377
  z167 := Tryz.sizeOf377
  v167 := Tryz.zeroValue377
  t168 := Tryz.underlying380
  a168 := Tryz.isAgg380
  z168 := Tryz.sizeOf380
  v168 := Tryz.zeroValue380
  t171 := Tryz.underlying331
  a171 := Tryz.isAgg331
  z171 := Tryz.sizeOf331
  v171 := Tryz.zeroValue331
  t173 := Tryz.underlying336
  a173 := Tryz.isAgg336
  z173 := Tryz.sizeOf336
  v173 := Tryz.zeroValue336
  t175 := Tryz.underlying378
  a175 := Tryz.isAgg378
  z175 := Tryz.sizeOf378
  v175 := Tryz.zeroValue378
  t210 := Tryz.underlying386
  a210 := Tryz.isAgg386
  z210 := Tryz.sizeOf386
  v210 := Tryz.zeroValue386
  t212 := Tryz.underlying353
  a212 := Tryz.isAgg353
  z212 := Tryz.sizeOf353
  v212 := Tryz.zeroValue353
  t213 := Tryz.underlying355
  a213 := Tryz.isAgg355
  z213 := Tryz.sizeOf355
  t232 := Tryz.underlying372
  a232 := Tryz.isAgg372
  z232 := Tryz.sizeOf372
  v232 := Tryz.zeroValue372
  t233 := Tryz.underlying373
  a233 := Tryz.isAgg373
  z233 := Tryz.sizeOf373
  v233 := Tryz.zeroValue373
  g15 := by kernel_rfl
  g16 := by kernel_rfl
  g17 := by kernel_rfl
  g18 := by kernel_rfl
  g19 := by kernel_rfl
  t80 := Tryz.underlying392
  a80 := Tryz.isAgg392
  z80 := Tryz.sizeOf392
  v80 := Tryz.zeroValue392
  i0 := by kernel_rfl
  i2 := by kernel_rfl
  i3 := by kernel_rfl
  i4 := by kernel_rfl
  i5 := by kernel_rfl
  i9 := by kernel_rfl
  i20 := by kernel_rfl
  i21 := by kernel_rfl
  i37 := by kernel_rfl
  i46 := by kernel_rfl
  i51 := by kernel_rfl
  i53 := by kernel_rfl
  i75 := by kernel_rfl
  i80 := by kernel_rfl
  i85 := by kernel_rfl
  i127 := by kernel_rfl
  i143 := by kernel_rfl
  i145 := by kernel_rfl
  i167 := by kernel_rfl
  i168 := by kernel_rfl
  i171 := by kernel_rfl
  i173 := by kernel_rfl
  i175 := by kernel_rfl
  i210 := by kernel_rfl
  i212 := by kernel_rfl
  i232 := by kernel_rfl
  i233 := by kernel_rfl
  m15 := by kernel_rfl
  m16 := by kernel_rfl
  m17 := by kernel_rfl
  m18 := by kernel_rfl
  m19 := by kernel_rfl
  c0 := by kernel_rfl
  c2 := by kernel_rfl
  c3 := by kernel_rfl
  c4 := by kernel_rfl
  c5 := by kernel_rfl
  c9 := by kernel_rfl
  c20 := by kernel_rfl
  c21 := by kernel_rfl
  c37 := by kernel_rfl
  c46 := by kernel_rfl
  c51 := by kernel_rfl
  c53 := by kernel_rfl
  c75 := by kernel_rfl
  c80 := by kernel_rfl
  c85 := by kernel_rfl
  c127 := by kernel_rfl
  c143 := by kernel_rfl
  c145 := by kernel_rfl
  c167 := by kernel_rfl
  c168 := by kernel_rfl
  c171 := by kernel_rfl
  c173 := by kernel_rfl
  c175 := by kernel_rfl
  c210 := by kernel_rfl
  c212 := by kernel_rfl
  c213 := by kernel_rfl
  c232 := by kernel_rfl
  c233 := by kernel_rfl }
def Tryz.lays196_ren : Go.Shelf.Ren := ⟨fun | 196 => 293 | 259 => 316 | n => n, fun | 9 => 9 | 4 => 4 | 3 => 3 | 5 => 5 | 12 => 12 | 119 => 343 | 0 => 0 | 46 => 281 | 139 => 346 | 138 => 345 | 53 => 332 | n => n, fun | 3 => 0 | 4 => 1 | n => n⟩
theorem Tryz.lays196 : Go.Proofs.Lays.n196 Tryz.prog Tryz.lays196_ren := {
  mixed := by kernel_rfl
  f196 := Tryz.func293.trans (congrArg some (by kernel_rfl))
  f259 := Tryz.func316.trans (congrArg some (by kernel_rfl))
  t0 := Tryz.underlying0
  a0 := Tryz.isAgg0
  z0 := Tryz.sizeOf0
  v0 := Tryz.zeroValue0
  t3 := Tryz.underlying3
  a3 := Tryz.isAgg3
  z3 := Tryz.sizeOf3
  v3 := Tryz.zeroValue3
  t4 := Tryz.underlying4
  a4 := Tryz.isAgg4
  z4 := Tryz.sizeOf4
  v4 := Tryz.zeroValue4
  t5 := Tryz.underlying5
  a5 := Tryz.isAgg5
  z5 := Tryz.sizeOf5
  v5 := Tryz.zeroValue5
  t9 := Tryz.underlying9
  a9 := Tryz.isAgg9
  z9 := Tryz.sizeOf9
  v9 := Tryz.zeroValue9
  t12 := Tryz.underlying12
  a12 := Tryz.isAgg12
  z12 := Tryz.sizeOf12
  v12 := Tryz.zeroValue12
  t46 := Tryz.underlying281
  a46 := Tryz.isAgg281
  z46 := Tryz.sizeOf281
  v46 := Tryz.zeroValue281
  t53 := Tryz.underlying332
  a53 := Tryz.isAgg332
  z53 := Tryz.sizeOf332
  v53 := Tryz.zeroValue332
  t119 := Tryz.underlying343
  a119 := Tryz.isAgg343
  z119 := Tryz.sizeOf343
  t138 := Tryz.underlying345
  a138 := Tryz.isAgg345
  z138 := Tryz.sizeOf345
  v138 := Tryz.zeroValue345
  t139 := Tryz.underlying346
  a139 := Tryz.isAgg346
  z139 := Tryz.sizeOf346
  v139 := Tryz.zeroValue346
  g3 := by kernel_rfl
  g4 := by kernel_rfl }
open Go.RowKit in
/-- strconv.ParseInt(s, 10, 64), AT EVERY STRING THAT SPELLS AN int64 ('Lib.parseIntB 64 s.data.toList = .ok v'): v, AND NO ERROR. (LAID: no walk: one application.) -/
theorem Tryz.strconv_ParseInt_10_at64_ok (s : ByteArray) (hmax : s.size ≤ 9223372036854775806) (v : Int) (h : Lib.parseIntB 64 s.data.toList = .ok v) (w : World) :
    Calls Tryz.prog 351 #[.string s, .int .i64 10, .int .i64 64] w fun e w' => e = .returned (.tuple #[.int .i64 v, .nilIface]) ∧ (w' = w ∨ ∃ t, w' = Lib.bytesWorld w 5 t) := Any.strconv_ParseInt_10_at64_ok Tryz.laysC174 s hmax v h w
open Go.RowKit in
/-- strconv.ParseInt(s, 10, 64), AT EVERY STRING THAT IS NO DECIMAL NUMERAL: 0, AND AN ERROR THAT IS NOT nil: a *NumError in a new block N: {Func: "ParseInt", Num: s's bytes, Err: what the variable ErrSyntax holds}. Of what was there nothing has turned. (LAID: no walk: one application.) -/
theorem Tryz.strconv_ParseInt_10_at64_syn (s : ByteArray) (hlim : s.size ≤ 281474976710656) (h : match Lib.parseIntB 64 s.data.toList with | .ok _ => False | .range => False | _ => True) (ev : Value) (w : World) (hv : w.cell? ⟨5, 0, none⟩ = some ev) (hev : ev = .nilIface ∨ ∃ te pe, ev = .iface te pe) :
    Calls Tryz.prog 351 #[.string s, .int .i64 10, .int .i64 64] w fun e w' => ∃ N, e = .returned (.tuple #[.int .i64 (0), .iface 380 (.pointer (some ⟨N, 0, none⟩))]) ∧ w.heap.size ≤ N ∧ w'.heap[N]? = some (.cells #[.string ⟨#[80, 97, 114, 115, 101, 73, 110, 116]⟩, .string s, ev] 386 (0, 0)) ∧ Below w.heap.size w w' := Any.strconv_ParseInt_10_at64_syntax Tryz.laysC174 s hlim (by revert h; cases Lib.parseIntB 64 s.data.toList <;> simp) ev w hv hev
open Go.RowKit in
/-- strconv.ParseInt(s, 10, 64), AT EVERY NUMERAL THAT NO int64 HOLDS: THE GREATEST OR THE LEAST int64, BY THE SIGN ('Lib.intSat 64'), AND AN ERROR THAT IS NOT nil: a *NumError in a new block N: {Func: "ParseInt", Num: s's bytes, Err: what the variable ErrRange holds}. Of what was there nothing has turned. (LAID: no walk: one application.) -/
theorem Tryz.strconv_ParseInt_10_at64_range (s : ByteArray) (hlim : s.size ≤ 281474976710656) (h : Lib.parseIntB 64 s.data.toList = .range) (ev : Value) (w : World) (hv : w.cell? ⟨6, 0, none⟩ = some ev) (hev : ev = .nilIface ∨ ∃ te pe, ev = .iface te pe) :
    Calls Tryz.prog 351 #[.string s, .int .i64 10, .int .i64 64] w fun e w' => ∃ N, e = .returned (.tuple #[.int .i64 (Lib.intSat 64 s.data.toList), .iface 380 (.pointer (some ⟨N, 0, none⟩))]) ∧ w.heap.size ≤ N ∧ w'.heap[N]? = some (.cells #[.string ⟨#[80, 97, 114, 115, 101, 73, 110, 116]⟩, .string s, ev] 386 (0, 0)) ∧ Below w.heap.size w w' := Any.strconv_ParseInt_10_at64_range Tryz.laysC174 s hlim h ev w hv hev
/-- utf8.ValidString. -/
theorem Tryz.utf8_ValidString (s : ByteArray) (w : World) (hs : s.size ≤ 9223372036854775807) (hT : Lib.Utf8Tabs 0 1 w) :
    Calls Tryz.prog 293 #[.string s] w fun e w' => e = .returned (.bool (Lib.validD s.data.toList)) ∧ Go.RowKit.Below w.heap.size w w' := Any.utf8_ValidString Tryz.lays196 s w hs hT
end Go.Proofs
