/-
  The table of this seat's types, written by a program of the prover's (genlay.py): closed facts.
-/
import Derived.Test.YtegakkonlhmeaaaGreatDoorRows
import Derived.Test.YtegakkonlhmeaaaGreatDoorAvLaw
import Derived.Test.YtegakkonlhmeaaaGreatDoorAvTab
namespace Go.Proofs.YtegakkonlhmeaaaGreatDoor
open Go Go.Av
set_option maxRecDepth 100000

instance : Globals := ⟨[(0, .agg (Lib.firstTab.map (AV.int .u8))), (1, .agg (accTab.map (AV.int .u8))), (2, .agg (Lib.pow10Tab.map (AV.int .u64))), (3, .iface 250 .undef), (4, .iface 250 .undef)], [(2, 20)]⟩
/-- int64 -/
def ti2 : TI := ⟨(.int .i64), 1, 8, false, .int .i64 0, [], 0⟩
theorem tok2 : TOk Tryz.prog 2 ti2 := tok_mk (.int .i64 0) (by kernel_rfl) Tryz.underlying2 rfl rfl rfl rfl rfl (by kernel_rfl) rfl (by kernel_rfl)
/-- int -/
def ti3 : TI := ⟨(.int .i64), 1, 8, false, .int .i64 0, [], 0⟩
theorem tok3 : TOk Tryz.prog 3 ti3 := tok_mk (.int .i64 0) (by kernel_rfl) Tryz.underlying3 rfl rfl rfl rfl rfl (by kernel_rfl) rfl (by kernel_rfl)
/-- bool -/
def ti4 : TI := ⟨.bool, 1, 1, false, .bool false, [], 0⟩
theorem tok4 : TOk Tryz.prog 4 ti4 := tok_mk (.bool false) (by kernel_rfl) Tryz.underlying4 rfl rfl rfl rfl rfl (by kernel_rfl) rfl (by kernel_rfl)
/-- uint8 -/
def ti5 : TI := ⟨(.int .u8), 1, 1, false, .int .u8 0, [], 0⟩
theorem tok5 : TOk Tryz.prog 5 ti5 := tok_mk (.int .u8 0) (by kernel_rfl) Tryz.underlying5 rfl rfl rfl rfl rfl (by kernel_rfl) rfl (by kernel_rfl)
/-- string -/
def ti9 : TI := ⟨.string, 1, 16, false, .str [], [], 0⟩
theorem tok9 : TOk Tryz.prog 9 ti9 := tok_mk (.string ⟨#[]⟩) (by kernel_rfl) Tryz.underlying9 rfl rfl rfl rfl rfl (by kernel_rfl) rfl (by kernel_rfl)
/-- uintptr -/
def ti12 : TI := ⟨(.int .u64), 1, 8, false, .int .u64 0, [], 0⟩
theorem tok12 : TOk Tryz.prog 12 ti12 := tok_mk (.int .u64 0) (by kernel_rfl) Tryz.underlying12 rfl rfl rfl rfl rfl (by kernel_rfl) rfl (by kernel_rfl)
/-- struct   msg string  addr uintptr   -/
def ti13 : TI := ⟨.struct, 2, 24, true, .agg [.str [], .int .u64 0], [(0, 1, false), (1, 1, false)], 0⟩
theorem tok13 : TOk Tryz.prog 13 ti13 := tok_mk (.agg #[.string ⟨#[]⟩, .int .u64 0]) (by kernel_rfl) Tryz.underlying13 rfl rfl rfl rfl rfl (by kernel_rfl) rfl (by kernel_rfl)
/-- interface    -/
def ti20 : TI := ⟨.iface, 1, 16, false, .nili, [], 0⟩
theorem tok20 : TOk Tryz.prog 20 ti20 := tok_mk (.nilIface) (by kernel_rfl) Tryz.underlying20 rfl rfl rfl rfl rfl (by kernel_rfl) rfl (by kernel_rfl)
/-- int32 -/
def ti21 : TI := ⟨(.int .i32), 1, 4, false, .int .i32 0, [], 0⟩
theorem tok21 : TOk Tryz.prog 21 ti21 := tok_mk (.int .i32 0) (by kernel_rfl) Tryz.underlying21 rfl rfl rfl rfl rfl (by kernel_rfl) rfl (by kernel_rfl)
/--   api.Def -/
def ti22 : TI := ⟨.slice, 1, 24, false, .slice [] .nil, [], 35⟩
theorem tok22 : TOk Tryz.prog 22 ti22 := tok_mk (.slice none 0 0) (by kernel_rfl) Tryz.underlying22 rfl rfl rfl rfl rfl (by kernel_rfl) rfl (by kernel_rfl)
/-- struct   Defs   api.Def  Query string  Mutation string   -/
def ti23 : TI := ⟨.struct, 3, 56, true, .agg [.slice [] .nil, .str [], .str []], [(0, 1, false), (1, 1, false), (2, 1, false)], 0⟩
theorem tok23 : TOk Tryz.prog 23 ti23 := tok_mk (.agg #[.slice none 0 0, .string ⟨#[]⟩, .string ⟨#[]⟩]) (by kernel_rfl) Tryz.underlying23 rfl rfl rfl rfl rfl (by kernel_rfl) rfl (by kernel_rfl)
/-- api.Schema -/
def ti24 : TI := ⟨.struct, 3, 56, true, .agg [.slice [] .nil, .str [], .str []], [(0, 1, false), (1, 1, false), (2, 1, false)], 0⟩
theorem tok24 : TOk Tryz.prog 24 ti24 := tok_mk (.agg #[.slice none 0 0, .string ⟨#[]⟩, .string ⟨#[]⟩]) (by kernel_rfl) Tryz.underlying24 rfl rfl rfl rfl rfl (by kernel_rfl) rfl (by kernel_rfl)
/--   string -/
def ti30 : TI := ⟨.slice, 1, 24, false, .slice [] .nil, [], 9⟩
theorem tok30 : TOk Tryz.prog 30 ti30 := tok_mk (.slice none 0 0) (by kernel_rfl) Tryz.underlying30 rfl rfl rfl rfl rfl (by kernel_rfl) rfl (by kernel_rfl)
/--   api.FieldDef -/
def ti32 : TI := ⟨.slice, 1, 24, false, .slice [] .nil, [], 43⟩
theorem tok32 : TOk Tryz.prog 32 ti32 := tok_mk (.slice none 0 0) (by kernel_rfl) Tryz.underlying32 rfl rfl rfl rfl rfl (by kernel_rfl) rfl (by kernel_rfl)
/--   api.Param -/
def ti33 : TI := ⟨.slice, 1, 24, false, .slice [] .nil, [], 50⟩
theorem tok33 : TOk Tryz.prog 33 ti33 := tok_mk (.slice none 0 0) (by kernel_rfl) Tryz.underlying33 rfl rfl rfl rfl rfl (by kernel_rfl) rfl (by kernel_rfl)
/-- struct   Kind int  Name string  Faces   string  Fields   api.FieldDef  Parts   s -/
def ti34 : TI := ⟨.struct, 6, 120, true, .agg [.int .i64 0, .str [], .slice [] .nil, .slice [] .nil, .slice [] .nil, .slice [] .nil], [(0, 1, false), (1, 1, false), (2, 1, false), (3, 1, false), (4, 1, false), (5, 1, false)], 0⟩
theorem tok34 : TOk Tryz.prog 34 ti34 := tok_mk (.agg #[.int .i64 0, .string ⟨#[]⟩, .slice none 0 0, .slice none 0 0, .slice none 0 0, .slice none 0 0]) (by kernel_rfl) Tryz.underlying34 rfl rfl rfl rfl rfl (by kernel_rfl) rfl (by kernel_rfl)
/-- api.Def -/
def ti35 : TI := ⟨.struct, 6, 120, true, .agg [.int .i64 0, .str [], .slice [] .nil, .slice [] .nil, .slice [] .nil, .slice [] .nil], [(0, 1, false), (1, 1, false), (2, 1, false), (3, 1, false), (4, 1, false), (5, 1, false)], 0⟩
theorem tok35 : TOk Tryz.prog 35 ti35 := tok_mk (.agg #[.int .i64 0, .string ⟨#[]⟩, .slice none 0 0, .slice none 0 0, .slice none 0 0, .slice none 0 0]) (by kernel_rfl) Tryz.underlying35 rfl rfl rfl rfl rfl (by kernel_rfl) rfl (by kernel_rfl)
/-- struct   Name string  Lists int  Musts int   -/
def ti39 : TI := ⟨.struct, 3, 32, true, .agg [.str [], .int .i64 0, .int .i64 0], [(0, 1, false), (1, 1, false), (2, 1, false)], 0⟩
theorem tok39 : TOk Tryz.prog 39 ti39 := tok_mk (.agg #[.string ⟨#[]⟩, .int .i64 0, .int .i64 0]) (by kernel_rfl) Tryz.underlying39 rfl rfl rfl rfl rfl (by kernel_rfl) rfl (by kernel_rfl)
/-- api.Type -/
def ti40 : TI := ⟨.struct, 3, 32, true, .agg [.str [], .int .i64 0, .int .i64 0], [(0, 1, false), (1, 1, false), (2, 1, false)], 0⟩
theorem tok40 : TOk Tryz.prog 40 ti40 := tok_mk (.agg #[.string ⟨#[]⟩, .int .i64 0, .int .i64 0]) (by kernel_rfl) Tryz.underlying40 rfl rfl rfl rfl rfl (by kernel_rfl) rfl (by kernel_rfl)
/--   api.Dir -/
def ti41 : TI := ⟨.slice, 1, 24, false, .slice [] .nil, [], 105⟩
theorem tok41 : TOk Tryz.prog 41 ti41 := tok_mk (.slice none 0 0) (by kernel_rfl) Tryz.underlying41 rfl rfl rfl rfl rfl (by kernel_rfl) rfl (by kernel_rfl)
/-- struct   Name string  Params   api.Param  T api.Type  Dirs   api.Dir   -/
def ti42 : TI := ⟨.struct, 6, 96, true, .agg [.str [], .slice [] .nil, .str [], .int .i64 0, .int .i64 0, .slice [] .nil], [(0, 1, false), (1, 1, false), (2, 3, true), (5, 1, false)], 0⟩
theorem tok42 : TOk Tryz.prog 42 ti42 := tok_mk (.agg #[.string ⟨#[]⟩, .slice none 0 0, .string ⟨#[]⟩, .int .i64 0, .int .i64 0, .slice none 0 0]) (by kernel_rfl) Tryz.underlying42 rfl rfl rfl rfl rfl (by kernel_rfl) rfl (by kernel_rfl)
/-- api.FieldDef -/
def ti43 : TI := ⟨.struct, 6, 96, true, .agg [.str [], .slice [] .nil, .str [], .int .i64 0, .int .i64 0, .slice [] .nil], [(0, 1, false), (1, 1, false), (2, 3, true), (5, 1, false)], 0⟩
theorem tok43 : TOk Tryz.prog 43 ti43 := tok_mk (.agg #[.string ⟨#[]⟩, .slice none 0 0, .string ⟨#[]⟩, .int .i64 0, .int .i64 0, .slice none 0 0]) (by kernel_rfl) Tryz.underlying43 rfl rfl rfl rfl rfl (by kernel_rfl) rfl (by kernel_rfl)
/--   api.Value -/
def ti45 : TI := ⟨.slice, 1, 24, false, .slice [] .nil, [], 48⟩
theorem tok45 : TOk Tryz.prog 45 ti45 := tok_mk (.slice none 0 0) (by kernel_rfl) Tryz.underlying45 rfl rfl rfl rfl rfl (by kernel_rfl) rfl (by kernel_rfl)
/--   api.Member -/
def ti46 : TI := ⟨.slice, 1, 24, false, .slice [] .nil, [], 99⟩
theorem tok46 : TOk Tryz.prog 46 ti46 := tok_mk (.slice none 0 0) (by kernel_rfl) Tryz.underlying46 rfl rfl rfl rfl rfl (by kernel_rfl) rfl (by kernel_rfl)
/-- struct   Kind int  N int64  S string  L   api.Value  M   api.Member   -/
def ti47 : TI := ⟨.struct, 5, 80, true, .agg [.int .i64 0, .int .i64 0, .str [], .slice [] .nil, .slice [] .nil], [(0, 1, false), (1, 1, false), (2, 1, false), (3, 1, false), (4, 1, false)], 0⟩
theorem tok47 : TOk Tryz.prog 47 ti47 := tok_mk (.agg #[.int .i64 0, .int .i64 0, .string ⟨#[]⟩, .slice none 0 0, .slice none 0 0]) (by kernel_rfl) Tryz.underlying47 rfl rfl rfl rfl rfl (by kernel_rfl) rfl (by kernel_rfl)
/-- api.Value -/
def ti48 : TI := ⟨.struct, 5, 80, true, .agg [.int .i64 0, .int .i64 0, .str [], .slice [] .nil, .slice [] .nil], [(0, 1, false), (1, 1, false), (2, 1, false), (3, 1, false), (4, 1, false)], 0⟩
theorem tok48 : TOk Tryz.prog 48 ti48 := tok_mk (.agg #[.int .i64 0, .int .i64 0, .string ⟨#[]⟩, .slice none 0 0, .slice none 0 0]) (by kernel_rfl) Tryz.underlying48 rfl rfl rfl rfl rfl (by kernel_rfl) rfl (by kernel_rfl)
/-- struct   Name string  T api.Type  Has bool  Default api.Value   -/
def ti49 : TI := ⟨.struct, 10, 136, true, .agg [.str [], .str [], .int .i64 0, .int .i64 0, .bool false, .int .i64 0, .int .i64 0, .str [], .slice [] .nil, .slice [] .nil], [(0, 1, false), (1, 3, true), (4, 1, false), (5, 5, true)], 0⟩
theorem tok49 : TOk Tryz.prog 49 ti49 := tok_mk (.agg #[.string ⟨#[]⟩, .string ⟨#[]⟩, .int .i64 0, .int .i64 0, .bool false, .int .i64 0, .int .i64 0, .string ⟨#[]⟩, .slice none 0 0, .slice none 0 0]) (by kernel_rfl) Tryz.underlying49 rfl rfl rfl rfl rfl (by kernel_rfl) rfl (by kernel_rfl)
/-- api.Param -/
def ti50 : TI := ⟨.struct, 10, 136, true, .agg [.str [], .str [], .int .i64 0, .int .i64 0, .bool false, .int .i64 0, .int .i64 0, .str [], .slice [] .nil, .slice [] .nil], [(0, 1, false), (1, 3, true), (4, 1, false), (5, 5, true)], 0⟩
theorem tok50 : TOk Tryz.prog 50 ti50 := tok_mk (.agg #[.string ⟨#[]⟩, .string ⟨#[]⟩, .int .i64 0, .int .i64 0, .bool false, .int .i64 0, .int .i64 0, .string ⟨#[]⟩, .slice none 0 0, .slice none 0 0]) (by kernel_rfl) Tryz.underlying50 rfl rfl rfl rfl rfl (by kernel_rfl) rfl (by kernel_rfl)
/-- struct   How int  Table string  Col string  Arg string  Cmd string   -/
def ti56 : TI := ⟨.struct, 5, 72, true, .agg [.int .i64 0, .str [], .str [], .str [], .str []], [(0, 1, false), (1, 1, false), (2, 1, false), (3, 1, false), (4, 1, false)], 0⟩
theorem tok56 : TOk Tryz.prog 56 ti56 := tok_mk (.agg #[.int .i64 0, .string ⟨#[]⟩, .string ⟨#[]⟩, .string ⟨#[]⟩, .string ⟨#[]⟩]) (by kernel_rfl) Tryz.underlying56 rfl rfl rfl rfl rfl (by kernel_rfl) rfl (by kernel_rfl)
/-- api.Bind -/
def ti57 : TI := ⟨.struct, 5, 72, true, .agg [.int .i64 0, .str [], .str [], .str [], .str []], [(0, 1, false), (1, 1, false), (2, 1, false), (3, 1, false), (4, 1, false)], 0⟩
theorem tok57 : TOk Tryz.prog 57 ti57 := tok_mk (.agg #[.int .i64 0, .string ⟨#[]⟩, .string ⟨#[]⟩, .string ⟨#[]⟩, .string ⟨#[]⟩]) (by kernel_rfl) Tryz.underlying57 rfl rfl rfl rfl rfl (by kernel_rfl) rfl (by kernel_rfl)
/-- api.Errno -/
def ti62 : TI := ⟨(.int .i64), 1, 8, false, .int .i64 0, [], 0⟩
theorem tok62 : TOk Tryz.prog 62 ti62 := tok_mk (.int .i64 0) (by kernel_rfl) Tryz.underlying62 rfl rfl rfl rfl rfl (by kernel_rfl) rfl (by kernel_rfl)
/-- struct   s api.Schema  written bool  within bool  env   api.Member   -/
def ti93 : TI := ⟨.struct, 6, 88, true, .agg [.slice [] .nil, .str [], .str [], .bool false, .bool false, .slice [] .nil], [(0, 3, true), (3, 1, false), (4, 1, false), (5, 1, false)], 0⟩
theorem tok93 : TOk Tryz.prog 93 ti93 := tok_mk (.agg #[.slice none 0 0, .string ⟨#[]⟩, .string ⟨#[]⟩, .bool false, .bool false, .slice none 0 0]) (by kernel_rfl) Tryz.underlying93 rfl rfl rfl rfl rfl (by kernel_rfl) rfl (by kernel_rfl)
/-- coerce.maker -/
def ti94 : TI := ⟨.struct, 6, 88, true, .agg [.slice [] .nil, .str [], .str [], .bool false, .bool false, .slice [] .nil], [(0, 3, true), (3, 1, false), (4, 1, false), (5, 1, false)], 0⟩
theorem tok94 : TOk Tryz.prog 94 ti94 := tok_mk (.agg #[.slice none 0 0, .string ⟨#[]⟩, .string ⟨#[]⟩, .bool false, .bool false, .slice none 0 0]) (by kernel_rfl) Tryz.underlying94 rfl rfl rfl rfl rfl (by kernel_rfl) rfl (by kernel_rfl)
/-- struct   Name string  V api.Value   -/
def ti98 : TI := ⟨.struct, 6, 96, true, .agg [.str [], .int .i64 0, .int .i64 0, .str [], .slice [] .nil, .slice [] .nil], [(0, 1, false), (1, 5, true)], 0⟩
theorem tok98 : TOk Tryz.prog 98 ti98 := tok_mk (.agg #[.string ⟨#[]⟩, .int .i64 0, .int .i64 0, .string ⟨#[]⟩, .slice none 0 0, .slice none 0 0]) (by kernel_rfl) Tryz.underlying98 rfl rfl rfl rfl rfl (by kernel_rfl) rfl (by kernel_rfl)
/-- api.Member -/
def ti99 : TI := ⟨.struct, 6, 96, true, .agg [.str [], .int .i64 0, .int .i64 0, .str [], .slice [] .nil, .slice [] .nil], [(0, 1, false), (1, 5, true)], 0⟩
theorem tok99 : TOk Tryz.prog 99 ti99 := tok_mk (.agg #[.string ⟨#[]⟩, .int .i64 0, .int .i64 0, .string ⟨#[]⟩, .slice none 0 0, .slice none 0 0]) (by kernel_rfl) Tryz.underlying99 rfl rfl rfl rfl rfl (by kernel_rfl) rfl (by kernel_rfl)
/-- struct   Name string  Args   api.Member   -/
def ti104 : TI := ⟨.struct, 2, 40, true, .agg [.str [], .slice [] .nil], [(0, 1, false), (1, 1, false)], 0⟩
theorem tok104 : TOk Tryz.prog 104 ti104 := tok_mk (.agg #[.string ⟨#[]⟩, .slice none 0 0]) (by kernel_rfl) Tryz.underlying104 rfl rfl rfl rfl rfl (by kernel_rfl) rfl (by kernel_rfl)
/-- api.Dir -/
def ti105 : TI := ⟨.struct, 2, 40, true, .agg [.str [], .slice [] .nil], [(0, 1, false), (1, 1, false)], 0⟩
theorem tok105 : TOk Tryz.prog 105 ti105 := tok_mk (.agg #[.string ⟨#[]⟩, .slice none 0 0]) (by kernel_rfl) Tryz.underlying105 rfl rfl rfl rfl rfl (by kernel_rfl) rfl (by kernel_rfl)
/--   int -/
def ti110 : TI := ⟨.slice, 1, 24, false, .slice [] .nil, [], 3⟩
theorem tok110 : TOk Tryz.prog 110 ti110 := tok_mk (.slice none 0 0) (by kernel_rfl) Tryz.underlying110 rfl rfl rfl rfl rfl (by kernel_rfl) rfl (by kernel_rfl)
/-- uint -/
def ti148 : TI := ⟨(.int .u64), 1, 8, false, .int .u64 0, [], 0⟩
theorem tok148 : TOk Tryz.prog 148 ti148 := tok_mk (.int .u64 0) (by kernel_rfl) Tryz.underlying148 rfl rfl rfl rfl rfl (by kernel_rfl) rfl (by kernel_rfl)
/--   api.Token -/
def ti153 : TI := ⟨.slice, 1, 24, false, .slice [] .nil, [], 192⟩
theorem tok153 : TOk Tryz.prog 153 ti153 := tok_mk (.slice none 0 0) (by kernel_rfl) Tryz.underlying153 rfl rfl rfl rfl rfl (by kernel_rfl) rfl (by kernel_rfl)
/-- struct   lo uint8  hi uint8   -/
def ti162 : TI := ⟨.struct, 2, 2, true, .agg [.int .u8 0, .int .u8 0], [(0, 1, false), (1, 1, false)], 0⟩
theorem tok162 : TOk Tryz.prog 162 ti162 := tok_mk (.agg #[.int .u8 0, .int .u8 0]) (by kernel_rfl) Tryz.underlying162 rfl rfl rfl rfl rfl (by kernel_rfl) rfl (by kernel_rfl)
/-- utf8.acceptRange -/
def ti163 : TI := ⟨.struct, 2, 2, true, .agg [.int .u8 0, .int .u8 0], [(0, 1, false), (1, 1, false)], 0⟩
theorem tok163 : TOk Tryz.prog 163 ti163 := tok_mk (.agg #[.int .u8 0, .int .u8 0]) (by kernel_rfl) Tryz.underlying163 rfl rfl rfl rfl rfl (by kernel_rfl) rfl (by kernel_rfl)
/--  16 utf8.acceptRange -/
def ti164 : TI := ⟨(.array 16), 32, 32, true, .agg [.int .u8 0, .int .u8 0, .int .u8 0, .int .u8 0, .int .u8 0, .int .u8 0, .int .u8 0, .int .u8 0, .int .u8 0, .int .u8 0, .int .u8 0, .int .u8 0, .int .u8 0, .int .u8 0, .int .u8 0, .int .u8 0, .int .u8 0, .int .u8 0, .int .u8 0, .int .u8 0, .int .u8 0, .int .u8 0, .int .u8 0, .int .u8 0, .int .u8 0, .int .u8 0, .int .u8 0, .int .u8 0, .int .u8 0, .int .u8 0, .int .u8 0, .int .u8 0], [], 163⟩
theorem tok164 : TOk Tryz.prog 164 ti164 := tok_mk (.agg #[.int .u8 0, .int .u8 0, .int .u8 0, .int .u8 0, .int .u8 0, .int .u8 0, .int .u8 0, .int .u8 0, .int .u8 0, .int .u8 0, .int .u8 0, .int .u8 0, .int .u8 0, .int .u8 0, .int .u8 0, .int .u8 0, .int .u8 0, .int .u8 0, .int .u8 0, .int .u8 0, .int .u8 0, .int .u8 0, .int .u8 0, .int .u8 0, .int .u8 0, .int .u8 0, .int .u8 0, .int .u8 0, .int .u8 0, .int .u8 0, .int .u8 0, .int .u8 0]) (by kernel_rfl) Tryz.underlying164 rfl rfl rfl rfl rfl (by kernel_rfl) rfl (by kernel_rfl)
/--  print.Writer -/
def ti172 : TI := ⟨.pointer, 1, 8, false, .nilp, [], 180⟩
theorem tok172 : TOk Tryz.prog 172 ti172 := tok_mk (.pointer none) (by kernel_rfl) Tryz.underlying172 rfl rfl rfl rfl rfl (by kernel_rfl) rfl (by kernel_rfl)
/-- struct    print.Writer   -/
def ti174 : TI := ⟨.struct, 1, 8, true, .agg [.nilp], [(0, 1, false)], 0⟩
theorem tok174 : TOk Tryz.prog 174 ti174 := tok_mk (.agg #[.pointer none]) (by kernel_rfl) Tryz.underlying174 rfl rfl rfl rfl rfl (by kernel_rfl) rfl (by kernel_rfl)
/-- sdl.writer -/
def ti175 : TI := ⟨.struct, 1, 8, true, .agg [.nilp], [(0, 1, false)], 0⟩
theorem tok175 : TOk Tryz.prog 175 ti175 := tok_mk (.agg #[.pointer none]) (by kernel_rfl) Tryz.underlying175 rfl rfl rfl rfl rfl (by kernel_rfl) rfl (by kernel_rfl)
/-- struct   L   api.Token  OK bool  deep int   -/
def ti179 : TI := ⟨.struct, 3, 40, true, .agg [.slice [] .nil, .bool false, .int .i64 0], [(0, 1, false), (1, 1, false), (2, 1, false)], 0⟩
theorem tok179 : TOk Tryz.prog 179 ti179 := tok_mk (.agg #[.slice none 0 0, .bool false, .int .i64 0]) (by kernel_rfl) Tryz.underlying179 rfl rfl rfl rfl rfl (by kernel_rfl) rfl (by kernel_rfl)
/-- print.Writer -/
def ti180 : TI := ⟨.struct, 3, 40, true, .agg [.slice [] .nil, .bool false, .int .i64 0], [(0, 1, false), (1, 1, false), (2, 1, false)], 0⟩
theorem tok180 : TOk Tryz.prog 180 ti180 := tok_mk (.agg #[.slice none 0 0, .bool false, .int .i64 0]) (by kernel_rfl) Tryz.underlying180 rfl rfl rfl rfl rfl (by kernel_rfl) rfl (by kernel_rfl)
/-- uint64 -/
def ti186 : TI := ⟨(.int .u64), 1, 8, false, .int .u64 0, [], 0⟩
theorem tok186 : TOk Tryz.prog 186 ti186 := tok_mk (.int .u64 0) (by kernel_rfl) Tryz.underlying186 rfl rfl rfl rfl rfl (by kernel_rfl) rfl (by kernel_rfl)
/-- struct   Kind int  S string   -/
def ti191 : TI := ⟨.struct, 2, 24, true, .agg [.int .i64 0, .str []], [(0, 1, false), (1, 1, false)], 0⟩
theorem tok191 : TOk Tryz.prog 191 ti191 := tok_mk (.agg #[.int .i64 0, .string ⟨#[]⟩]) (by kernel_rfl) Tryz.underlying191 rfl rfl rfl rfl rfl (by kernel_rfl) rfl (by kernel_rfl)
/-- api.Token -/
def ti192 : TI := ⟨.struct, 2, 24, true, .agg [.int .i64 0, .str []], [(0, 1, false), (1, 1, false)], 0⟩
theorem tok192 : TOk Tryz.prog 192 ti192 := tok_mk (.agg #[.int .i64 0, .string ⟨#[]⟩]) (by kernel_rfl) Tryz.underlying192 rfl rfl rfl rfl rfl (by kernel_rfl) rfl (by kernel_rfl)
/-- interface   Error   string   -/
def ti200 : TI := ⟨.iface, 1, 16, false, .nili, [], 0⟩
theorem tok200 : TOk Tryz.prog 200 ti200 := tok_mk (.nilIface) (by kernel_rfl) Tryz.underlying200 rfl rfl rfl rfl rfl (by kernel_rfl) rfl (by kernel_rfl)
/-- error -/
def ti201 : TI := ⟨.iface, 1, 16, false, .nili, [], 0⟩
theorem tok201 : TOk Tryz.prog 201 ti201 := tok_mk (.nilIface) (by kernel_rfl) Tryz.underlying201 rfl rfl rfl rfl rfl (by kernel_rfl) rfl (by kernel_rfl)
/--  24 uint8 -/
def ti205 : TI := ⟨(.array 24), 24, 24, true, .agg [.int .u8 0, .int .u8 0, .int .u8 0, .int .u8 0, .int .u8 0, .int .u8 0, .int .u8 0, .int .u8 0, .int .u8 0, .int .u8 0, .int .u8 0, .int .u8 0, .int .u8 0, .int .u8 0, .int .u8 0, .int .u8 0, .int .u8 0, .int .u8 0, .int .u8 0, .int .u8 0, .int .u8 0, .int .u8 0, .int .u8 0, .int .u8 0], [], 5⟩
theorem tok205 : TOk Tryz.prog 205 ti205 := tok_mk (.agg #[.int .u8 0, .int .u8 0, .int .u8 0, .int .u8 0, .int .u8 0, .int .u8 0, .int .u8 0, .int .u8 0, .int .u8 0, .int .u8 0, .int .u8 0, .int .u8 0, .int .u8 0, .int .u8 0, .int .u8 0, .int .u8 0, .int .u8 0, .int .u8 0, .int .u8 0, .int .u8 0, .int .u8 0, .int .u8 0, .int .u8 0, .int .u8 0]) (by kernel_rfl) Tryz.underlying205 rfl rfl rfl rfl rfl (by kernel_rfl) rfl (by kernel_rfl)
/--   uint8 -/
def ti208 : TI := ⟨.slice, 1, 24, false, .slice [] .nil, [], 5⟩
theorem tok208 : TOk Tryz.prog 208 ti208 := tok_mk (.slice none 0 0) (by kernel_rfl) Tryz.underlying208 rfl rfl rfl rfl rfl (by kernel_rfl) rfl (by kernel_rfl)
/--  20 uint64 -/
def ti222 : TI := ⟨(.array 20), 20, 160, true, .agg [.int .u64 0, .int .u64 0, .int .u64 0, .int .u64 0, .int .u64 0, .int .u64 0, .int .u64 0, .int .u64 0, .int .u64 0, .int .u64 0, .int .u64 0, .int .u64 0, .int .u64 0, .int .u64 0, .int .u64 0, .int .u64 0, .int .u64 0, .int .u64 0, .int .u64 0, .int .u64 0], [], 186⟩
theorem tok222 : TOk Tryz.prog 222 ti222 := tok_mk (.agg #[.int .u64 0, .int .u64 0, .int .u64 0, .int .u64 0, .int .u64 0, .int .u64 0, .int .u64 0, .int .u64 0, .int .u64 0, .int .u64 0, .int .u64 0, .int .u64 0, .int .u64 0, .int .u64 0, .int .u64 0, .int .u64 0, .int .u64 0, .int .u64 0, .int .u64 0, .int .u64 0]) (by kernel_rfl) Tryz.underlying222 rfl rfl rfl rfl rfl (by kernel_rfl) rfl (by kernel_rfl)
/-- uint32 -/
def ti223 : TI := ⟨(.int .u32), 1, 4, false, .int .u32 0, [], 0⟩
theorem tok223 : TOk Tryz.prog 223 ti223 := tok_mk (.int .u32 0) (by kernel_rfl) Tryz.underlying223 rfl rfl rfl rfl rfl (by kernel_rfl) rfl (by kernel_rfl)
/-- strconv.Error -/
def ti231 : TI := ⟨(.int .i64), 1, 8, false, .int .i64 0, [], 0⟩
theorem tok231 : TOk Tryz.prog 231 ti231 := tok_mk (.int .i64 0) (by kernel_rfl) Tryz.underlying231 rfl rfl rfl rfl rfl (by kernel_rfl) rfl (by kernel_rfl)
/--  strconv.NumError -/
def ti234 : TI := ⟨.pointer, 1, 8, false, .nilp, [], 244⟩
theorem tok234 : TOk Tryz.prog 234 ti234 := tok_mk (.pointer none) (by kernel_rfl) Tryz.underlying234 rfl rfl rfl rfl rfl (by kernel_rfl) rfl (by kernel_rfl)
/-- struct   Func string  Num string  Err error   -/
def ti243 : TI := ⟨.struct, 3, 48, true, .agg [.str [], .str [], .nili], [(0, 1, false), (1, 1, false), (2, 1, false)], 0⟩
theorem tok243 : TOk Tryz.prog 243 ti243 := tok_mk (.agg #[.string ⟨#[]⟩, .string ⟨#[]⟩, .nilIface]) (by kernel_rfl) Tryz.underlying243 rfl rfl rfl rfl rfl (by kernel_rfl) rfl (by kernel_rfl)
/-- strconv.NumError -/
def ti244 : TI := ⟨.struct, 3, 48, true, .agg [.str [], .str [], .nili], [(0, 1, false), (1, 1, false), (2, 1, false)], 0⟩
theorem tok244 : TOk Tryz.prog 244 ti244 := tok_mk (.agg #[.string ⟨#[]⟩, .string ⟨#[]⟩, .nilIface]) (by kernel_rfl) Tryz.underlying244 rfl rfl rfl rfl rfl (by kernel_rfl) rfl (by kernel_rfl)
/--  32 uint8 -/
def ti246 : TI := ⟨(.array 32), 32, 32, true, .agg [.int .u8 0, .int .u8 0, .int .u8 0, .int .u8 0, .int .u8 0, .int .u8 0, .int .u8 0, .int .u8 0, .int .u8 0, .int .u8 0, .int .u8 0, .int .u8 0, .int .u8 0, .int .u8 0, .int .u8 0, .int .u8 0, .int .u8 0, .int .u8 0, .int .u8 0, .int .u8 0, .int .u8 0, .int .u8 0, .int .u8 0, .int .u8 0, .int .u8 0, .int .u8 0, .int .u8 0, .int .u8 0, .int .u8 0, .int .u8 0, .int .u8 0, .int .u8 0], [], 5⟩
theorem tok246 : TOk Tryz.prog 246 ti246 := tok_mk (.agg #[.int .u8 0, .int .u8 0, .int .u8 0, .int .u8 0, .int .u8 0, .int .u8 0, .int .u8 0, .int .u8 0, .int .u8 0, .int .u8 0, .int .u8 0, .int .u8 0, .int .u8 0, .int .u8 0, .int .u8 0, .int .u8 0, .int .u8 0, .int .u8 0, .int .u8 0, .int .u8 0, .int .u8 0, .int .u8 0, .int .u8 0, .int .u8 0, .int .u8 0, .int .u8 0, .int .u8 0, .int .u8 0, .int .u8 0, .int .u8 0, .int .u8 0, .int .u8 0]) (by kernel_rfl) Tryz.underlying246 rfl rfl rfl rfl rfl (by kernel_rfl) rfl (by kernel_rfl)
/--  64 uint8 -/
def ti247 : TI := ⟨(.array 64), 64, 64, true, .agg [.int .u8 0, .int .u8 0, .int .u8 0, .int .u8 0, .int .u8 0, .int .u8 0, .int .u8 0, .int .u8 0, .int .u8 0, .int .u8 0, .int .u8 0, .int .u8 0, .int .u8 0, .int .u8 0, .int .u8 0, .int .u8 0, .int .u8 0, .int .u8 0, .int .u8 0, .int .u8 0, .int .u8 0, .int .u8 0, .int .u8 0, .int .u8 0, .int .u8 0, .int .u8 0, .int .u8 0, .int .u8 0, .int .u8 0, .int .u8 0, .int .u8 0, .int .u8 0, .int .u8 0, .int .u8 0, .int .u8 0, .int .u8 0, .int .u8 0, .int .u8 0, .int .u8 0, .int .u8 0, .int .u8 0, .int .u8 0, .int .u8 0, .int .u8 0, .int .u8 0, .int .u8 0, .int .u8 0, .int .u8 0, .int .u8 0, .int .u8 0, .int .u8 0, .int .u8 0, .int .u8 0, .int .u8 0, .int .u8 0, .int .u8 0, .int .u8 0, .int .u8 0, .int .u8 0, .int .u8 0, .int .u8 0, .int .u8 0, .int .u8 0, .int .u8 0], [], 5⟩
theorem tok247 : TOk Tryz.prog 247 ti247 := tok_mk (.agg #[.int .u8 0, .int .u8 0, .int .u8 0, .int .u8 0, .int .u8 0, .int .u8 0, .int .u8 0, .int .u8 0, .int .u8 0, .int .u8 0, .int .u8 0, .int .u8 0, .int .u8 0, .int .u8 0, .int .u8 0, .int .u8 0, .int .u8 0, .int .u8 0, .int .u8 0, .int .u8 0, .int .u8 0, .int .u8 0, .int .u8 0, .int .u8 0, .int .u8 0, .int .u8 0, .int .u8 0, .int .u8 0, .int .u8 0, .int .u8 0, .int .u8 0, .int .u8 0, .int .u8 0, .int .u8 0, .int .u8 0, .int .u8 0, .int .u8 0, .int .u8 0, .int .u8 0, .int .u8 0, .int .u8 0, .int .u8 0, .int .u8 0, .int .u8 0, .int .u8 0, .int .u8 0, .int .u8 0, .int .u8 0, .int .u8 0, .int .u8 0, .int .u8 0, .int .u8 0, .int .u8 0, .int .u8 0, .int .u8 0, .int .u8 0, .int .u8 0, .int .u8 0, .int .u8 0, .int .u8 0, .int .u8 0, .int .u8 0, .int .u8 0, .int .u8 0]) (by kernel_rfl) Tryz.underlying247 rfl rfl rfl rfl rfl (by kernel_rfl) rfl (by kernel_rfl)
/--  uint8 -/
def ti249 : TI := ⟨.pointer, 1, 8, false, .nilp, [], 5⟩
theorem tok249 : TOk Tryz.prog 249 ti249 := tok_mk (.pointer none) (by kernel_rfl) Tryz.underlying249 rfl rfl rfl rfl rfl (by kernel_rfl) rfl (by kernel_rfl)
/--  errors.errorString -/
def ti250 : TI := ⟨.pointer, 1, 8, false, .nilp, [], 252⟩
theorem tok250 : TOk Tryz.prog 250 ti250 := tok_mk (.pointer none) (by kernel_rfl) Tryz.underlying250 rfl rfl rfl rfl rfl (by kernel_rfl) rfl (by kernel_rfl)
/-- struct   s string   -/
def ti251 : TI := ⟨.struct, 1, 16, true, .agg [.str []], [(0, 1, false)], 0⟩
theorem tok251 : TOk Tryz.prog 251 ti251 := tok_mk (.agg #[.string ⟨#[]⟩]) (by kernel_rfl) Tryz.underlying251 rfl rfl rfl rfl rfl (by kernel_rfl) rfl (by kernel_rfl)
/-- errors.errorString -/
def ti252 : TI := ⟨.struct, 1, 16, true, .agg [.str []], [(0, 1, false)], 0⟩
theorem tok252 : TOk Tryz.prog 252 ti252 := tok_mk (.agg #[.string ⟨#[]⟩]) (by kernel_rfl) Tryz.underlying252 rfl rfl rfl rfl rfl (by kernel_rfl) rfl (by kernel_rfl)
def table : List (Nat × TI) := [(2, ⟨(.int .i64), 1, 8, false, .int .i64 0, [], 0⟩), (3, ⟨(.int .i64), 1, 8, false, .int .i64 0, [], 0⟩), (4, ⟨.bool, 1, 1, false, .bool false, [], 0⟩), (5, ⟨(.int .u8), 1, 1, false, .int .u8 0, [], 0⟩), (9, ⟨.string, 1, 16, false, .str [], [], 0⟩), (12, ⟨(.int .u64), 1, 8, false, .int .u64 0, [], 0⟩), (13, ⟨.struct, 2, 24, true, .agg [.str [], .int .u64 0], [(0, 1, false), (1, 1, false)], 0⟩), (20, ⟨.iface, 1, 16, false, .nili, [], 0⟩), (21, ⟨(.int .i32), 1, 4, false, .int .i32 0, [], 0⟩), (22, ⟨.slice, 1, 24, false, .slice [] .nil, [], 35⟩), (23, ⟨.struct, 3, 56, true, .agg [.slice [] .nil, .str [], .str []], [(0, 1, false), (1, 1, false), (2, 1, false)], 0⟩), (24, ⟨.struct, 3, 56, true, .agg [.slice [] .nil, .str [], .str []], [(0, 1, false), (1, 1, false), (2, 1, false)], 0⟩), (30, ⟨.slice, 1, 24, false, .slice [] .nil, [], 9⟩), (32, ⟨.slice, 1, 24, false, .slice [] .nil, [], 43⟩), (33, ⟨.slice, 1, 24, false, .slice [] .nil, [], 50⟩), (34, ⟨.struct, 6, 120, true, .agg [.int .i64 0, .str [], .slice [] .nil, .slice [] .nil, .slice [] .nil, .slice [] .nil], [(0, 1, false), (1, 1, false), (2, 1, false), (3, 1, false), (4, 1, false), (5, 1, false)], 0⟩), (35, ⟨.struct, 6, 120, true, .agg [.int .i64 0, .str [], .slice [] .nil, .slice [] .nil, .slice [] .nil, .slice [] .nil], [(0, 1, false), (1, 1, false), (2, 1, false), (3, 1, false), (4, 1, false), (5, 1, false)], 0⟩), (39, ⟨.struct, 3, 32, true, .agg [.str [], .int .i64 0, .int .i64 0], [(0, 1, false), (1, 1, false), (2, 1, false)], 0⟩), (40, ⟨.struct, 3, 32, true, .agg [.str [], .int .i64 0, .int .i64 0], [(0, 1, false), (1, 1, false), (2, 1, false)], 0⟩), (41, ⟨.slice, 1, 24, false, .slice [] .nil, [], 105⟩), (42, ⟨.struct, 6, 96, true, .agg [.str [], .slice [] .nil, .str [], .int .i64 0, .int .i64 0, .slice [] .nil], [(0, 1, false), (1, 1, false), (2, 3, true), (5, 1, false)], 0⟩), (43, ⟨.struct, 6, 96, true, .agg [.str [], .slice [] .nil, .str [], .int .i64 0, .int .i64 0, .slice [] .nil], [(0, 1, false), (1, 1, false), (2, 3, true), (5, 1, false)], 0⟩), (45, ⟨.slice, 1, 24, false, .slice [] .nil, [], 48⟩), (46, ⟨.slice, 1, 24, false, .slice [] .nil, [], 99⟩), (47, ⟨.struct, 5, 80, true, .agg [.int .i64 0, .int .i64 0, .str [], .slice [] .nil, .slice [] .nil], [(0, 1, false), (1, 1, false), (2, 1, false), (3, 1, false), (4, 1, false)], 0⟩), (48, ⟨.struct, 5, 80, true, .agg [.int .i64 0, .int .i64 0, .str [], .slice [] .nil, .slice [] .nil], [(0, 1, false), (1, 1, false), (2, 1, false), (3, 1, false), (4, 1, false)], 0⟩), (49, ⟨.struct, 10, 136, true, .agg [.str [], .str [], .int .i64 0, .int .i64 0, .bool false, .int .i64 0, .int .i64 0, .str [], .slice [] .nil, .slice [] .nil], [(0, 1, false), (1, 3, true), (4, 1, false), (5, 5, true)], 0⟩), (50, ⟨.struct, 10, 136, true, .agg [.str [], .str [], .int .i64 0, .int .i64 0, .bool false, .int .i64 0, .int .i64 0, .str [], .slice [] .nil, .slice [] .nil], [(0, 1, false), (1, 3, true), (4, 1, false), (5, 5, true)], 0⟩), (56, ⟨.struct, 5, 72, true, .agg [.int .i64 0, .str [], .str [], .str [], .str []], [(0, 1, false), (1, 1, false), (2, 1, false), (3, 1, false), (4, 1, false)], 0⟩), (57, ⟨.struct, 5, 72, true, .agg [.int .i64 0, .str [], .str [], .str [], .str []], [(0, 1, false), (1, 1, false), (2, 1, false), (3, 1, false), (4, 1, false)], 0⟩), (62, ⟨(.int .i64), 1, 8, false, .int .i64 0, [], 0⟩), (93, ⟨.struct, 6, 88, true, .agg [.slice [] .nil, .str [], .str [], .bool false, .bool false, .slice [] .nil], [(0, 3, true), (3, 1, false), (4, 1, false), (5, 1, false)], 0⟩), (94, ⟨.struct, 6, 88, true, .agg [.slice [] .nil, .str [], .str [], .bool false, .bool false, .slice [] .nil], [(0, 3, true), (3, 1, false), (4, 1, false), (5, 1, false)], 0⟩), (98, ⟨.struct, 6, 96, true, .agg [.str [], .int .i64 0, .int .i64 0, .str [], .slice [] .nil, .slice [] .nil], [(0, 1, false), (1, 5, true)], 0⟩), (99, ⟨.struct, 6, 96, true, .agg [.str [], .int .i64 0, .int .i64 0, .str [], .slice [] .nil, .slice [] .nil], [(0, 1, false), (1, 5, true)], 0⟩), (104, ⟨.struct, 2, 40, true, .agg [.str [], .slice [] .nil], [(0, 1, false), (1, 1, false)], 0⟩), (105, ⟨.struct, 2, 40, true, .agg [.str [], .slice [] .nil], [(0, 1, false), (1, 1, false)], 0⟩), (110, ⟨.slice, 1, 24, false, .slice [] .nil, [], 3⟩), (148, ⟨(.int .u64), 1, 8, false, .int .u64 0, [], 0⟩), (153, ⟨.slice, 1, 24, false, .slice [] .nil, [], 192⟩), (162, ⟨.struct, 2, 2, true, .agg [.int .u8 0, .int .u8 0], [(0, 1, false), (1, 1, false)], 0⟩), (163, ⟨.struct, 2, 2, true, .agg [.int .u8 0, .int .u8 0], [(0, 1, false), (1, 1, false)], 0⟩), (164, ⟨(.array 16), 32, 32, true, .agg [.int .u8 0, .int .u8 0, .int .u8 0, .int .u8 0, .int .u8 0, .int .u8 0, .int .u8 0, .int .u8 0, .int .u8 0, .int .u8 0, .int .u8 0, .int .u8 0, .int .u8 0, .int .u8 0, .int .u8 0, .int .u8 0, .int .u8 0, .int .u8 0, .int .u8 0, .int .u8 0, .int .u8 0, .int .u8 0, .int .u8 0, .int .u8 0, .int .u8 0, .int .u8 0, .int .u8 0, .int .u8 0, .int .u8 0, .int .u8 0, .int .u8 0, .int .u8 0], [], 163⟩), (172, ⟨.pointer, 1, 8, false, .nilp, [], 180⟩), (174, ⟨.struct, 1, 8, true, .agg [.nilp], [(0, 1, false)], 0⟩), (175, ⟨.struct, 1, 8, true, .agg [.nilp], [(0, 1, false)], 0⟩), (179, ⟨.struct, 3, 40, true, .agg [.slice [] .nil, .bool false, .int .i64 0], [(0, 1, false), (1, 1, false), (2, 1, false)], 0⟩), (180, ⟨.struct, 3, 40, true, .agg [.slice [] .nil, .bool false, .int .i64 0], [(0, 1, false), (1, 1, false), (2, 1, false)], 0⟩), (186, ⟨(.int .u64), 1, 8, false, .int .u64 0, [], 0⟩), (191, ⟨.struct, 2, 24, true, .agg [.int .i64 0, .str []], [(0, 1, false), (1, 1, false)], 0⟩), (192, ⟨.struct, 2, 24, true, .agg [.int .i64 0, .str []], [(0, 1, false), (1, 1, false)], 0⟩), (200, ⟨.iface, 1, 16, false, .nili, [], 0⟩), (201, ⟨.iface, 1, 16, false, .nili, [], 0⟩), (205, ⟨(.array 24), 24, 24, true, .agg [.int .u8 0, .int .u8 0, .int .u8 0, .int .u8 0, .int .u8 0, .int .u8 0, .int .u8 0, .int .u8 0, .int .u8 0, .int .u8 0, .int .u8 0, .int .u8 0, .int .u8 0, .int .u8 0, .int .u8 0, .int .u8 0, .int .u8 0, .int .u8 0, .int .u8 0, .int .u8 0, .int .u8 0, .int .u8 0, .int .u8 0, .int .u8 0], [], 5⟩), (208, ⟨.slice, 1, 24, false, .slice [] .nil, [], 5⟩), (222, ⟨(.array 20), 20, 160, true, .agg [.int .u64 0, .int .u64 0, .int .u64 0, .int .u64 0, .int .u64 0, .int .u64 0, .int .u64 0, .int .u64 0, .int .u64 0, .int .u64 0, .int .u64 0, .int .u64 0, .int .u64 0, .int .u64 0, .int .u64 0, .int .u64 0, .int .u64 0, .int .u64 0, .int .u64 0, .int .u64 0], [], 186⟩), (223, ⟨(.int .u32), 1, 4, false, .int .u32 0, [], 0⟩), (231, ⟨(.int .i64), 1, 8, false, .int .i64 0, [], 0⟩), (234, ⟨.pointer, 1, 8, false, .nilp, [], 244⟩), (243, ⟨.struct, 3, 48, true, .agg [.str [], .str [], .nili], [(0, 1, false), (1, 1, false), (2, 1, false)], 0⟩), (244, ⟨.struct, 3, 48, true, .agg [.str [], .str [], .nili], [(0, 1, false), (1, 1, false), (2, 1, false)], 0⟩), (246, ⟨(.array 32), 32, 32, true, .agg [.int .u8 0, .int .u8 0, .int .u8 0, .int .u8 0, .int .u8 0, .int .u8 0, .int .u8 0, .int .u8 0, .int .u8 0, .int .u8 0, .int .u8 0, .int .u8 0, .int .u8 0, .int .u8 0, .int .u8 0, .int .u8 0, .int .u8 0, .int .u8 0, .int .u8 0, .int .u8 0, .int .u8 0, .int .u8 0, .int .u8 0, .int .u8 0, .int .u8 0, .int .u8 0, .int .u8 0, .int .u8 0, .int .u8 0, .int .u8 0, .int .u8 0, .int .u8 0], [], 5⟩), (247, ⟨(.array 64), 64, 64, true, .agg [.int .u8 0, .int .u8 0, .int .u8 0, .int .u8 0, .int .u8 0, .int .u8 0, .int .u8 0, .int .u8 0, .int .u8 0, .int .u8 0, .int .u8 0, .int .u8 0, .int .u8 0, .int .u8 0, .int .u8 0, .int .u8 0, .int .u8 0, .int .u8 0, .int .u8 0, .int .u8 0, .int .u8 0, .int .u8 0, .int .u8 0, .int .u8 0, .int .u8 0, .int .u8 0, .int .u8 0, .int .u8 0, .int .u8 0, .int .u8 0, .int .u8 0, .int .u8 0, .int .u8 0, .int .u8 0, .int .u8 0, .int .u8 0, .int .u8 0, .int .u8 0, .int .u8 0, .int .u8 0, .int .u8 0, .int .u8 0, .int .u8 0, .int .u8 0, .int .u8 0, .int .u8 0, .int .u8 0, .int .u8 0, .int .u8 0, .int .u8 0, .int .u8 0, .int .u8 0, .int .u8 0, .int .u8 0, .int .u8 0, .int .u8 0, .int .u8 0, .int .u8 0, .int .u8 0, .int .u8 0, .int .u8 0, .int .u8 0, .int .u8 0, .int .u8 0], [], 5⟩), (249, ⟨.pointer, 1, 8, false, .nilp, [], 5⟩), (250, ⟨.pointer, 1, 8, false, .nilp, [], 252⟩), (251, ⟨.struct, 1, 16, true, .agg [.str []], [(0, 1, false)], 0⟩), (252, ⟨.struct, 1, 16, true, .agg [.str []], [(0, 1, false)], 0⟩)]
theorem table_ok : LayOk Tryz.prog table := ⟨tok2, tok3, tok4, tok5, tok9, tok12, tok13, tok20, tok21, tok22, tok23, tok24, tok30, tok32, tok33, tok34, tok35, tok39, tok40, tok41, tok42, tok43, tok45, tok46, tok47, tok48, tok49, tok50, tok56, tok57, tok62, tok93, tok94, tok98, tok99, tok104, tok105, tok110, tok148, tok153, tok162, tok163, tok164, tok172, tok174, tok175, tok179, tok180, tok186, tok191, tok192, tok200, tok201, tok205, tok208, tok222, tok223, tok231, tok234, tok243, tok244, tok246, tok247, tok249, tok250, tok251, tok252, trivial⟩
instance : Lay Tryz.prog := ⟨table, table_ok, Tryz.checked.mixed⟩
end Go.Proofs.YtegakkonlhmeaaaGreatDoor
