/-
  The table of this seat's types, written by a program of the prover's (genlay.py): closed facts.
-/
import Derived.Test.YtpidjkihngiaoaaDoorRows
import Derived.Test.YtpidjkihngiaoaaDoorAvLaw
import Derived.Test.YtpidjkihngiaoaaDoorAvTab
namespace Go.Proofs.YtpidjkihngiaoaaDoor
open Go Go.Av
set_option maxRecDepth 100000

instance : Globals := ⟨[(0, .agg (Lib.firstTab.map (AV.int .u8))), (1, .agg (accTab.map (AV.int .u8))), (2, .agg (Lib.pow10Tab.map (AV.int .u64))), (5, .iface 145 .undef), (6, .iface 145 .undef)], [(2, 20)]⟩
/-- int64 -/
def ti2 : TI := ⟨(.int .i64), 1, 8, false, .int .i64 0, [], 0⟩
theorem tok2 : TOk Tryd.prog 2 ti2 := tok_mk (.int .i64 0) (by kernel_rfl) Tryd.underlying2 rfl rfl rfl rfl rfl (by kernel_rfl) rfl (by kernel_rfl)
/-- int -/
def ti3 : TI := ⟨(.int .i64), 1, 8, false, .int .i64 0, [], 0⟩
theorem tok3 : TOk Tryd.prog 3 ti3 := tok_mk (.int .i64 0) (by kernel_rfl) Tryd.underlying3 rfl rfl rfl rfl rfl (by kernel_rfl) rfl (by kernel_rfl)
/-- bool -/
def ti4 : TI := ⟨.bool, 1, 1, false, .bool false, [], 0⟩
theorem tok4 : TOk Tryd.prog 4 ti4 := tok_mk (.bool false) (by kernel_rfl) Tryd.underlying4 rfl rfl rfl rfl rfl (by kernel_rfl) rfl (by kernel_rfl)
/-- uint8 -/
def ti5 : TI := ⟨(.int .u8), 1, 1, false, .int .u8 0, [], 0⟩
theorem tok5 : TOk Tryd.prog 5 ti5 := tok_mk (.int .u8 0) (by kernel_rfl) Tryd.underlying5 rfl rfl rfl rfl rfl (by kernel_rfl) rfl (by kernel_rfl)
/-- string -/
def ti9 : TI := ⟨.string, 1, 16, false, .str [], [], 0⟩
theorem tok9 : TOk Tryd.prog 9 ti9 := tok_mk (.string ⟨#[]⟩) (by kernel_rfl) Tryd.underlying9 rfl rfl rfl rfl rfl (by kernel_rfl) rfl (by kernel_rfl)
/-- uintptr -/
def ti12 : TI := ⟨(.int .u64), 1, 8, false, .int .u64 0, [], 0⟩
theorem tok12 : TOk Tryd.prog 12 ti12 := tok_mk (.int .u64 0) (by kernel_rfl) Tryd.underlying12 rfl rfl rfl rfl rfl (by kernel_rfl) rfl (by kernel_rfl)
/-- struct   msg string  addr uintptr   -/
def ti13 : TI := ⟨.struct, 2, 24, true, .agg [.str [], .int .u64 0], [(0, 1, false), (1, 1, false)], 0⟩
theorem tok13 : TOk Tryd.prog 13 ti13 := tok_mk (.agg #[.string ⟨#[]⟩, .int .u64 0]) (by kernel_rfl) Tryd.underlying13 rfl rfl rfl rfl rfl (by kernel_rfl) rfl (by kernel_rfl)
/-- interface    -/
def ti20 : TI := ⟨.iface, 1, 16, false, .nili, [], 0⟩
theorem tok20 : TOk Tryd.prog 20 ti20 := tok_mk (.nilIface) (by kernel_rfl) Tryd.underlying20 rfl rfl rfl rfl rfl (by kernel_rfl) rfl (by kernel_rfl)
/-- int32 -/
def ti21 : TI := ⟨(.int .i32), 1, 4, false, .int .i32 0, [], 0⟩
theorem tok21 : TOk Tryd.prog 21 ti21 := tok_mk (.int .i32 0) (by kernel_rfl) Tryd.underlying21 rfl rfl rfl rfl rfl (by kernel_rfl) rfl (by kernel_rfl)
/--   api.Def -/
def ti22 : TI := ⟨.slice, 1, 24, false, .slice [] .nil, [], 35⟩
theorem tok22 : TOk Tryd.prog 22 ti22 := tok_mk (.slice none 0 0) (by kernel_rfl) Tryd.underlying22 rfl rfl rfl rfl rfl (by kernel_rfl) rfl (by kernel_rfl)
/-- struct   Defs   api.Def  Query string  Mutation string   -/
def ti23 : TI := ⟨.struct, 3, 56, true, .agg [.slice [] .nil, .str [], .str []], [(0, 1, false), (1, 1, false), (2, 1, false)], 0⟩
theorem tok23 : TOk Tryd.prog 23 ti23 := tok_mk (.agg #[.slice none 0 0, .string ⟨#[]⟩, .string ⟨#[]⟩]) (by kernel_rfl) Tryd.underlying23 rfl rfl rfl rfl rfl (by kernel_rfl) rfl (by kernel_rfl)
/-- api.Schema -/
def ti24 : TI := ⟨.struct, 3, 56, true, .agg [.slice [] .nil, .str [], .str []], [(0, 1, false), (1, 1, false), (2, 1, false)], 0⟩
theorem tok24 : TOk Tryd.prog 24 ti24 := tok_mk (.agg #[.slice none 0 0, .string ⟨#[]⟩, .string ⟨#[]⟩]) (by kernel_rfl) Tryd.underlying24 rfl rfl rfl rfl rfl (by kernel_rfl) rfl (by kernel_rfl)
/--   api.Param -/
def ti25 : TI := ⟨.slice, 1, 24, false, .slice [] .nil, [], 45⟩
theorem tok25 : TOk Tryd.prog 25 ti25 := tok_mk (.slice none 0 0) (by kernel_rfl) Tryd.underlying25 rfl rfl rfl rfl rfl (by kernel_rfl) rfl (by kernel_rfl)
/--   api.Member -/
def ti26 : TI := ⟨.slice, 1, 24, false, .slice [] .nil, [], 47⟩
theorem tok26 : TOk Tryd.prog 26 ti26 := tok_mk (.slice none 0 0) (by kernel_rfl) Tryd.underlying26 rfl rfl rfl rfl rfl (by kernel_rfl) rfl (by kernel_rfl)
/--   api.Value -/
def ti28 : TI := ⟨.slice, 1, 24, false, .slice [] .nil, [], 30⟩
theorem tok28 : TOk Tryd.prog 28 ti28 := tok_mk (.slice none 0 0) (by kernel_rfl) Tryd.underlying28 rfl rfl rfl rfl rfl (by kernel_rfl) rfl (by kernel_rfl)
/-- struct   Kind int  N int64  S string  L   api.Value  M   api.Member   -/
def ti29 : TI := ⟨.struct, 5, 80, true, .agg [.int .i64 0, .int .i64 0, .str [], .slice [] .nil, .slice [] .nil], [(0, 1, false), (1, 1, false), (2, 1, false), (3, 1, false), (4, 1, false)], 0⟩
theorem tok29 : TOk Tryd.prog 29 ti29 := tok_mk (.agg #[.int .i64 0, .int .i64 0, .string ⟨#[]⟩, .slice none 0 0, .slice none 0 0]) (by kernel_rfl) Tryd.underlying29 rfl rfl rfl rfl rfl (by kernel_rfl) rfl (by kernel_rfl)
/-- api.Value -/
def ti30 : TI := ⟨.struct, 5, 80, true, .agg [.int .i64 0, .int .i64 0, .str [], .slice [] .nil, .slice [] .nil], [(0, 1, false), (1, 1, false), (2, 1, false), (3, 1, false), (4, 1, false)], 0⟩
theorem tok30 : TOk Tryd.prog 30 ti30 := tok_mk (.agg #[.int .i64 0, .int .i64 0, .string ⟨#[]⟩, .slice none 0 0, .slice none 0 0]) (by kernel_rfl) Tryd.underlying30 rfl rfl rfl rfl rfl (by kernel_rfl) rfl (by kernel_rfl)
/--   string -/
def ti32 : TI := ⟨.slice, 1, 24, false, .slice [] .nil, [], 9⟩
theorem tok32 : TOk Tryd.prog 32 ti32 := tok_mk (.slice none 0 0) (by kernel_rfl) Tryd.underlying32 rfl rfl rfl rfl rfl (by kernel_rfl) rfl (by kernel_rfl)
/--   api.FieldDef -/
def ti33 : TI := ⟨.slice, 1, 24, false, .slice [] .nil, [], 62⟩
theorem tok33 : TOk Tryd.prog 33 ti33 := tok_mk (.slice none 0 0) (by kernel_rfl) Tryd.underlying33 rfl rfl rfl rfl rfl (by kernel_rfl) rfl (by kernel_rfl)
/-- struct   Kind int  Name string  Faces   string  Fields   api.FieldDef  Parts   s -/
def ti34 : TI := ⟨.struct, 6, 120, true, .agg [.int .i64 0, .str [], .slice [] .nil, .slice [] .nil, .slice [] .nil, .slice [] .nil], [(0, 1, false), (1, 1, false), (2, 1, false), (3, 1, false), (4, 1, false), (5, 1, false)], 0⟩
theorem tok34 : TOk Tryd.prog 34 ti34 := tok_mk (.agg #[.int .i64 0, .string ⟨#[]⟩, .slice none 0 0, .slice none 0 0, .slice none 0 0, .slice none 0 0]) (by kernel_rfl) Tryd.underlying34 rfl rfl rfl rfl rfl (by kernel_rfl) rfl (by kernel_rfl)
/-- api.Def -/
def ti35 : TI := ⟨.struct, 6, 120, true, .agg [.int .i64 0, .str [], .slice [] .nil, .slice [] .nil, .slice [] .nil, .slice [] .nil], [(0, 1, false), (1, 1, false), (2, 1, false), (3, 1, false), (4, 1, false), (5, 1, false)], 0⟩
theorem tok35 : TOk Tryd.prog 35 ti35 := tok_mk (.agg #[.int .i64 0, .string ⟨#[]⟩, .slice none 0 0, .slice none 0 0, .slice none 0 0, .slice none 0 0]) (by kernel_rfl) Tryd.underlying35 rfl rfl rfl rfl rfl (by kernel_rfl) rfl (by kernel_rfl)
/-- api.Errno -/
def ti37 : TI := ⟨(.int .i64), 1, 8, false, .int .i64 0, [], 0⟩
theorem tok37 : TOk Tryd.prog 37 ti37 := tok_mk (.int .i64 0) (by kernel_rfl) Tryd.underlying37 rfl rfl rfl rfl rfl (by kernel_rfl) rfl (by kernel_rfl)
/-- struct   Name string  Lists int  Musts int   -/
def ti42 : TI := ⟨.struct, 3, 32, true, .agg [.str [], .int .i64 0, .int .i64 0], [(0, 1, false), (1, 1, false), (2, 1, false)], 0⟩
theorem tok42 : TOk Tryd.prog 42 ti42 := tok_mk (.agg #[.string ⟨#[]⟩, .int .i64 0, .int .i64 0]) (by kernel_rfl) Tryd.underlying42 rfl rfl rfl rfl rfl (by kernel_rfl) rfl (by kernel_rfl)
/-- api.Type -/
def ti43 : TI := ⟨.struct, 3, 32, true, .agg [.str [], .int .i64 0, .int .i64 0], [(0, 1, false), (1, 1, false), (2, 1, false)], 0⟩
theorem tok43 : TOk Tryd.prog 43 ti43 := tok_mk (.agg #[.string ⟨#[]⟩, .int .i64 0, .int .i64 0]) (by kernel_rfl) Tryd.underlying43 rfl rfl rfl rfl rfl (by kernel_rfl) rfl (by kernel_rfl)
/-- struct   Name string  T api.Type  Has bool  Default api.Value   -/
def ti44 : TI := ⟨.struct, 10, 136, true, .agg [.str [], .str [], .int .i64 0, .int .i64 0, .bool false, .int .i64 0, .int .i64 0, .str [], .slice [] .nil, .slice [] .nil], [(0, 1, false), (1, 3, true), (4, 1, false), (5, 5, true)], 0⟩
theorem tok44 : TOk Tryd.prog 44 ti44 := tok_mk (.agg #[.string ⟨#[]⟩, .string ⟨#[]⟩, .int .i64 0, .int .i64 0, .bool false, .int .i64 0, .int .i64 0, .string ⟨#[]⟩, .slice none 0 0, .slice none 0 0]) (by kernel_rfl) Tryd.underlying44 rfl rfl rfl rfl rfl (by kernel_rfl) rfl (by kernel_rfl)
/-- api.Param -/
def ti45 : TI := ⟨.struct, 10, 136, true, .agg [.str [], .str [], .int .i64 0, .int .i64 0, .bool false, .int .i64 0, .int .i64 0, .str [], .slice [] .nil, .slice [] .nil], [(0, 1, false), (1, 3, true), (4, 1, false), (5, 5, true)], 0⟩
theorem tok45 : TOk Tryd.prog 45 ti45 := tok_mk (.agg #[.string ⟨#[]⟩, .string ⟨#[]⟩, .int .i64 0, .int .i64 0, .bool false, .int .i64 0, .int .i64 0, .string ⟨#[]⟩, .slice none 0 0, .slice none 0 0]) (by kernel_rfl) Tryd.underlying45 rfl rfl rfl rfl rfl (by kernel_rfl) rfl (by kernel_rfl)
/-- struct   Name string  V api.Value   -/
def ti46 : TI := ⟨.struct, 6, 96, true, .agg [.str [], .int .i64 0, .int .i64 0, .str [], .slice [] .nil, .slice [] .nil], [(0, 1, false), (1, 5, true)], 0⟩
theorem tok46 : TOk Tryd.prog 46 ti46 := tok_mk (.agg #[.string ⟨#[]⟩, .int .i64 0, .int .i64 0, .string ⟨#[]⟩, .slice none 0 0, .slice none 0 0]) (by kernel_rfl) Tryd.underlying46 rfl rfl rfl rfl rfl (by kernel_rfl) rfl (by kernel_rfl)
/-- api.Member -/
def ti47 : TI := ⟨.struct, 6, 96, true, .agg [.str [], .int .i64 0, .int .i64 0, .str [], .slice [] .nil, .slice [] .nil], [(0, 1, false), (1, 5, true)], 0⟩
theorem tok47 : TOk Tryd.prog 47 ti47 := tok_mk (.agg #[.string ⟨#[]⟩, .int .i64 0, .int .i64 0, .string ⟨#[]⟩, .slice none 0 0, .slice none 0 0]) (by kernel_rfl) Tryd.underlying47 rfl rfl rfl rfl rfl (by kernel_rfl) rfl (by kernel_rfl)
/--   api.Dir -/
def ti60 : TI := ⟨.slice, 1, 24, false, .slice [] .nil, [], 74⟩
theorem tok60 : TOk Tryd.prog 60 ti60 := tok_mk (.slice none 0 0) (by kernel_rfl) Tryd.underlying60 rfl rfl rfl rfl rfl (by kernel_rfl) rfl (by kernel_rfl)
/-- struct   Name string  Params   api.Param  T api.Type  Dirs   api.Dir   -/
def ti61 : TI := ⟨.struct, 6, 96, true, .agg [.str [], .slice [] .nil, .str [], .int .i64 0, .int .i64 0, .slice [] .nil], [(0, 1, false), (1, 1, false), (2, 3, true), (5, 1, false)], 0⟩
theorem tok61 : TOk Tryd.prog 61 ti61 := tok_mk (.agg #[.string ⟨#[]⟩, .slice none 0 0, .string ⟨#[]⟩, .int .i64 0, .int .i64 0, .slice none 0 0]) (by kernel_rfl) Tryd.underlying61 rfl rfl rfl rfl rfl (by kernel_rfl) rfl (by kernel_rfl)
/-- api.FieldDef -/
def ti62 : TI := ⟨.struct, 6, 96, true, .agg [.str [], .slice [] .nil, .str [], .int .i64 0, .int .i64 0, .slice [] .nil], [(0, 1, false), (1, 1, false), (2, 3, true), (5, 1, false)], 0⟩
theorem tok62 : TOk Tryd.prog 62 ti62 := tok_mk (.agg #[.string ⟨#[]⟩, .slice none 0 0, .string ⟨#[]⟩, .int .i64 0, .int .i64 0, .slice none 0 0]) (by kernel_rfl) Tryd.underlying62 rfl rfl rfl rfl rfl (by kernel_rfl) rfl (by kernel_rfl)
/-- struct   s api.Schema  written bool  within bool  env   api.Member   -/
def ti64 : TI := ⟨.struct, 6, 88, true, .agg [.slice [] .nil, .str [], .str [], .bool false, .bool false, .slice [] .nil], [(0, 3, true), (3, 1, false), (4, 1, false), (5, 1, false)], 0⟩
theorem tok64 : TOk Tryd.prog 64 ti64 := tok_mk (.agg #[.slice none 0 0, .string ⟨#[]⟩, .string ⟨#[]⟩, .bool false, .bool false, .slice none 0 0]) (by kernel_rfl) Tryd.underlying64 rfl rfl rfl rfl rfl (by kernel_rfl) rfl (by kernel_rfl)
/-- coerce.maker -/
def ti65 : TI := ⟨.struct, 6, 88, true, .agg [.slice [] .nil, .str [], .str [], .bool false, .bool false, .slice [] .nil], [(0, 3, true), (3, 1, false), (4, 1, false), (5, 1, false)], 0⟩
theorem tok65 : TOk Tryd.prog 65 ti65 := tok_mk (.agg #[.slice none 0 0, .string ⟨#[]⟩, .string ⟨#[]⟩, .bool false, .bool false, .slice none 0 0]) (by kernel_rfl) Tryd.underlying65 rfl rfl rfl rfl rfl (by kernel_rfl) rfl (by kernel_rfl)
/-- struct   Name string  Args   api.Member   -/
def ti73 : TI := ⟨.struct, 2, 40, true, .agg [.str [], .slice [] .nil], [(0, 1, false), (1, 1, false)], 0⟩
theorem tok73 : TOk Tryd.prog 73 ti73 := tok_mk (.agg #[.string ⟨#[]⟩, .slice none 0 0]) (by kernel_rfl) Tryd.underlying73 rfl rfl rfl rfl rfl (by kernel_rfl) rfl (by kernel_rfl)
/-- api.Dir -/
def ti74 : TI := ⟨.struct, 2, 40, true, .agg [.str [], .slice [] .nil], [(0, 1, false), (1, 1, false)], 0⟩
theorem tok74 : TOk Tryd.prog 74 ti74 := tok_mk (.agg #[.string ⟨#[]⟩, .slice none 0 0]) (by kernel_rfl) Tryd.underlying74 rfl rfl rfl rfl rfl (by kernel_rfl) rfl (by kernel_rfl)
/-- uint -/
def ti87 : TI := ⟨(.int .u64), 1, 8, false, .int .u64 0, [], 0⟩
theorem tok87 : TOk Tryd.prog 87 ti87 := tok_mk (.int .u64 0) (by kernel_rfl) Tryd.underlying87 rfl rfl rfl rfl rfl (by kernel_rfl) rfl (by kernel_rfl)
/--   int -/
def ti93 : TI := ⟨.slice, 1, 24, false, .slice [] .nil, [], 3⟩
theorem tok93 : TOk Tryd.prog 93 ti93 := tok_mk (.slice none 0 0) (by kernel_rfl) Tryd.underlying93 rfl rfl rfl rfl rfl (by kernel_rfl) rfl (by kernel_rfl)
/-- struct   lo uint8  hi uint8   -/
def ti97 : TI := ⟨.struct, 2, 2, true, .agg [.int .u8 0, .int .u8 0], [(0, 1, false), (1, 1, false)], 0⟩
theorem tok97 : TOk Tryd.prog 97 ti97 := tok_mk (.agg #[.int .u8 0, .int .u8 0]) (by kernel_rfl) Tryd.underlying97 rfl rfl rfl rfl rfl (by kernel_rfl) rfl (by kernel_rfl)
/-- utf8.acceptRange -/
def ti98 : TI := ⟨.struct, 2, 2, true, .agg [.int .u8 0, .int .u8 0], [(0, 1, false), (1, 1, false)], 0⟩
theorem tok98 : TOk Tryd.prog 98 ti98 := tok_mk (.agg #[.int .u8 0, .int .u8 0]) (by kernel_rfl) Tryd.underlying98 rfl rfl rfl rfl rfl (by kernel_rfl) rfl (by kernel_rfl)
/--  16 utf8.acceptRange -/
def ti99 : TI := ⟨(.array 16), 32, 32, true, .agg [.int .u8 0, .int .u8 0, .int .u8 0, .int .u8 0, .int .u8 0, .int .u8 0, .int .u8 0, .int .u8 0, .int .u8 0, .int .u8 0, .int .u8 0, .int .u8 0, .int .u8 0, .int .u8 0, .int .u8 0, .int .u8 0, .int .u8 0, .int .u8 0, .int .u8 0, .int .u8 0, .int .u8 0, .int .u8 0, .int .u8 0, .int .u8 0, .int .u8 0, .int .u8 0, .int .u8 0, .int .u8 0, .int .u8 0, .int .u8 0, .int .u8 0, .int .u8 0], [], 98⟩
theorem tok99 : TOk Tryd.prog 99 ti99 := tok_mk (.agg #[.int .u8 0, .int .u8 0, .int .u8 0, .int .u8 0, .int .u8 0, .int .u8 0, .int .u8 0, .int .u8 0, .int .u8 0, .int .u8 0, .int .u8 0, .int .u8 0, .int .u8 0, .int .u8 0, .int .u8 0, .int .u8 0, .int .u8 0, .int .u8 0, .int .u8 0, .int .u8 0, .int .u8 0, .int .u8 0, .int .u8 0, .int .u8 0, .int .u8 0, .int .u8 0, .int .u8 0, .int .u8 0, .int .u8 0, .int .u8 0, .int .u8 0, .int .u8 0]) (by kernel_rfl) Tryd.underlying99 rfl rfl rfl rfl rfl (by kernel_rfl) rfl (by kernel_rfl)
/-- uint64 -/
def ti107 : TI := ⟨(.int .u64), 1, 8, false, .int .u64 0, [], 0⟩
theorem tok107 : TOk Tryd.prog 107 ti107 := tok_mk (.int .u64 0) (by kernel_rfl) Tryd.underlying107 rfl rfl rfl rfl rfl (by kernel_rfl) rfl (by kernel_rfl)
/--  24 uint8 -/
def ti109 : TI := ⟨(.array 24), 24, 24, true, .agg [.int .u8 0, .int .u8 0, .int .u8 0, .int .u8 0, .int .u8 0, .int .u8 0, .int .u8 0, .int .u8 0, .int .u8 0, .int .u8 0, .int .u8 0, .int .u8 0, .int .u8 0, .int .u8 0, .int .u8 0, .int .u8 0, .int .u8 0, .int .u8 0, .int .u8 0, .int .u8 0, .int .u8 0, .int .u8 0, .int .u8 0, .int .u8 0], [], 5⟩
theorem tok109 : TOk Tryd.prog 109 ti109 := tok_mk (.agg #[.int .u8 0, .int .u8 0, .int .u8 0, .int .u8 0, .int .u8 0, .int .u8 0, .int .u8 0, .int .u8 0, .int .u8 0, .int .u8 0, .int .u8 0, .int .u8 0, .int .u8 0, .int .u8 0, .int .u8 0, .int .u8 0, .int .u8 0, .int .u8 0, .int .u8 0, .int .u8 0, .int .u8 0, .int .u8 0, .int .u8 0, .int .u8 0]) (by kernel_rfl) Tryd.underlying109 rfl rfl rfl rfl rfl (by kernel_rfl) rfl (by kernel_rfl)
/--   uint8 -/
def ti112 : TI := ⟨.slice, 1, 24, false, .slice [] .nil, [], 5⟩
theorem tok112 : TOk Tryd.prog 112 ti112 := tok_mk (.slice none 0 0) (by kernel_rfl) Tryd.underlying112 rfl rfl rfl rfl rfl (by kernel_rfl) rfl (by kernel_rfl)
/-- interface   Error   string   -/
def ti117 : TI := ⟨.iface, 1, 16, false, .nili, [], 0⟩
theorem tok117 : TOk Tryd.prog 117 ti117 := tok_mk (.nilIface) (by kernel_rfl) Tryd.underlying117 rfl rfl rfl rfl rfl (by kernel_rfl) rfl (by kernel_rfl)
/-- error -/
def ti118 : TI := ⟨.iface, 1, 16, false, .nili, [], 0⟩
theorem tok118 : TOk Tryd.prog 118 ti118 := tok_mk (.nilIface) (by kernel_rfl) Tryd.underlying118 rfl rfl rfl rfl rfl (by kernel_rfl) rfl (by kernel_rfl)
/--  20 uint64 -/
def ti123 : TI := ⟨(.array 20), 20, 160, true, .agg [.int .u64 0, .int .u64 0, .int .u64 0, .int .u64 0, .int .u64 0, .int .u64 0, .int .u64 0, .int .u64 0, .int .u64 0, .int .u64 0, .int .u64 0, .int .u64 0, .int .u64 0, .int .u64 0, .int .u64 0, .int .u64 0, .int .u64 0, .int .u64 0, .int .u64 0, .int .u64 0], [], 107⟩
theorem tok123 : TOk Tryd.prog 123 ti123 := tok_mk (.agg #[.int .u64 0, .int .u64 0, .int .u64 0, .int .u64 0, .int .u64 0, .int .u64 0, .int .u64 0, .int .u64 0, .int .u64 0, .int .u64 0, .int .u64 0, .int .u64 0, .int .u64 0, .int .u64 0, .int .u64 0, .int .u64 0, .int .u64 0, .int .u64 0, .int .u64 0, .int .u64 0]) (by kernel_rfl) Tryd.underlying123 rfl rfl rfl rfl rfl (by kernel_rfl) rfl (by kernel_rfl)
/-- uint32 -/
def ti124 : TI := ⟨(.int .u32), 1, 4, false, .int .u32 0, [], 0⟩
theorem tok124 : TOk Tryd.prog 124 ti124 := tok_mk (.int .u32 0) (by kernel_rfl) Tryd.underlying124 rfl rfl rfl rfl rfl (by kernel_rfl) rfl (by kernel_rfl)
/-- strconv.Error -/
def ti131 : TI := ⟨(.int .i64), 1, 8, false, .int .i64 0, [], 0⟩
theorem tok131 : TOk Tryd.prog 131 ti131 := tok_mk (.int .i64 0) (by kernel_rfl) Tryd.underlying131 rfl rfl rfl rfl rfl (by kernel_rfl) rfl (by kernel_rfl)
/--  strconv.NumError -/
def ti134 : TI := ⟨.pointer, 1, 8, false, .nilp, [], 142⟩
theorem tok134 : TOk Tryd.prog 134 ti134 := tok_mk (.pointer none) (by kernel_rfl) Tryd.underlying134 rfl rfl rfl rfl rfl (by kernel_rfl) rfl (by kernel_rfl)
/--  32 uint8 -/
def ti137 : TI := ⟨(.array 32), 32, 32, true, .agg [.int .u8 0, .int .u8 0, .int .u8 0, .int .u8 0, .int .u8 0, .int .u8 0, .int .u8 0, .int .u8 0, .int .u8 0, .int .u8 0, .int .u8 0, .int .u8 0, .int .u8 0, .int .u8 0, .int .u8 0, .int .u8 0, .int .u8 0, .int .u8 0, .int .u8 0, .int .u8 0, .int .u8 0, .int .u8 0, .int .u8 0, .int .u8 0, .int .u8 0, .int .u8 0, .int .u8 0, .int .u8 0, .int .u8 0, .int .u8 0, .int .u8 0, .int .u8 0], [], 5⟩
theorem tok137 : TOk Tryd.prog 137 ti137 := tok_mk (.agg #[.int .u8 0, .int .u8 0, .int .u8 0, .int .u8 0, .int .u8 0, .int .u8 0, .int .u8 0, .int .u8 0, .int .u8 0, .int .u8 0, .int .u8 0, .int .u8 0, .int .u8 0, .int .u8 0, .int .u8 0, .int .u8 0, .int .u8 0, .int .u8 0, .int .u8 0, .int .u8 0, .int .u8 0, .int .u8 0, .int .u8 0, .int .u8 0, .int .u8 0, .int .u8 0, .int .u8 0, .int .u8 0, .int .u8 0, .int .u8 0, .int .u8 0, .int .u8 0]) (by kernel_rfl) Tryd.underlying137 rfl rfl rfl rfl rfl (by kernel_rfl) rfl (by kernel_rfl)
/--  64 uint8 -/
def ti138 : TI := ⟨(.array 64), 64, 64, true, .agg [.int .u8 0, .int .u8 0, .int .u8 0, .int .u8 0, .int .u8 0, .int .u8 0, .int .u8 0, .int .u8 0, .int .u8 0, .int .u8 0, .int .u8 0, .int .u8 0, .int .u8 0, .int .u8 0, .int .u8 0, .int .u8 0, .int .u8 0, .int .u8 0, .int .u8 0, .int .u8 0, .int .u8 0, .int .u8 0, .int .u8 0, .int .u8 0, .int .u8 0, .int .u8 0, .int .u8 0, .int .u8 0, .int .u8 0, .int .u8 0, .int .u8 0, .int .u8 0, .int .u8 0, .int .u8 0, .int .u8 0, .int .u8 0, .int .u8 0, .int .u8 0, .int .u8 0, .int .u8 0, .int .u8 0, .int .u8 0, .int .u8 0, .int .u8 0, .int .u8 0, .int .u8 0, .int .u8 0, .int .u8 0, .int .u8 0, .int .u8 0, .int .u8 0, .int .u8 0, .int .u8 0, .int .u8 0, .int .u8 0, .int .u8 0, .int .u8 0, .int .u8 0, .int .u8 0, .int .u8 0, .int .u8 0, .int .u8 0, .int .u8 0, .int .u8 0], [], 5⟩
theorem tok138 : TOk Tryd.prog 138 ti138 := tok_mk (.agg #[.int .u8 0, .int .u8 0, .int .u8 0, .int .u8 0, .int .u8 0, .int .u8 0, .int .u8 0, .int .u8 0, .int .u8 0, .int .u8 0, .int .u8 0, .int .u8 0, .int .u8 0, .int .u8 0, .int .u8 0, .int .u8 0, .int .u8 0, .int .u8 0, .int .u8 0, .int .u8 0, .int .u8 0, .int .u8 0, .int .u8 0, .int .u8 0, .int .u8 0, .int .u8 0, .int .u8 0, .int .u8 0, .int .u8 0, .int .u8 0, .int .u8 0, .int .u8 0, .int .u8 0, .int .u8 0, .int .u8 0, .int .u8 0, .int .u8 0, .int .u8 0, .int .u8 0, .int .u8 0, .int .u8 0, .int .u8 0, .int .u8 0, .int .u8 0, .int .u8 0, .int .u8 0, .int .u8 0, .int .u8 0, .int .u8 0, .int .u8 0, .int .u8 0, .int .u8 0, .int .u8 0, .int .u8 0, .int .u8 0, .int .u8 0, .int .u8 0, .int .u8 0, .int .u8 0, .int .u8 0, .int .u8 0, .int .u8 0, .int .u8 0, .int .u8 0]) (by kernel_rfl) Tryd.underlying138 rfl rfl rfl rfl rfl (by kernel_rfl) rfl (by kernel_rfl)
/-- struct   Func string  Num string  Err error   -/
def ti141 : TI := ⟨.struct, 3, 48, true, .agg [.str [], .str [], .nili], [(0, 1, false), (1, 1, false), (2, 1, false)], 0⟩
theorem tok141 : TOk Tryd.prog 141 ti141 := tok_mk (.agg #[.string ⟨#[]⟩, .string ⟨#[]⟩, .nilIface]) (by kernel_rfl) Tryd.underlying141 rfl rfl rfl rfl rfl (by kernel_rfl) rfl (by kernel_rfl)
/-- strconv.NumError -/
def ti142 : TI := ⟨.struct, 3, 48, true, .agg [.str [], .str [], .nili], [(0, 1, false), (1, 1, false), (2, 1, false)], 0⟩
theorem tok142 : TOk Tryd.prog 142 ti142 := tok_mk (.agg #[.string ⟨#[]⟩, .string ⟨#[]⟩, .nilIface]) (by kernel_rfl) Tryd.underlying142 rfl rfl rfl rfl rfl (by kernel_rfl) rfl (by kernel_rfl)
/--  uint8 -/
def ti144 : TI := ⟨.pointer, 1, 8, false, .nilp, [], 5⟩
theorem tok144 : TOk Tryd.prog 144 ti144 := tok_mk (.pointer none) (by kernel_rfl) Tryd.underlying144 rfl rfl rfl rfl rfl (by kernel_rfl) rfl (by kernel_rfl)
/--  errors.errorString -/
def ti145 : TI := ⟨.pointer, 1, 8, false, .nilp, [], 147⟩
theorem tok145 : TOk Tryd.prog 145 ti145 := tok_mk (.pointer none) (by kernel_rfl) Tryd.underlying145 rfl rfl rfl rfl rfl (by kernel_rfl) rfl (by kernel_rfl)
/-- struct   s string   -/
def ti146 : TI := ⟨.struct, 1, 16, true, .agg [.str []], [(0, 1, false)], 0⟩
theorem tok146 : TOk Tryd.prog 146 ti146 := tok_mk (.agg #[.string ⟨#[]⟩]) (by kernel_rfl) Tryd.underlying146 rfl rfl rfl rfl rfl (by kernel_rfl) rfl (by kernel_rfl)
/-- errors.errorString -/
def ti147 : TI := ⟨.struct, 1, 16, true, .agg [.str []], [(0, 1, false)], 0⟩
theorem tok147 : TOk Tryd.prog 147 ti147 := tok_mk (.agg #[.string ⟨#[]⟩]) (by kernel_rfl) Tryd.underlying147 rfl rfl rfl rfl rfl (by kernel_rfl) rfl (by kernel_rfl)
def table : List (Nat × TI) := [(2, ⟨(.int .i64), 1, 8, false, .int .i64 0, [], 0⟩), (3, ⟨(.int .i64), 1, 8, false, .int .i64 0, [], 0⟩), (4, ⟨.bool, 1, 1, false, .bool false, [], 0⟩), (5, ⟨(.int .u8), 1, 1, false, .int .u8 0, [], 0⟩), (9, ⟨.string, 1, 16, false, .str [], [], 0⟩), (12, ⟨(.int .u64), 1, 8, false, .int .u64 0, [], 0⟩), (13, ⟨.struct, 2, 24, true, .agg [.str [], .int .u64 0], [(0, 1, false), (1, 1, false)], 0⟩), (20, ⟨.iface, 1, 16, false, .nili, [], 0⟩), (21, ⟨(.int .i32), 1, 4, false, .int .i32 0, [], 0⟩), (22, ⟨.slice, 1, 24, false, .slice [] .nil, [], 35⟩), (23, ⟨.struct, 3, 56, true, .agg [.slice [] .nil, .str [], .str []], [(0, 1, false), (1, 1, false), (2, 1, false)], 0⟩), (24, ⟨.struct, 3, 56, true, .agg [.slice [] .nil, .str [], .str []], [(0, 1, false), (1, 1, false), (2, 1, false)], 0⟩), (25, ⟨.slice, 1, 24, false, .slice [] .nil, [], 45⟩), (26, ⟨.slice, 1, 24, false, .slice [] .nil, [], 47⟩), (28, ⟨.slice, 1, 24, false, .slice [] .nil, [], 30⟩), (29, ⟨.struct, 5, 80, true, .agg [.int .i64 0, .int .i64 0, .str [], .slice [] .nil, .slice [] .nil], [(0, 1, false), (1, 1, false), (2, 1, false), (3, 1, false), (4, 1, false)], 0⟩), (30, ⟨.struct, 5, 80, true, .agg [.int .i64 0, .int .i64 0, .str [], .slice [] .nil, .slice [] .nil], [(0, 1, false), (1, 1, false), (2, 1, false), (3, 1, false), (4, 1, false)], 0⟩), (32, ⟨.slice, 1, 24, false, .slice [] .nil, [], 9⟩), (33, ⟨.slice, 1, 24, false, .slice [] .nil, [], 62⟩), (34, ⟨.struct, 6, 120, true, .agg [.int .i64 0, .str [], .slice [] .nil, .slice [] .nil, .slice [] .nil, .slice [] .nil], [(0, 1, false), (1, 1, false), (2, 1, false), (3, 1, false), (4, 1, false), (5, 1, false)], 0⟩), (35, ⟨.struct, 6, 120, true, .agg [.int .i64 0, .str [], .slice [] .nil, .slice [] .nil, .slice [] .nil, .slice [] .nil], [(0, 1, false), (1, 1, false), (2, 1, false), (3, 1, false), (4, 1, false), (5, 1, false)], 0⟩), (37, ⟨(.int .i64), 1, 8, false, .int .i64 0, [], 0⟩), (42, ⟨.struct, 3, 32, true, .agg [.str [], .int .i64 0, .int .i64 0], [(0, 1, false), (1, 1, false), (2, 1, false)], 0⟩), (43, ⟨.struct, 3, 32, true, .agg [.str [], .int .i64 0, .int .i64 0], [(0, 1, false), (1, 1, false), (2, 1, false)], 0⟩), (44, ⟨.struct, 10, 136, true, .agg [.str [], .str [], .int .i64 0, .int .i64 0, .bool false, .int .i64 0, .int .i64 0, .str [], .slice [] .nil, .slice [] .nil], [(0, 1, false), (1, 3, true), (4, 1, false), (5, 5, true)], 0⟩), (45, ⟨.struct, 10, 136, true, .agg [.str [], .str [], .int .i64 0, .int .i64 0, .bool false, .int .i64 0, .int .i64 0, .str [], .slice [] .nil, .slice [] .nil], [(0, 1, false), (1, 3, true), (4, 1, false), (5, 5, true)], 0⟩), (46, ⟨.struct, 6, 96, true, .agg [.str [], .int .i64 0, .int .i64 0, .str [], .slice [] .nil, .slice [] .nil], [(0, 1, false), (1, 5, true)], 0⟩), (47, ⟨.struct, 6, 96, true, .agg [.str [], .int .i64 0, .int .i64 0, .str [], .slice [] .nil, .slice [] .nil], [(0, 1, false), (1, 5, true)], 0⟩), (60, ⟨.slice, 1, 24, false, .slice [] .nil, [], 74⟩), (61, ⟨.struct, 6, 96, true, .agg [.str [], .slice [] .nil, .str [], .int .i64 0, .int .i64 0, .slice [] .nil], [(0, 1, false), (1, 1, false), (2, 3, true), (5, 1, false)], 0⟩), (62, ⟨.struct, 6, 96, true, .agg [.str [], .slice [] .nil, .str [], .int .i64 0, .int .i64 0, .slice [] .nil], [(0, 1, false), (1, 1, false), (2, 3, true), (5, 1, false)], 0⟩), (64, ⟨.struct, 6, 88, true, .agg [.slice [] .nil, .str [], .str [], .bool false, .bool false, .slice [] .nil], [(0, 3, true), (3, 1, false), (4, 1, false), (5, 1, false)], 0⟩), (65, ⟨.struct, 6, 88, true, .agg [.slice [] .nil, .str [], .str [], .bool false, .bool false, .slice [] .nil], [(0, 3, true), (3, 1, false), (4, 1, false), (5, 1, false)], 0⟩), (73, ⟨.struct, 2, 40, true, .agg [.str [], .slice [] .nil], [(0, 1, false), (1, 1, false)], 0⟩), (74, ⟨.struct, 2, 40, true, .agg [.str [], .slice [] .nil], [(0, 1, false), (1, 1, false)], 0⟩), (87, ⟨(.int .u64), 1, 8, false, .int .u64 0, [], 0⟩), (93, ⟨.slice, 1, 24, false, .slice [] .nil, [], 3⟩), (97, ⟨.struct, 2, 2, true, .agg [.int .u8 0, .int .u8 0], [(0, 1, false), (1, 1, false)], 0⟩), (98, ⟨.struct, 2, 2, true, .agg [.int .u8 0, .int .u8 0], [(0, 1, false), (1, 1, false)], 0⟩), (99, ⟨(.array 16), 32, 32, true, .agg [.int .u8 0, .int .u8 0, .int .u8 0, .int .u8 0, .int .u8 0, .int .u8 0, .int .u8 0, .int .u8 0, .int .u8 0, .int .u8 0, .int .u8 0, .int .u8 0, .int .u8 0, .int .u8 0, .int .u8 0, .int .u8 0, .int .u8 0, .int .u8 0, .int .u8 0, .int .u8 0, .int .u8 0, .int .u8 0, .int .u8 0, .int .u8 0, .int .u8 0, .int .u8 0, .int .u8 0, .int .u8 0, .int .u8 0, .int .u8 0, .int .u8 0, .int .u8 0], [], 98⟩), (107, ⟨(.int .u64), 1, 8, false, .int .u64 0, [], 0⟩), (109, ⟨(.array 24), 24, 24, true, .agg [.int .u8 0, .int .u8 0, .int .u8 0, .int .u8 0, .int .u8 0, .int .u8 0, .int .u8 0, .int .u8 0, .int .u8 0, .int .u8 0, .int .u8 0, .int .u8 0, .int .u8 0, .int .u8 0, .int .u8 0, .int .u8 0, .int .u8 0, .int .u8 0, .int .u8 0, .int .u8 0, .int .u8 0, .int .u8 0, .int .u8 0, .int .u8 0], [], 5⟩), (112, ⟨.slice, 1, 24, false, .slice [] .nil, [], 5⟩), (117, ⟨.iface, 1, 16, false, .nili, [], 0⟩), (118, ⟨.iface, 1, 16, false, .nili, [], 0⟩), (123, ⟨(.array 20), 20, 160, true, .agg [.int .u64 0, .int .u64 0, .int .u64 0, .int .u64 0, .int .u64 0, .int .u64 0, .int .u64 0, .int .u64 0, .int .u64 0, .int .u64 0, .int .u64 0, .int .u64 0, .int .u64 0, .int .u64 0, .int .u64 0, .int .u64 0, .int .u64 0, .int .u64 0, .int .u64 0, .int .u64 0], [], 107⟩), (124, ⟨(.int .u32), 1, 4, false, .int .u32 0, [], 0⟩), (131, ⟨(.int .i64), 1, 8, false, .int .i64 0, [], 0⟩), (134, ⟨.pointer, 1, 8, false, .nilp, [], 142⟩), (137, ⟨(.array 32), 32, 32, true, .agg [.int .u8 0, .int .u8 0, .int .u8 0, .int .u8 0, .int .u8 0, .int .u8 0, .int .u8 0, .int .u8 0, .int .u8 0, .int .u8 0, .int .u8 0, .int .u8 0, .int .u8 0, .int .u8 0, .int .u8 0, .int .u8 0, .int .u8 0, .int .u8 0, .int .u8 0, .int .u8 0, .int .u8 0, .int .u8 0, .int .u8 0, .int .u8 0, .int .u8 0, .int .u8 0, .int .u8 0, .int .u8 0, .int .u8 0, .int .u8 0, .int .u8 0, .int .u8 0], [], 5⟩), (138, ⟨(.array 64), 64, 64, true, .agg [.int .u8 0, .int .u8 0, .int .u8 0, .int .u8 0, .int .u8 0, .int .u8 0, .int .u8 0, .int .u8 0, .int .u8 0, .int .u8 0, .int .u8 0, .int .u8 0, .int .u8 0, .int .u8 0, .int .u8 0, .int .u8 0, .int .u8 0, .int .u8 0, .int .u8 0, .int .u8 0, .int .u8 0, .int .u8 0, .int .u8 0, .int .u8 0, .int .u8 0, .int .u8 0, .int .u8 0, .int .u8 0, .int .u8 0, .int .u8 0, .int .u8 0, .int .u8 0, .int .u8 0, .int .u8 0, .int .u8 0, .int .u8 0, .int .u8 0, .int .u8 0, .int .u8 0, .int .u8 0, .int .u8 0, .int .u8 0, .int .u8 0, .int .u8 0, .int .u8 0, .int .u8 0, .int .u8 0, .int .u8 0, .int .u8 0, .int .u8 0, .int .u8 0, .int .u8 0, .int .u8 0, .int .u8 0, .int .u8 0, .int .u8 0, .int .u8 0, .int .u8 0, .int .u8 0, .int .u8 0, .int .u8 0, .int .u8 0, .int .u8 0, .int .u8 0], [], 5⟩), (141, ⟨.struct, 3, 48, true, .agg [.str [], .str [], .nili], [(0, 1, false), (1, 1, false), (2, 1, false)], 0⟩), (142, ⟨.struct, 3, 48, true, .agg [.str [], .str [], .nili], [(0, 1, false), (1, 1, false), (2, 1, false)], 0⟩), (144, ⟨.pointer, 1, 8, false, .nilp, [], 5⟩), (145, ⟨.pointer, 1, 8, false, .nilp, [], 147⟩), (146, ⟨.struct, 1, 16, true, .agg [.str []], [(0, 1, false)], 0⟩), (147, ⟨.struct, 1, 16, true, .agg [.str []], [(0, 1, false)], 0⟩)]
theorem table_ok : LayOk Tryd.prog table := ⟨tok2, tok3, tok4, tok5, tok9, tok12, tok13, tok20, tok21, tok22, tok23, tok24, tok25, tok26, tok28, tok29, tok30, tok32, tok33, tok34, tok35, tok37, tok42, tok43, tok44, tok45, tok46, tok47, tok60, tok61, tok62, tok64, tok65, tok73, tok74, tok87, tok93, tok97, tok98, tok99, tok107, tok109, tok112, tok117, tok118, tok123, tok124, tok131, tok134, tok137, tok138, tok141, tok142, tok144, tok145, tok146, tok147, trivial⟩
instance : Lay Tryd.prog := ⟨table, table_ok, Tryd.checked.mixed⟩
end Go.Proofs.YtpidjkihngiaoaaDoor
