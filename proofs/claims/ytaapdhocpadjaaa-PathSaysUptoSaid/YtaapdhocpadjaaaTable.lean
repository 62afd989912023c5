/-
  The table of this seat's types, written by a program of the prover's (genlay.py): closed facts.
-/
import Derived.Test.YtaapdhocpadjaaaRows
import Derived.Test.YtaapdhocpadjaaaAvLay
namespace Go.Proofs.Ytaapdhocpadjaaa
open Go Go.Av
set_option maxRecDepth 100000

/-- int64 -/
def ti2 : TI := ⟨(.int .i64), 1, 8, false, .int .i64 0, [], 0⟩
theorem tok2 : TOk Try.prog 2 ti2 := tok_mk (.int .i64 0) (by kernel_rfl) Try.underlying2 rfl rfl rfl rfl rfl (by kernel_rfl) rfl (by kernel_rfl)
/-- int -/
def ti3 : TI := ⟨(.int .i64), 1, 8, false, .int .i64 0, [], 0⟩
theorem tok3 : TOk Try.prog 3 ti3 := tok_mk (.int .i64 0) (by kernel_rfl) Try.underlying3 rfl rfl rfl rfl rfl (by kernel_rfl) rfl (by kernel_rfl)
/-- bool -/
def ti4 : TI := ⟨.bool, 1, 1, false, .bool false, [], 0⟩
theorem tok4 : TOk Try.prog 4 ti4 := tok_mk (.bool false) (by kernel_rfl) Try.underlying4 rfl rfl rfl rfl rfl (by kernel_rfl) rfl (by kernel_rfl)
/-- uint8 -/
def ti5 : TI := ⟨(.int .u8), 1, 1, false, .int .u8 0, [], 0⟩
theorem tok5 : TOk Try.prog 5 ti5 := tok_mk (.int .u8 0) (by kernel_rfl) Try.underlying5 rfl rfl rfl rfl rfl (by kernel_rfl) rfl (by kernel_rfl)
/-- string -/
def ti9 : TI := ⟨.string, 1, 16, false, .str [], [], 0⟩
theorem tok9 : TOk Try.prog 9 ti9 := tok_mk (.string ⟨#[]⟩) (by kernel_rfl) Try.underlying9 rfl rfl rfl rfl rfl (by kernel_rfl) rfl (by kernel_rfl)
/-- uintptr -/
def ti12 : TI := ⟨(.int .u64), 1, 8, false, .int .u64 0, [], 0⟩
theorem tok12 : TOk Try.prog 12 ti12 := tok_mk (.int .u64 0) (by kernel_rfl) Try.underlying12 rfl rfl rfl rfl rfl (by kernel_rfl) rfl (by kernel_rfl)
/-- struct   msg string  addr uintptr   -/
def ti13 : TI := ⟨.struct, 2, 24, true, .agg [.str [], .int .u64 0], [(0, 1, false), (1, 1, false)], 0⟩
theorem tok13 : TOk Try.prog 13 ti13 := tok_mk (.agg #[.string ⟨#[]⟩, .int .u64 0]) (by kernel_rfl) Try.underlying13 rfl rfl rfl rfl rfl (by kernel_rfl) rfl (by kernel_rfl)
/-- interface    -/
def ti20 : TI := ⟨.iface, 1, 16, false, .nili, [], 0⟩
theorem tok20 : TOk Try.prog 20 ti20 := tok_mk (.nilIface) (by kernel_rfl) Try.underlying20 rfl rfl rfl rfl rfl (by kernel_rfl) rfl (by kernel_rfl)
/-- int32 -/
def ti21 : TI := ⟨(.int .i32), 1, 4, false, .int .i32 0, [], 0⟩
theorem tok21 : TOk Try.prog 21 ti21 := tok_mk (.int .i32 0) (by kernel_rfl) Try.underlying21 rfl rfl rfl rfl rfl (by kernel_rfl) rfl (by kernel_rfl)
/--   api.Step -/
def ti22 : TI := ⟨.slice, 1, 24, false, .slice [] .nil, [], 28⟩
theorem tok22 : TOk Try.prog 22 ti22 := tok_mk (.slice none 0 0) (by kernel_rfl) Try.underlying22 rfl rfl rfl rfl rfl (by kernel_rfl) rfl (by kernel_rfl)
/-- struct   Name string  At int   -/
def ti27 : TI := ⟨.struct, 2, 24, true, .agg [.str [], .int .i64 0], [(0, 1, false), (1, 1, false)], 0⟩
theorem tok27 : TOk Try.prog 27 ti27 := tok_mk (.agg #[.string ⟨#[]⟩, .int .i64 0]) (by kernel_rfl) Try.underlying27 rfl rfl rfl rfl rfl (by kernel_rfl) rfl (by kernel_rfl)
/-- api.Step -/
def ti28 : TI := ⟨.struct, 2, 24, true, .agg [.str [], .int .i64 0], [(0, 1, false), (1, 1, false)], 0⟩
theorem tok28 : TOk Try.prog 28 ti28 := tok_mk (.agg #[.string ⟨#[]⟩, .int .i64 0]) (by kernel_rfl) Try.underlying28 rfl rfl rfl rfl rfl (by kernel_rfl) rfl (by kernel_rfl)
/--   api.Value -/
def ti32 : TI := ⟨.slice, 1, 24, false, .slice [] .nil, [], 35⟩
theorem tok32 : TOk Try.prog 32 ti32 := tok_mk (.slice none 0 0) (by kernel_rfl) Try.underlying32 rfl rfl rfl rfl rfl (by kernel_rfl) rfl (by kernel_rfl)
/--   api.Member -/
def ti33 : TI := ⟨.slice, 1, 24, false, .slice [] .nil, [], 52⟩
theorem tok33 : TOk Try.prog 33 ti33 := tok_mk (.slice none 0 0) (by kernel_rfl) Try.underlying33 rfl rfl rfl rfl rfl (by kernel_rfl) rfl (by kernel_rfl)
/-- struct   Kind int  N int64  S string  L   api.Value  M   api.Member   -/
def ti34 : TI := ⟨.struct, 5, 80, true, .agg [.int .i64 0, .int .i64 0, .str [], .slice [] .nil, .slice [] .nil], [(0, 1, false), (1, 1, false), (2, 1, false), (3, 1, false), (4, 1, false)], 0⟩
theorem tok34 : TOk Try.prog 34 ti34 := tok_mk (.agg #[.int .i64 0, .int .i64 0, .string ⟨#[]⟩, .slice none 0 0, .slice none 0 0]) (by kernel_rfl) Try.underlying34 rfl rfl rfl rfl rfl (by kernel_rfl) rfl (by kernel_rfl)
/-- api.Value -/
def ti35 : TI := ⟨.struct, 5, 80, true, .agg [.int .i64 0, .int .i64 0, .str [], .slice [] .nil, .slice [] .nil], [(0, 1, false), (1, 1, false), (2, 1, false), (3, 1, false), (4, 1, false)], 0⟩
theorem tok35 : TOk Try.prog 35 ti35 := tok_mk (.agg #[.int .i64 0, .int .i64 0, .string ⟨#[]⟩, .slice none 0 0, .slice none 0 0]) (by kernel_rfl) Try.underlying35 rfl rfl rfl rfl rfl (by kernel_rfl) rfl (by kernel_rfl)
/--   api.Table -/
def ti37 : TI := ⟨.slice, 1, 24, false, .slice [] .nil, [], 78⟩
theorem tok37 : TOk Try.prog 37 ti37 := tok_mk (.slice none 0 0) (by kernel_rfl) Try.underlying37 rfl rfl rfl rfl rfl (by kernel_rfl) rfl (by kernel_rfl)
/-- struct   Name string  Table string  Col string  Type string  Args   api.Member   -/
def ti38 : TI := ⟨.struct, 5, 88, true, .agg [.str [], .str [], .str [], .str [], .slice [] .nil], [(0, 1, false), (1, 1, false), (2, 1, false), (3, 1, false), (4, 1, false)], 0⟩
theorem tok38 : TOk Try.prog 38 ti38 := tok_mk (.agg #[.string ⟨#[]⟩, .string ⟨#[]⟩, .string ⟨#[]⟩, .string ⟨#[]⟩, .slice none 0 0]) (by kernel_rfl) Try.underlying38 rfl rfl rfl rfl rfl (by kernel_rfl) rfl (by kernel_rfl)
/-- api.Cmd -/
def ti39 : TI := ⟨.struct, 5, 88, true, .agg [.str [], .str [], .str [], .str [], .slice [] .nil], [(0, 1, false), (1, 1, false), (2, 1, false), (3, 1, false), (4, 1, false)], 0⟩
theorem tok39 : TOk Try.prog 39 ti39 := tok_mk (.agg #[.string ⟨#[]⟩, .string ⟨#[]⟩, .string ⟨#[]⟩, .string ⟨#[]⟩, .slice none 0 0]) (by kernel_rfl) Try.underlying39 rfl rfl rfl rfl rfl (by kernel_rfl) rfl (by kernel_rfl)
/-- api.Errno -/
def ti43 : TI := ⟨(.int .i64), 1, 8, false, .int .i64 0, [], 0⟩
theorem tok43 : TOk Try.prog 43 ti43 := tok_mk (.int .i64 0) (by kernel_rfl) Try.underlying43 rfl rfl rfl rfl rfl (by kernel_rfl) rfl (by kernel_rfl)
/-- struct   Name string  V api.Value   -/
def ti51 : TI := ⟨.struct, 6, 96, true, .agg [.str [], .int .i64 0, .int .i64 0, .str [], .slice [] .nil, .slice [] .nil], [(0, 1, false), (1, 5, true)], 0⟩
theorem tok51 : TOk Try.prog 51 ti51 := tok_mk (.agg #[.string ⟨#[]⟩, .int .i64 0, .int .i64 0, .string ⟨#[]⟩, .slice none 0 0, .slice none 0 0]) (by kernel_rfl) Try.underlying51 rfl rfl rfl rfl rfl (by kernel_rfl) rfl (by kernel_rfl)
/-- api.Member -/
def ti52 : TI := ⟨.struct, 6, 96, true, .agg [.str [], .int .i64 0, .int .i64 0, .str [], .slice [] .nil, .slice [] .nil], [(0, 1, false), (1, 5, true)], 0⟩
theorem tok52 : TOk Try.prog 52 ti52 := tok_mk (.agg #[.string ⟨#[]⟩, .int .i64 0, .int .i64 0, .string ⟨#[]⟩, .slice none 0 0, .slice none 0 0]) (by kernel_rfl) Try.underlying52 rfl rfl rfl rfl rfl (by kernel_rfl) rfl (by kernel_rfl)
/-- struct   Key string  Type string  Cols   api.Member  Broken bool   -/
def ti55 : TI := ⟨.struct, 4, 64, true, .agg [.str [], .str [], .slice [] .nil, .bool false], [(0, 1, false), (1, 1, false), (2, 1, false), (3, 1, false)], 0⟩
theorem tok55 : TOk Try.prog 55 ti55 := tok_mk (.agg #[.string ⟨#[]⟩, .string ⟨#[]⟩, .slice none 0 0, .bool false]) (by kernel_rfl) Try.underlying55 rfl rfl rfl rfl rfl (by kernel_rfl) rfl (by kernel_rfl)
/-- api.Row -/
def ti56 : TI := ⟨.struct, 4, 64, true, .agg [.str [], .str [], .slice [] .nil, .bool false], [(0, 1, false), (1, 1, false), (2, 1, false), (3, 1, false)], 0⟩
theorem tok56 : TOk Try.prog 56 ti56 := tok_mk (.agg #[.string ⟨#[]⟩, .string ⟨#[]⟩, .slice none 0 0, .bool false]) (by kernel_rfl) Try.underlying56 rfl rfl rfl rfl rfl (by kernel_rfl) rfl (by kernel_rfl)
/-- struct   Row api.Row  Is bool  E api.Errno   -/
def ti58 : TI := ⟨.struct, 6, 80, true, .agg [.str [], .str [], .slice [] .nil, .bool false, .bool false, .int .i64 0], [(0, 4, true), (4, 1, false), (5, 1, false)], 0⟩
theorem tok58 : TOk Try.prog 58 ti58 := tok_mk (.agg #[.string ⟨#[]⟩, .string ⟨#[]⟩, .slice none 0 0, .bool false, .bool false, .int .i64 0]) (by kernel_rfl) Try.underlying58 rfl rfl rfl rfl rfl (by kernel_rfl) rfl (by kernel_rfl)
/-- api.Got -/
def ti59 : TI := ⟨.struct, 6, 80, true, .agg [.str [], .str [], .slice [] .nil, .bool false, .bool false, .int .i64 0], [(0, 4, true), (4, 1, false), (5, 1, false)], 0⟩
theorem tok59 : TOk Try.prog 59 ti59 := tok_mk (.agg #[.string ⟨#[]⟩, .string ⟨#[]⟩, .slice none 0 0, .bool false, .bool false, .int .i64 0]) (by kernel_rfl) Try.underlying59 rfl rfl rfl rfl rfl (by kernel_rfl) rfl (by kernel_rfl)
/-- struct   Table string  Key string   -/
def ti61 : TI := ⟨.struct, 2, 32, true, .agg [.str [], .str []], [(0, 1, false), (1, 1, false)], 0⟩
theorem tok61 : TOk Try.prog 61 ti61 := tok_mk (.agg #[.string ⟨#[]⟩, .string ⟨#[]⟩]) (by kernel_rfl) Try.underlying61 rfl rfl rfl rfl rfl (by kernel_rfl) rfl (by kernel_rfl)
/-- api.Need -/
def ti62 : TI := ⟨.struct, 2, 32, true, .agg [.str [], .str []], [(0, 1, false), (1, 1, false)], 0⟩
theorem tok62 : TOk Try.prog 62 ti62 := tok_mk (.agg #[.string ⟨#[]⟩, .string ⟨#[]⟩]) (by kernel_rfl) Try.underlying62 rfl rfl rfl rfl rfl (by kernel_rfl) rfl (by kernel_rfl)
/--   api.Fault -/
def ti65 : TI := ⟨.slice, 1, 24, false, .slice [] .nil, [], 67⟩
theorem tok65 : TOk Try.prog 65 ti65 := tok_mk (.slice none 0 0) (by kernel_rfl) Try.underlying65 rfl rfl rfl rfl rfl (by kernel_rfl) rfl (by kernel_rfl)
/-- struct   Path   api.Step  E api.Errno   -/
def ti66 : TI := ⟨.struct, 2, 32, true, .agg [.slice [] .nil, .int .i64 0], [(0, 1, false), (1, 1, false)], 0⟩
theorem tok66 : TOk Try.prog 66 ti66 := tok_mk (.agg #[.slice none 0 0, .int .i64 0]) (by kernel_rfl) Try.underlying66 rfl rfl rfl rfl rfl (by kernel_rfl) rfl (by kernel_rfl)
/-- api.Fault -/
def ti67 : TI := ⟨.struct, 2, 32, true, .agg [.slice [] .nil, .int .i64 0], [(0, 1, false), (1, 1, false)], 0⟩
theorem tok67 : TOk Try.prog 67 ti67 := tok_mk (.agg #[.slice none 0 0, .int .i64 0]) (by kernel_rfl) Try.underlying67 rfl rfl rfl rfl rfl (by kernel_rfl) rfl (by kernel_rfl)
/--   seinelaw29.Op -/
def ti72 : TI := ⟨.slice, 1, 24, false, .slice [] .nil, [], 84⟩
theorem tok72 : TOk Try.prog 72 ti72 := tok_mk (.slice none 0 0) (by kernel_rfl) Try.underlying72 rfl rfl rfl rfl rfl (by kernel_rfl) rfl (by kernel_rfl)
/--  store.Store -/
def ti74 : TI := ⟨.pointer, 1, 8, false, .nilp, [], 123⟩
theorem tok74 : TOk Try.prog 74 ti74 := tok_mk (.pointer none) (by kernel_rfl) Try.underlying74 rfl rfl rfl rfl rfl (by kernel_rfl) rfl (by kernel_rfl)
/--   api.Row -/
def ti76 : TI := ⟨.slice, 1, 24, false, .slice [] .nil, [], 56⟩
theorem tok76 : TOk Try.prog 76 ti76 := tok_mk (.slice none 0 0) (by kernel_rfl) Try.underlying76 rfl rfl rfl rfl rfl (by kernel_rfl) rfl (by kernel_rfl)
/-- struct   Name string  Rows   api.Row   -/
def ti77 : TI := ⟨.struct, 2, 40, true, .agg [.str [], .slice [] .nil], [(0, 1, false), (1, 1, false)], 0⟩
theorem tok77 : TOk Try.prog 77 ti77 := tok_mk (.agg #[.string ⟨#[]⟩, .slice none 0 0]) (by kernel_rfl) Try.underlying77 rfl rfl rfl rfl rfl (by kernel_rfl) rfl (by kernel_rfl)
/-- api.Table -/
def ti78 : TI := ⟨.struct, 2, 40, true, .agg [.str [], .slice [] .nil], [(0, 1, false), (1, 1, false)], 0⟩
theorem tok78 : TOk Try.prog 78 ti78 := tok_mk (.agg #[.string ⟨#[]⟩, .slice none 0 0]) (by kernel_rfl) Try.underlying78 rfl rfl rfl rfl rfl (by kernel_rfl) rfl (by kernel_rfl)
/--   api.Entry -/
def ti79 : TI := ⟨.slice, 1, 24, false, .slice [] .nil, [], 88⟩
theorem tok79 : TOk Try.prog 79 ti79 := tok_mk (.slice none 0 0) (by kernel_rfl) Try.underlying79 rfl rfl rfl rfl rfl (by kernel_rfl) rfl (by kernel_rfl)
/--   string -/
def ti80 : TI := ⟨.slice, 1, 24, false, .slice [] .nil, [], 9⟩
theorem tok80 : TOk Try.prog 80 ti80 := tok_mk (.slice none 0 0) (by kernel_rfl) Try.underlying80 rfl rfl rfl rfl rfl (by kernel_rfl) rfl (by kernel_rfl)
/-- struct   Table string  Keys   string   -/
def ti81 : TI := ⟨.struct, 2, 40, true, .agg [.str [], .slice [] .nil], [(0, 1, false), (1, 1, false)], 0⟩
theorem tok81 : TOk Try.prog 81 ti81 := tok_mk (.agg #[.string ⟨#[]⟩, .slice none 0 0]) (by kernel_rfl) Try.underlying81 rfl rfl rfl rfl rfl (by kernel_rfl) rfl (by kernel_rfl)
/-- api.Batch -/
def ti82 : TI := ⟨.struct, 2, 40, true, .agg [.str [], .slice [] .nil], [(0, 1, false), (1, 1, false)], 0⟩
theorem tok82 : TOk Try.prog 82 ti82 := tok_mk (.agg #[.string ⟨#[]⟩, .slice none 0 0]) (by kernel_rfl) Try.underlying82 rfl rfl rfl rfl rfl (by kernel_rfl) rfl (by kernel_rfl)
/-- struct   Do bool  C api.Cmd  B api.Batch   -/
def ti83 : TI := ⟨.struct, 8, 136, true, .agg [.bool false, .str [], .str [], .str [], .str [], .slice [] .nil, .str [], .slice [] .nil], [(0, 1, false), (1, 5, true), (6, 2, true)], 0⟩
theorem tok83 : TOk Try.prog 83 ti83 := tok_mk (.agg #[.bool false, .string ⟨#[]⟩, .string ⟨#[]⟩, .string ⟨#[]⟩, .string ⟨#[]⟩, .slice none 0 0, .string ⟨#[]⟩, .slice none 0 0]) (by kernel_rfl) Try.underlying83 rfl rfl rfl rfl rfl (by kernel_rfl) rfl (by kernel_rfl)
/-- seinelaw29.Op -/
def ti84 : TI := ⟨.struct, 8, 136, true, .agg [.bool false, .str [], .str [], .str [], .str [], .slice [] .nil, .str [], .slice [] .nil], [(0, 1, false), (1, 5, true), (6, 2, true)], 0⟩
theorem tok84 : TOk Try.prog 84 ti84 := tok_mk (.agg #[.bool false, .string ⟨#[]⟩, .string ⟨#[]⟩, .string ⟨#[]⟩, .string ⟨#[]⟩, .slice none 0 0, .string ⟨#[]⟩, .slice none 0 0]) (by kernel_rfl) Try.underlying84 rfl rfl rfl rfl rfl (by kernel_rfl) rfl (by kernel_rfl)
/-- struct   Batch api.Batch  Cmd api.Cmd   -/
def ti87 : TI := ⟨.struct, 7, 128, true, .agg [.str [], .slice [] .nil, .str [], .str [], .str [], .str [], .slice [] .nil], [(0, 2, true), (2, 5, true)], 0⟩
theorem tok87 : TOk Try.prog 87 ti87 := tok_mk (.agg #[.string ⟨#[]⟩, .slice none 0 0, .string ⟨#[]⟩, .string ⟨#[]⟩, .string ⟨#[]⟩, .string ⟨#[]⟩, .slice none 0 0]) (by kernel_rfl) Try.underlying87 rfl rfl rfl rfl rfl (by kernel_rfl) rfl (by kernel_rfl)
/-- api.Entry -/
def ti88 : TI := ⟨.struct, 7, 128, true, .agg [.str [], .slice [] .nil, .str [], .str [], .str [], .str [], .slice [] .nil], [(0, 2, true), (2, 5, true)], 0⟩
theorem tok88 : TOk Try.prog 88 ti88 := tok_mk (.agg #[.string ⟨#[]⟩, .slice none 0 0, .string ⟨#[]⟩, .string ⟨#[]⟩, .string ⟨#[]⟩, .string ⟨#[]⟩, .slice none 0 0]) (by kernel_rfl) Try.underlying88 rfl rfl rfl rfl rfl (by kernel_rfl) rfl (by kernel_rfl)
/--   api.Got -/
def ti89 : TI := ⟨.slice, 1, 24, false, .slice [] .nil, [], 59⟩
theorem tok89 : TOk Try.prog 89 ti89 := tok_mk (.slice none 0 0) (by kernel_rfl) Try.underlying89 rfl rfl rfl rfl rfl (by kernel_rfl) rfl (by kernel_rfl)
/-- struct   tables   api.Table  log   api.Entry   -/
def ti122 : TI := ⟨.struct, 2, 48, true, .agg [.slice [] .nil, .slice [] .nil], [(0, 1, false), (1, 1, false)], 0⟩
theorem tok122 : TOk Try.prog 122 ti122 := tok_mk (.agg #[.slice none 0 0, .slice none 0 0]) (by kernel_rfl) Try.underlying122 rfl rfl rfl rfl rfl (by kernel_rfl) rfl (by kernel_rfl)
/-- store.Store -/
def ti123 : TI := ⟨.struct, 2, 48, true, .agg [.slice [] .nil, .slice [] .nil], [(0, 1, false), (1, 1, false)], 0⟩
theorem tok123 : TOk Try.prog 123 ti123 := tok_mk (.agg #[.slice none 0 0, .slice none 0 0]) (by kernel_rfl) Try.underlying123 rfl rfl rfl rfl rfl (by kernel_rfl) rfl (by kernel_rfl)
/-- struct    -/
def ti131 : TI := ⟨.struct, 0, 0, true, .agg [], [], 0⟩
theorem tok131 : TOk Try.prog 131 ti131 := tok_mk (.agg #[]) (by kernel_rfl) Try.underlying131 rfl rfl rfl rfl rfl (by kernel_rfl) rfl (by kernel_rfl)
/-- command.burnt -/
def ti132 : TI := ⟨.struct, 0, 0, true, .agg [], [], 0⟩
theorem tok132 : TOk Try.prog 132 ti132 := tok_mk (.agg #[]) (by kernel_rfl) Try.underlying132 rfl rfl rfl rfl rfl (by kernel_rfl) rfl (by kernel_rfl)
/-- uint -/
def ti148 : TI := ⟨(.int .u64), 1, 8, false, .int .u64 0, [], 0⟩
theorem tok148 : TOk Try.prog 148 ti148 := tok_mk (.int .u64 0) (by kernel_rfl) Try.underlying148 rfl rfl rfl rfl rfl (by kernel_rfl) rfl (by kernel_rfl)
/-- uint32 -/
def ti156 : TI := ⟨(.int .u32), 1, 4, false, .int .u32 0, [], 0⟩
theorem tok156 : TOk Try.prog 156 ti156 := tok_mk (.int .u32 0) (by kernel_rfl) Try.underlying156 rfl rfl rfl rfl rfl (by kernel_rfl) rfl (by kernel_rfl)
/--  uint8 -/
def ti160 : TI := ⟨.pointer, 1, 8, false, .nilp, [], 5⟩
theorem tok160 : TOk Try.prog 160 ti160 := tok_mk (.pointer none) (by kernel_rfl) Try.underlying160 rfl rfl rfl rfl rfl (by kernel_rfl) rfl (by kernel_rfl)
def table : List (Nat × TI) := [(2, ⟨(.int .i64), 1, 8, false, .int .i64 0, [], 0⟩), (3, ⟨(.int .i64), 1, 8, false, .int .i64 0, [], 0⟩), (4, ⟨.bool, 1, 1, false, .bool false, [], 0⟩), (5, ⟨(.int .u8), 1, 1, false, .int .u8 0, [], 0⟩), (9, ⟨.string, 1, 16, false, .str [], [], 0⟩), (12, ⟨(.int .u64), 1, 8, false, .int .u64 0, [], 0⟩), (13, ⟨.struct, 2, 24, true, .agg [.str [], .int .u64 0], [(0, 1, false), (1, 1, false)], 0⟩), (20, ⟨.iface, 1, 16, false, .nili, [], 0⟩), (21, ⟨(.int .i32), 1, 4, false, .int .i32 0, [], 0⟩), (22, ⟨.slice, 1, 24, false, .slice [] .nil, [], 28⟩), (27, ⟨.struct, 2, 24, true, .agg [.str [], .int .i64 0], [(0, 1, false), (1, 1, false)], 0⟩), (28, ⟨.struct, 2, 24, true, .agg [.str [], .int .i64 0], [(0, 1, false), (1, 1, false)], 0⟩), (32, ⟨.slice, 1, 24, false, .slice [] .nil, [], 35⟩), (33, ⟨.slice, 1, 24, false, .slice [] .nil, [], 52⟩), (34, ⟨.struct, 5, 80, true, .agg [.int .i64 0, .int .i64 0, .str [], .slice [] .nil, .slice [] .nil], [(0, 1, false), (1, 1, false), (2, 1, false), (3, 1, false), (4, 1, false)], 0⟩), (35, ⟨.struct, 5, 80, true, .agg [.int .i64 0, .int .i64 0, .str [], .slice [] .nil, .slice [] .nil], [(0, 1, false), (1, 1, false), (2, 1, false), (3, 1, false), (4, 1, false)], 0⟩), (37, ⟨.slice, 1, 24, false, .slice [] .nil, [], 78⟩), (38, ⟨.struct, 5, 88, true, .agg [.str [], .str [], .str [], .str [], .slice [] .nil], [(0, 1, false), (1, 1, false), (2, 1, false), (3, 1, false), (4, 1, false)], 0⟩), (39, ⟨.struct, 5, 88, true, .agg [.str [], .str [], .str [], .str [], .slice [] .nil], [(0, 1, false), (1, 1, false), (2, 1, false), (3, 1, false), (4, 1, false)], 0⟩), (43, ⟨(.int .i64), 1, 8, false, .int .i64 0, [], 0⟩), (51, ⟨.struct, 6, 96, true, .agg [.str [], .int .i64 0, .int .i64 0, .str [], .slice [] .nil, .slice [] .nil], [(0, 1, false), (1, 5, true)], 0⟩), (52, ⟨.struct, 6, 96, true, .agg [.str [], .int .i64 0, .int .i64 0, .str [], .slice [] .nil, .slice [] .nil], [(0, 1, false), (1, 5, true)], 0⟩), (55, ⟨.struct, 4, 64, true, .agg [.str [], .str [], .slice [] .nil, .bool false], [(0, 1, false), (1, 1, false), (2, 1, false), (3, 1, false)], 0⟩), (56, ⟨.struct, 4, 64, true, .agg [.str [], .str [], .slice [] .nil, .bool false], [(0, 1, false), (1, 1, false), (2, 1, false), (3, 1, false)], 0⟩), (58, ⟨.struct, 6, 80, true, .agg [.str [], .str [], .slice [] .nil, .bool false, .bool false, .int .i64 0], [(0, 4, true), (4, 1, false), (5, 1, false)], 0⟩), (59, ⟨.struct, 6, 80, true, .agg [.str [], .str [], .slice [] .nil, .bool false, .bool false, .int .i64 0], [(0, 4, true), (4, 1, false), (5, 1, false)], 0⟩), (61, ⟨.struct, 2, 32, true, .agg [.str [], .str []], [(0, 1, false), (1, 1, false)], 0⟩), (62, ⟨.struct, 2, 32, true, .agg [.str [], .str []], [(0, 1, false), (1, 1, false)], 0⟩), (65, ⟨.slice, 1, 24, false, .slice [] .nil, [], 67⟩), (66, ⟨.struct, 2, 32, true, .agg [.slice [] .nil, .int .i64 0], [(0, 1, false), (1, 1, false)], 0⟩), (67, ⟨.struct, 2, 32, true, .agg [.slice [] .nil, .int .i64 0], [(0, 1, false), (1, 1, false)], 0⟩), (72, ⟨.slice, 1, 24, false, .slice [] .nil, [], 84⟩), (74, ⟨.pointer, 1, 8, false, .nilp, [], 123⟩), (76, ⟨.slice, 1, 24, false, .slice [] .nil, [], 56⟩), (77, ⟨.struct, 2, 40, true, .agg [.str [], .slice [] .nil], [(0, 1, false), (1, 1, false)], 0⟩), (78, ⟨.struct, 2, 40, true, .agg [.str [], .slice [] .nil], [(0, 1, false), (1, 1, false)], 0⟩), (79, ⟨.slice, 1, 24, false, .slice [] .nil, [], 88⟩), (80, ⟨.slice, 1, 24, false, .slice [] .nil, [], 9⟩), (81, ⟨.struct, 2, 40, true, .agg [.str [], .slice [] .nil], [(0, 1, false), (1, 1, false)], 0⟩), (82, ⟨.struct, 2, 40, true, .agg [.str [], .slice [] .nil], [(0, 1, false), (1, 1, false)], 0⟩), (83, ⟨.struct, 8, 136, true, .agg [.bool false, .str [], .str [], .str [], .str [], .slice [] .nil, .str [], .slice [] .nil], [(0, 1, false), (1, 5, true), (6, 2, true)], 0⟩), (84, ⟨.struct, 8, 136, true, .agg [.bool false, .str [], .str [], .str [], .str [], .slice [] .nil, .str [], .slice [] .nil], [(0, 1, false), (1, 5, true), (6, 2, true)], 0⟩), (87, ⟨.struct, 7, 128, true, .agg [.str [], .slice [] .nil, .str [], .str [], .str [], .str [], .slice [] .nil], [(0, 2, true), (2, 5, true)], 0⟩), (88, ⟨.struct, 7, 128, true, .agg [.str [], .slice [] .nil, .str [], .str [], .str [], .str [], .slice [] .nil], [(0, 2, true), (2, 5, true)], 0⟩), (89, ⟨.slice, 1, 24, false, .slice [] .nil, [], 59⟩), (122, ⟨.struct, 2, 48, true, .agg [.slice [] .nil, .slice [] .nil], [(0, 1, false), (1, 1, false)], 0⟩), (123, ⟨.struct, 2, 48, true, .agg [.slice [] .nil, .slice [] .nil], [(0, 1, false), (1, 1, false)], 0⟩), (131, ⟨.struct, 0, 0, true, .agg [], [], 0⟩), (132, ⟨.struct, 0, 0, true, .agg [], [], 0⟩), (148, ⟨(.int .u64), 1, 8, false, .int .u64 0, [], 0⟩), (156, ⟨(.int .u32), 1, 4, false, .int .u32 0, [], 0⟩), (160, ⟨.pointer, 1, 8, false, .nilp, [], 5⟩)]
theorem table_ok : LayOk Try.prog table := ⟨tok2, tok3, tok4, tok5, tok9, tok12, tok13, tok20, tok21, tok22, tok27, tok28, tok32, tok33, tok34, tok35, tok37, tok38, tok39, tok43, tok51, tok52, tok55, tok56, tok58, tok59, tok61, tok62, tok65, tok66, tok67, tok72, tok74, tok76, tok77, tok78, tok79, tok80, tok81, tok82, tok83, tok84, tok87, tok88, tok89, tok122, tok123, tok131, tok132, tok148, tok156, tok160, trivial⟩
instance : Lay Try.prog := ⟨table, table_ok, Try.checked.mixed⟩
end Go.Proofs.Ytaapdhocpadjaaa
