/-
  The table of this seat's types, written by a program of the prover's (genlay.py): closed facts.
-/
import Derived.Test.YtajddgpkflbnaaaRows
import Derived.Test.YtajddgpkflbnaaaAvLay
namespace Go.Proofs.Ytajddgpkflbnaaa
open Go Go.Av
set_option maxRecDepth 100000

instance : Globals := ⟨[]⟩
/-- int64 -/
def ti2 : TI := ⟨(.int .i64), 1, 8, false, .int .i64 0, [], 0⟩
theorem tok2 : TOk Try.prog 2 ti2 := tok_mk (.int .i64 0) (by kernel_rfl) Try.underlying2 rfl rfl rfl rfl rfl (by kernel_rfl) rfl (by kernel_rfl)
/-- int -/
def ti3 : TI := ⟨(.int .i64), 1, 8, false, .int .i64 0, [], 0⟩
theorem tok3 : TOk Try.prog 3 ti3 := tok_mk (.int .i64 0) (by kernel_rfl) Try.underlying3 rfl rfl rfl rfl rfl (by kernel_rfl) rfl (by kernel_rfl)
/-- bool -/
def ti4 : TI := ⟨.bool, 1, 1, false, .bool false, [], 0⟩
theorem tok4 : TOk Try.prog 4 ti4 := tok_mk (.bool false) (by kernel_rfl) Try.underlying4 rfl rfl rfl rfl rfl (by kernel_rfl) rfl (by kernel_rfl)
/-- uint8 -/
def ti5 : TI := ⟨(.int .u8), 1, 1, false, .int .u8 0, [], 0⟩
theorem tok5 : TOk Try.prog 5 ti5 := tok_mk (.int .u8 0) (by kernel_rfl) Try.underlying5 rfl rfl rfl rfl rfl (by kernel_rfl) rfl (by kernel_rfl)
/-- string -/
def ti9 : TI := ⟨.string, 1, 16, false, .str [], [], 0⟩
theorem tok9 : TOk Try.prog 9 ti9 := tok_mk (.string ⟨#[]⟩) (by kernel_rfl) Try.underlying9 rfl rfl rfl rfl rfl (by kernel_rfl) rfl (by kernel_rfl)
/-- uintptr -/
def ti12 : TI := ⟨(.int .u64), 1, 8, false, .int .u64 0, [], 0⟩
theorem tok12 : TOk Try.prog 12 ti12 := tok_mk (.int .u64 0) (by kernel_rfl) Try.underlying12 rfl rfl rfl rfl rfl (by kernel_rfl) rfl (by kernel_rfl)
/-- struct   msg string  addr uintptr   -/
def ti13 : TI := ⟨.struct, 2, 24, true, .agg [.str [], .int .u64 0], [(0, 1, false), (1, 1, false)], 0⟩
theorem tok13 : TOk Try.prog 13 ti13 := tok_mk (.agg #[.string ⟨#[]⟩, .int .u64 0]) (by kernel_rfl) Try.underlying13 rfl rfl rfl rfl rfl (by kernel_rfl) rfl (by kernel_rfl)
/-- interface    -/
def ti20 : TI := ⟨.iface, 1, 16, false, .nili, [], 0⟩
theorem tok20 : TOk Try.prog 20 ti20 := tok_mk (.nilIface) (by kernel_rfl) Try.underlying20 rfl rfl rfl rfl rfl (by kernel_rfl) rfl (by kernel_rfl)
/-- int32 -/
def ti21 : TI := ⟨(.int .i32), 1, 4, false, .int .i32 0, [], 0⟩
theorem tok21 : TOk Try.prog 21 ti21 := tok_mk (.int .i32 0) (by kernel_rfl) Try.underlying21 rfl rfl rfl rfl rfl (by kernel_rfl) rfl (by kernel_rfl)
/--   api.Table -/
def ti22 : TI := ⟨.slice, 1, 24, false, .slice [] .nil, [], 72⟩
theorem tok22 : TOk Try.prog 22 ti22 := tok_mk (.slice none 0 0) (by kernel_rfl) Try.underlying22 rfl rfl rfl rfl rfl (by kernel_rfl) rfl (by kernel_rfl)
/--   api.Member -/
def ti23 : TI := ⟨.slice, 1, 24, false, .slice [] .nil, [], 43⟩
theorem tok23 : TOk Try.prog 23 ti23 := tok_mk (.slice none 0 0) (by kernel_rfl) Try.underlying23 rfl rfl rfl rfl rfl (by kernel_rfl) rfl (by kernel_rfl)
/-- struct   Name string  Table string  Col string  Type string  Args   api.Member   -/
def ti24 : TI := ⟨.struct, 5, 88, true, .agg [.str [], .str [], .str [], .str [], .slice [] .nil], [(0, 1, false), (1, 1, false), (2, 1, false), (3, 1, false), (4, 1, false)], 0⟩
theorem tok24 : TOk Try.prog 24 ti24 := tok_mk (.agg #[.string ⟨#[]⟩, .string ⟨#[]⟩, .string ⟨#[]⟩, .string ⟨#[]⟩, .slice none 0 0]) (by kernel_rfl) Try.underlying24 rfl rfl rfl rfl rfl (by kernel_rfl) rfl (by kernel_rfl)
/-- api.Cmd -/
def ti25 : TI := ⟨.struct, 5, 88, true, .agg [.str [], .str [], .str [], .str [], .slice [] .nil], [(0, 1, false), (1, 1, false), (2, 1, false), (3, 1, false), (4, 1, false)], 0⟩
theorem tok25 : TOk Try.prog 25 ti25 := tok_mk (.agg #[.string ⟨#[]⟩, .string ⟨#[]⟩, .string ⟨#[]⟩, .string ⟨#[]⟩, .slice none 0 0]) (by kernel_rfl) Try.underlying25 rfl rfl rfl rfl rfl (by kernel_rfl) rfl (by kernel_rfl)
/--   api.Value -/
def ti30 : TI := ⟨.slice, 1, 24, false, .slice [] .nil, [], 32⟩
theorem tok30 : TOk Try.prog 30 ti30 := tok_mk (.slice none 0 0) (by kernel_rfl) Try.underlying30 rfl rfl rfl rfl rfl (by kernel_rfl) rfl (by kernel_rfl)
/-- struct   Kind int  N int64  S string  L   api.Value  M   api.Member   -/
def ti31 : TI := ⟨.struct, 5, 80, true, .agg [.int .i64 0, .int .i64 0, .str [], .slice [] .nil, .slice [] .nil], [(0, 1, false), (1, 1, false), (2, 1, false), (3, 1, false), (4, 1, false)], 0⟩
theorem tok31 : TOk Try.prog 31 ti31 := tok_mk (.agg #[.int .i64 0, .int .i64 0, .string ⟨#[]⟩, .slice none 0 0, .slice none 0 0]) (by kernel_rfl) Try.underlying31 rfl rfl rfl rfl rfl (by kernel_rfl) rfl (by kernel_rfl)
/-- api.Value -/
def ti32 : TI := ⟨.struct, 5, 80, true, .agg [.int .i64 0, .int .i64 0, .str [], .slice [] .nil, .slice [] .nil], [(0, 1, false), (1, 1, false), (2, 1, false), (3, 1, false), (4, 1, false)], 0⟩
theorem tok32 : TOk Try.prog 32 ti32 := tok_mk (.agg #[.int .i64 0, .int .i64 0, .string ⟨#[]⟩, .slice none 0 0, .slice none 0 0]) (by kernel_rfl) Try.underlying32 rfl rfl rfl rfl rfl (by kernel_rfl) rfl (by kernel_rfl)
/-- api.Errno -/
def ti33 : TI := ⟨(.int .i64), 1, 8, false, .int .i64 0, [], 0⟩
theorem tok33 : TOk Try.prog 33 ti33 := tok_mk (.int .i64 0) (by kernel_rfl) Try.underlying33 rfl rfl rfl rfl rfl (by kernel_rfl) rfl (by kernel_rfl)
/-- struct   Name string  V api.Value   -/
def ti42 : TI := ⟨.struct, 6, 96, true, .agg [.str [], .int .i64 0, .int .i64 0, .str [], .slice [] .nil, .slice [] .nil], [(0, 1, false), (1, 5, true)], 0⟩
theorem tok42 : TOk Try.prog 42 ti42 := tok_mk (.agg #[.string ⟨#[]⟩, .int .i64 0, .int .i64 0, .string ⟨#[]⟩, .slice none 0 0, .slice none 0 0]) (by kernel_rfl) Try.underlying42 rfl rfl rfl rfl rfl (by kernel_rfl) rfl (by kernel_rfl)
/-- api.Member -/
def ti43 : TI := ⟨.struct, 6, 96, true, .agg [.str [], .int .i64 0, .int .i64 0, .str [], .slice [] .nil, .slice [] .nil], [(0, 1, false), (1, 5, true)], 0⟩
theorem tok43 : TOk Try.prog 43 ti43 := tok_mk (.agg #[.string ⟨#[]⟩, .int .i64 0, .int .i64 0, .string ⟨#[]⟩, .slice none 0 0, .slice none 0 0]) (by kernel_rfl) Try.underlying43 rfl rfl rfl rfl rfl (by kernel_rfl) rfl (by kernel_rfl)
/-- struct   Key string  Type string  Cols   api.Member  Broken bool   -/
def ti46 : TI := ⟨.struct, 4, 64, true, .agg [.str [], .str [], .slice [] .nil, .bool false], [(0, 1, false), (1, 1, false), (2, 1, false), (3, 1, false)], 0⟩
theorem tok46 : TOk Try.prog 46 ti46 := tok_mk (.agg #[.string ⟨#[]⟩, .string ⟨#[]⟩, .slice none 0 0, .bool false]) (by kernel_rfl) Try.underlying46 rfl rfl rfl rfl rfl (by kernel_rfl) rfl (by kernel_rfl)
/-- api.Row -/
def ti47 : TI := ⟨.struct, 4, 64, true, .agg [.str [], .str [], .slice [] .nil, .bool false], [(0, 1, false), (1, 1, false), (2, 1, false), (3, 1, false)], 0⟩
theorem tok47 : TOk Try.prog 47 ti47 := tok_mk (.agg #[.string ⟨#[]⟩, .string ⟨#[]⟩, .slice none 0 0, .bool false]) (by kernel_rfl) Try.underlying47 rfl rfl rfl rfl rfl (by kernel_rfl) rfl (by kernel_rfl)
/-- struct   Row api.Row  Is bool  E api.Errno   -/
def ti49 : TI := ⟨.struct, 6, 80, true, .agg [.str [], .str [], .slice [] .nil, .bool false, .bool false, .int .i64 0], [(0, 4, true), (4, 1, false), (5, 1, false)], 0⟩
theorem tok49 : TOk Try.prog 49 ti49 := tok_mk (.agg #[.string ⟨#[]⟩, .string ⟨#[]⟩, .slice none 0 0, .bool false, .bool false, .int .i64 0]) (by kernel_rfl) Try.underlying49 rfl rfl rfl rfl rfl (by kernel_rfl) rfl (by kernel_rfl)
/-- api.Got -/
def ti50 : TI := ⟨.struct, 6, 80, true, .agg [.str [], .str [], .slice [] .nil, .bool false, .bool false, .int .i64 0], [(0, 4, true), (4, 1, false), (5, 1, false)], 0⟩
theorem tok50 : TOk Try.prog 50 ti50 := tok_mk (.agg #[.string ⟨#[]⟩, .string ⟨#[]⟩, .slice none 0 0, .bool false, .bool false, .int .i64 0]) (by kernel_rfl) Try.underlying50 rfl rfl rfl rfl rfl (by kernel_rfl) rfl (by kernel_rfl)
/-- struct   Table string  Key string   -/
def ti52 : TI := ⟨.struct, 2, 32, true, .agg [.str [], .str []], [(0, 1, false), (1, 1, false)], 0⟩
theorem tok52 : TOk Try.prog 52 ti52 := tok_mk (.agg #[.string ⟨#[]⟩, .string ⟨#[]⟩]) (by kernel_rfl) Try.underlying52 rfl rfl rfl rfl rfl (by kernel_rfl) rfl (by kernel_rfl)
/-- api.Need -/
def ti53 : TI := ⟨.struct, 2, 32, true, .agg [.str [], .str []], [(0, 1, false), (1, 1, false)], 0⟩
theorem tok53 : TOk Try.prog 53 ti53 := tok_mk (.agg #[.string ⟨#[]⟩, .string ⟨#[]⟩]) (by kernel_rfl) Try.underlying53 rfl rfl rfl rfl rfl (by kernel_rfl) rfl (by kernel_rfl)
/--   api.Fault -/
def ti56 : TI := ⟨.slice, 1, 24, false, .slice [] .nil, [], 60⟩
theorem tok56 : TOk Try.prog 56 ti56 := tok_mk (.slice none 0 0) (by kernel_rfl) Try.underlying56 rfl rfl rfl rfl rfl (by kernel_rfl) rfl (by kernel_rfl)
/--   api.Step -/
def ti58 : TI := ⟨.slice, 1, 24, false, .slice [] .nil, [], 110⟩
theorem tok58 : TOk Try.prog 58 ti58 := tok_mk (.slice none 0 0) (by kernel_rfl) Try.underlying58 rfl rfl rfl rfl rfl (by kernel_rfl) rfl (by kernel_rfl)
/-- struct   Path   api.Step  E api.Errno   -/
def ti59 : TI := ⟨.struct, 2, 32, true, .agg [.slice [] .nil, .int .i64 0], [(0, 1, false), (1, 1, false)], 0⟩
theorem tok59 : TOk Try.prog 59 ti59 := tok_mk (.agg #[.slice none 0 0, .int .i64 0]) (by kernel_rfl) Try.underlying59 rfl rfl rfl rfl rfl (by kernel_rfl) rfl (by kernel_rfl)
/-- api.Fault -/
def ti60 : TI := ⟨.struct, 2, 32, true, .agg [.slice [] .nil, .int .i64 0], [(0, 1, false), (1, 1, false)], 0⟩
theorem tok60 : TOk Try.prog 60 ti60 := tok_mk (.agg #[.slice none 0 0, .int .i64 0]) (by kernel_rfl) Try.underlying60 rfl rfl rfl rfl rfl (by kernel_rfl) rfl (by kernel_rfl)
/--   seinelaw29.Op -/
def ti66 : TI := ⟨.slice, 1, 24, false, .slice [] .nil, [], 78⟩
theorem tok66 : TOk Try.prog 66 ti66 := tok_mk (.slice none 0 0) (by kernel_rfl) Try.underlying66 rfl rfl rfl rfl rfl (by kernel_rfl) rfl (by kernel_rfl)
/--  store.Store -/
def ti68 : TI := ⟨.pointer, 1, 8, false, .nilp, [], 118⟩
theorem tok68 : TOk Try.prog 68 ti68 := tok_mk (.pointer none) (by kernel_rfl) Try.underlying68 rfl rfl rfl rfl rfl (by kernel_rfl) rfl (by kernel_rfl)
/--   api.Row -/
def ti70 : TI := ⟨.slice, 1, 24, false, .slice [] .nil, [], 47⟩
theorem tok70 : TOk Try.prog 70 ti70 := tok_mk (.slice none 0 0) (by kernel_rfl) Try.underlying70 rfl rfl rfl rfl rfl (by kernel_rfl) rfl (by kernel_rfl)
/-- struct   Name string  Rows   api.Row   -/
def ti71 : TI := ⟨.struct, 2, 40, true, .agg [.str [], .slice [] .nil], [(0, 1, false), (1, 1, false)], 0⟩
theorem tok71 : TOk Try.prog 71 ti71 := tok_mk (.agg #[.string ⟨#[]⟩, .slice none 0 0]) (by kernel_rfl) Try.underlying71 rfl rfl rfl rfl rfl (by kernel_rfl) rfl (by kernel_rfl)
/-- api.Table -/
def ti72 : TI := ⟨.struct, 2, 40, true, .agg [.str [], .slice [] .nil], [(0, 1, false), (1, 1, false)], 0⟩
theorem tok72 : TOk Try.prog 72 ti72 := tok_mk (.agg #[.string ⟨#[]⟩, .slice none 0 0]) (by kernel_rfl) Try.underlying72 rfl rfl rfl rfl rfl (by kernel_rfl) rfl (by kernel_rfl)
/--   api.Entry -/
def ti73 : TI := ⟨.slice, 1, 24, false, .slice [] .nil, [], 82⟩
theorem tok73 : TOk Try.prog 73 ti73 := tok_mk (.slice none 0 0) (by kernel_rfl) Try.underlying73 rfl rfl rfl rfl rfl (by kernel_rfl) rfl (by kernel_rfl)
/--   string -/
def ti74 : TI := ⟨.slice, 1, 24, false, .slice [] .nil, [], 9⟩
theorem tok74 : TOk Try.prog 74 ti74 := tok_mk (.slice none 0 0) (by kernel_rfl) Try.underlying74 rfl rfl rfl rfl rfl (by kernel_rfl) rfl (by kernel_rfl)
/-- struct   Table string  Keys   string   -/
def ti75 : TI := ⟨.struct, 2, 40, true, .agg [.str [], .slice [] .nil], [(0, 1, false), (1, 1, false)], 0⟩
theorem tok75 : TOk Try.prog 75 ti75 := tok_mk (.agg #[.string ⟨#[]⟩, .slice none 0 0]) (by kernel_rfl) Try.underlying75 rfl rfl rfl rfl rfl (by kernel_rfl) rfl (by kernel_rfl)
/-- api.Batch -/
def ti76 : TI := ⟨.struct, 2, 40, true, .agg [.str [], .slice [] .nil], [(0, 1, false), (1, 1, false)], 0⟩
theorem tok76 : TOk Try.prog 76 ti76 := tok_mk (.agg #[.string ⟨#[]⟩, .slice none 0 0]) (by kernel_rfl) Try.underlying76 rfl rfl rfl rfl rfl (by kernel_rfl) rfl (by kernel_rfl)
/-- struct   Do bool  C api.Cmd  B api.Batch   -/
def ti77 : TI := ⟨.struct, 8, 136, true, .agg [.bool false, .str [], .str [], .str [], .str [], .slice [] .nil, .str [], .slice [] .nil], [(0, 1, false), (1, 5, true), (6, 2, true)], 0⟩
theorem tok77 : TOk Try.prog 77 ti77 := tok_mk (.agg #[.bool false, .string ⟨#[]⟩, .string ⟨#[]⟩, .string ⟨#[]⟩, .string ⟨#[]⟩, .slice none 0 0, .string ⟨#[]⟩, .slice none 0 0]) (by kernel_rfl) Try.underlying77 rfl rfl rfl rfl rfl (by kernel_rfl) rfl (by kernel_rfl)
/-- seinelaw29.Op -/
def ti78 : TI := ⟨.struct, 8, 136, true, .agg [.bool false, .str [], .str [], .str [], .str [], .slice [] .nil, .str [], .slice [] .nil], [(0, 1, false), (1, 5, true), (6, 2, true)], 0⟩
theorem tok78 : TOk Try.prog 78 ti78 := tok_mk (.agg #[.bool false, .string ⟨#[]⟩, .string ⟨#[]⟩, .string ⟨#[]⟩, .string ⟨#[]⟩, .slice none 0 0, .string ⟨#[]⟩, .slice none 0 0]) (by kernel_rfl) Try.underlying78 rfl rfl rfl rfl rfl (by kernel_rfl) rfl (by kernel_rfl)
/-- struct   Batch api.Batch  Cmd api.Cmd   -/
def ti81 : TI := ⟨.struct, 7, 128, true, .agg [.str [], .slice [] .nil, .str [], .str [], .str [], .str [], .slice [] .nil], [(0, 2, true), (2, 5, true)], 0⟩
theorem tok81 : TOk Try.prog 81 ti81 := tok_mk (.agg #[.string ⟨#[]⟩, .slice none 0 0, .string ⟨#[]⟩, .string ⟨#[]⟩, .string ⟨#[]⟩, .string ⟨#[]⟩, .slice none 0 0]) (by kernel_rfl) Try.underlying81 rfl rfl rfl rfl rfl (by kernel_rfl) rfl (by kernel_rfl)
/-- api.Entry -/
def ti82 : TI := ⟨.struct, 7, 128, true, .agg [.str [], .slice [] .nil, .str [], .str [], .str [], .str [], .slice [] .nil], [(0, 2, true), (2, 5, true)], 0⟩
theorem tok82 : TOk Try.prog 82 ti82 := tok_mk (.agg #[.string ⟨#[]⟩, .slice none 0 0, .string ⟨#[]⟩, .string ⟨#[]⟩, .string ⟨#[]⟩, .string ⟨#[]⟩, .slice none 0 0]) (by kernel_rfl) Try.underlying82 rfl rfl rfl rfl rfl (by kernel_rfl) rfl (by kernel_rfl)
/--   api.Got -/
def ti83 : TI := ⟨.slice, 1, 24, false, .slice [] .nil, [], 50⟩
theorem tok83 : TOk Try.prog 83 ti83 := tok_mk (.slice none 0 0) (by kernel_rfl) Try.underlying83 rfl rfl rfl rfl rfl (by kernel_rfl) rfl (by kernel_rfl)
/-- struct   Name string  At int   -/
def ti109 : TI := ⟨.struct, 2, 24, true, .agg [.str [], .int .i64 0], [(0, 1, false), (1, 1, false)], 0⟩
theorem tok109 : TOk Try.prog 109 ti109 := tok_mk (.agg #[.string ⟨#[]⟩, .int .i64 0]) (by kernel_rfl) Try.underlying109 rfl rfl rfl rfl rfl (by kernel_rfl) rfl (by kernel_rfl)
/-- api.Step -/
def ti110 : TI := ⟨.struct, 2, 24, true, .agg [.str [], .int .i64 0], [(0, 1, false), (1, 1, false)], 0⟩
theorem tok110 : TOk Try.prog 110 ti110 := tok_mk (.agg #[.string ⟨#[]⟩, .int .i64 0]) (by kernel_rfl) Try.underlying110 rfl rfl rfl rfl rfl (by kernel_rfl) rfl (by kernel_rfl)
/-- struct   tables   api.Table  log   api.Entry   -/
def ti117 : TI := ⟨.struct, 2, 48, true, .agg [.slice [] .nil, .slice [] .nil], [(0, 1, false), (1, 1, false)], 0⟩
theorem tok117 : TOk Try.prog 117 ti117 := tok_mk (.agg #[.slice none 0 0, .slice none 0 0]) (by kernel_rfl) Try.underlying117 rfl rfl rfl rfl rfl (by kernel_rfl) rfl (by kernel_rfl)
/-- store.Store -/
def ti118 : TI := ⟨.struct, 2, 48, true, .agg [.slice [] .nil, .slice [] .nil], [(0, 1, false), (1, 1, false)], 0⟩
theorem tok118 : TOk Try.prog 118 ti118 := tok_mk (.agg #[.slice none 0 0, .slice none 0 0]) (by kernel_rfl) Try.underlying118 rfl rfl rfl rfl rfl (by kernel_rfl) rfl (by kernel_rfl)
/-- struct    -/
def ti124 : TI := ⟨.struct, 0, 0, true, .agg [], [], 0⟩
theorem tok124 : TOk Try.prog 124 ti124 := tok_mk (.agg #[]) (by kernel_rfl) Try.underlying124 rfl rfl rfl rfl rfl (by kernel_rfl) rfl (by kernel_rfl)
/-- command.burnt -/
def ti125 : TI := ⟨.struct, 0, 0, true, .agg [], [], 0⟩
theorem tok125 : TOk Try.prog 125 ti125 := tok_mk (.agg #[]) (by kernel_rfl) Try.underlying125 rfl rfl rfl rfl rfl (by kernel_rfl) rfl (by kernel_rfl)
/-- uint -/
def ti144 : TI := ⟨(.int .u64), 1, 8, false, .int .u64 0, [], 0⟩
theorem tok144 : TOk Try.prog 144 ti144 := tok_mk (.int .u64 0) (by kernel_rfl) Try.underlying144 rfl rfl rfl rfl rfl (by kernel_rfl) rfl (by kernel_rfl)
/-- uint32 -/
def ti152 : TI := ⟨(.int .u32), 1, 4, false, .int .u32 0, [], 0⟩
theorem tok152 : TOk Try.prog 152 ti152 := tok_mk (.int .u32 0) (by kernel_rfl) Try.underlying152 rfl rfl rfl rfl rfl (by kernel_rfl) rfl (by kernel_rfl)
/--  uint8 -/
def ti156 : TI := ⟨.pointer, 1, 8, false, .nilp, [], 5⟩
theorem tok156 : TOk Try.prog 156 ti156 := tok_mk (.pointer none) (by kernel_rfl) Try.underlying156 rfl rfl rfl rfl rfl (by kernel_rfl) rfl (by kernel_rfl)
def table : List (Nat × TI) := [(2, ⟨(.int .i64), 1, 8, false, .int .i64 0, [], 0⟩), (3, ⟨(.int .i64), 1, 8, false, .int .i64 0, [], 0⟩), (4, ⟨.bool, 1, 1, false, .bool false, [], 0⟩), (5, ⟨(.int .u8), 1, 1, false, .int .u8 0, [], 0⟩), (9, ⟨.string, 1, 16, false, .str [], [], 0⟩), (12, ⟨(.int .u64), 1, 8, false, .int .u64 0, [], 0⟩), (13, ⟨.struct, 2, 24, true, .agg [.str [], .int .u64 0], [(0, 1, false), (1, 1, false)], 0⟩), (20, ⟨.iface, 1, 16, false, .nili, [], 0⟩), (21, ⟨(.int .i32), 1, 4, false, .int .i32 0, [], 0⟩), (22, ⟨.slice, 1, 24, false, .slice [] .nil, [], 72⟩), (23, ⟨.slice, 1, 24, false, .slice [] .nil, [], 43⟩), (24, ⟨.struct, 5, 88, true, .agg [.str [], .str [], .str [], .str [], .slice [] .nil], [(0, 1, false), (1, 1, false), (2, 1, false), (3, 1, false), (4, 1, false)], 0⟩), (25, ⟨.struct, 5, 88, true, .agg [.str [], .str [], .str [], .str [], .slice [] .nil], [(0, 1, false), (1, 1, false), (2, 1, false), (3, 1, false), (4, 1, false)], 0⟩), (30, ⟨.slice, 1, 24, false, .slice [] .nil, [], 32⟩), (31, ⟨.struct, 5, 80, true, .agg [.int .i64 0, .int .i64 0, .str [], .slice [] .nil, .slice [] .nil], [(0, 1, false), (1, 1, false), (2, 1, false), (3, 1, false), (4, 1, false)], 0⟩), (32, ⟨.struct, 5, 80, true, .agg [.int .i64 0, .int .i64 0, .str [], .slice [] .nil, .slice [] .nil], [(0, 1, false), (1, 1, false), (2, 1, false), (3, 1, false), (4, 1, false)], 0⟩), (33, ⟨(.int .i64), 1, 8, false, .int .i64 0, [], 0⟩), (42, ⟨.struct, 6, 96, true, .agg [.str [], .int .i64 0, .int .i64 0, .str [], .slice [] .nil, .slice [] .nil], [(0, 1, false), (1, 5, true)], 0⟩), (43, ⟨.struct, 6, 96, true, .agg [.str [], .int .i64 0, .int .i64 0, .str [], .slice [] .nil, .slice [] .nil], [(0, 1, false), (1, 5, true)], 0⟩), (46, ⟨.struct, 4, 64, true, .agg [.str [], .str [], .slice [] .nil, .bool false], [(0, 1, false), (1, 1, false), (2, 1, false), (3, 1, false)], 0⟩), (47, ⟨.struct, 4, 64, true, .agg [.str [], .str [], .slice [] .nil, .bool false], [(0, 1, false), (1, 1, false), (2, 1, false), (3, 1, false)], 0⟩), (49, ⟨.struct, 6, 80, true, .agg [.str [], .str [], .slice [] .nil, .bool false, .bool false, .int .i64 0], [(0, 4, true), (4, 1, false), (5, 1, false)], 0⟩), (50, ⟨.struct, 6, 80, true, .agg [.str [], .str [], .slice [] .nil, .bool false, .bool false, .int .i64 0], [(0, 4, true), (4, 1, false), (5, 1, false)], 0⟩), (52, ⟨.struct, 2, 32, true, .agg [.str [], .str []], [(0, 1, false), (1, 1, false)], 0⟩), (53, ⟨.struct, 2, 32, true, .agg [.str [], .str []], [(0, 1, false), (1, 1, false)], 0⟩), (56, ⟨.slice, 1, 24, false, .slice [] .nil, [], 60⟩), (58, ⟨.slice, 1, 24, false, .slice [] .nil, [], 110⟩), (59, ⟨.struct, 2, 32, true, .agg [.slice [] .nil, .int .i64 0], [(0, 1, false), (1, 1, false)], 0⟩), (60, ⟨.struct, 2, 32, true, .agg [.slice [] .nil, .int .i64 0], [(0, 1, false), (1, 1, false)], 0⟩), (66, ⟨.slice, 1, 24, false, .slice [] .nil, [], 78⟩), (68, ⟨.pointer, 1, 8, false, .nilp, [], 118⟩), (70, ⟨.slice, 1, 24, false, .slice [] .nil, [], 47⟩), (71, ⟨.struct, 2, 40, true, .agg [.str [], .slice [] .nil], [(0, 1, false), (1, 1, false)], 0⟩), (72, ⟨.struct, 2, 40, true, .agg [.str [], .slice [] .nil], [(0, 1, false), (1, 1, false)], 0⟩), (73, ⟨.slice, 1, 24, false, .slice [] .nil, [], 82⟩), (74, ⟨.slice, 1, 24, false, .slice [] .nil, [], 9⟩), (75, ⟨.struct, 2, 40, true, .agg [.str [], .slice [] .nil], [(0, 1, false), (1, 1, false)], 0⟩), (76, ⟨.struct, 2, 40, true, .agg [.str [], .slice [] .nil], [(0, 1, false), (1, 1, false)], 0⟩), (77, ⟨.struct, 8, 136, true, .agg [.bool false, .str [], .str [], .str [], .str [], .slice [] .nil, .str [], .slice [] .nil], [(0, 1, false), (1, 5, true), (6, 2, true)], 0⟩), (78, ⟨.struct, 8, 136, true, .agg [.bool false, .str [], .str [], .str [], .str [], .slice [] .nil, .str [], .slice [] .nil], [(0, 1, false), (1, 5, true), (6, 2, true)], 0⟩), (81, ⟨.struct, 7, 128, true, .agg [.str [], .slice [] .nil, .str [], .str [], .str [], .str [], .slice [] .nil], [(0, 2, true), (2, 5, true)], 0⟩), (82, ⟨.struct, 7, 128, true, .agg [.str [], .slice [] .nil, .str [], .str [], .str [], .str [], .slice [] .nil], [(0, 2, true), (2, 5, true)], 0⟩), (83, ⟨.slice, 1, 24, false, .slice [] .nil, [], 50⟩), (109, ⟨.struct, 2, 24, true, .agg [.str [], .int .i64 0], [(0, 1, false), (1, 1, false)], 0⟩), (110, ⟨.struct, 2, 24, true, .agg [.str [], .int .i64 0], [(0, 1, false), (1, 1, false)], 0⟩), (117, ⟨.struct, 2, 48, true, .agg [.slice [] .nil, .slice [] .nil], [(0, 1, false), (1, 1, false)], 0⟩), (118, ⟨.struct, 2, 48, true, .agg [.slice [] .nil, .slice [] .nil], [(0, 1, false), (1, 1, false)], 0⟩), (124, ⟨.struct, 0, 0, true, .agg [], [], 0⟩), (125, ⟨.struct, 0, 0, true, .agg [], [], 0⟩), (144, ⟨(.int .u64), 1, 8, false, .int .u64 0, [], 0⟩), (152, ⟨(.int .u32), 1, 4, false, .int .u32 0, [], 0⟩), (156, ⟨.pointer, 1, 8, false, .nilp, [], 5⟩)]
theorem table_ok : LayOk Try.prog table := ⟨tok2, tok3, tok4, tok5, tok9, tok12, tok13, tok20, tok21, tok22, tok23, tok24, tok25, tok30, tok31, tok32, tok33, tok42, tok43, tok46, tok47, tok49, tok50, tok52, tok53, tok56, tok58, tok59, tok60, tok66, tok68, tok70, tok71, tok72, tok73, tok74, tok75, tok76, tok77, tok78, tok81, tok82, tok83, tok109, tok110, tok117, tok118, tok124, tok125, tok144, tok152, tok156, trivial⟩
instance : Lay Try.prog := ⟨table, table_ok, Try.checked.mixed⟩
end Go.Proofs.Ytajddgpkflbnaaa
