/-
  The table of this seat's types, written by a program of the prover's (genlay.py): closed facts.
-/
import Derived.Test.YtijlmchfepjjkaaDoorRows
import Derived.Test.YtijlmchfepjjkaaDoorAvLaw
import Derived.Test.YtijlmchfepjjkaaDoorAvTab
namespace Go.Proofs.YtijlmchfepjjkaaDoor
open Go Go.Av
set_option maxRecDepth 100000

instance : Globals := ⟨[(0, .agg (Lib.firstTab.map (AV.int .u8))), (1, .agg (accTab.map (AV.int .u8))), (2, .agg (Lib.pow10Tab.map (AV.int .u64))), (5, .iface 218 .undef), (6, .iface 218 .undef)], [(2, 20)]⟩
/-- int64 -/
def ti2 : TI := ⟨(.int .i64), 1, 8, false, .int .i64 0, [], 0⟩
theorem tok2 : TOk Tryd.prog 2 ti2 := tok_mk (.int .i64 0) (by kernel_rfl) Tryd.underlying2 rfl rfl rfl rfl rfl (by kernel_rfl) rfl (by kernel_rfl)
/-- int -/
def ti3 : TI := ⟨(.int .i64), 1, 8, false, .int .i64 0, [], 0⟩
theorem tok3 : TOk Tryd.prog 3 ti3 := tok_mk (.int .i64 0) (by kernel_rfl) Tryd.underlying3 rfl rfl rfl rfl rfl (by kernel_rfl) rfl (by kernel_rfl)
/-- bool -/
def ti4 : TI := ⟨.bool, 1, 1, false, .bool false, [], 0⟩
theorem tok4 : TOk Tryd.prog 4 ti4 := tok_mk (.bool false) (by kernel_rfl) Tryd.underlying4 rfl rfl rfl rfl rfl (by kernel_rfl) rfl (by kernel_rfl)
/-- uint8 -/
def ti5 : TI := ⟨(.int .u8), 1, 1, false, .int .u8 0, [], 0⟩
theorem tok5 : TOk Tryd.prog 5 ti5 := tok_mk (.int .u8 0) (by kernel_rfl) Tryd.underlying5 rfl rfl rfl rfl rfl (by kernel_rfl) rfl (by kernel_rfl)
/-- string -/
def ti9 : TI := ⟨.string, 1, 16, false, .str [], [], 0⟩
theorem tok9 : TOk Tryd.prog 9 ti9 := tok_mk (.string ⟨#[]⟩) (by kernel_rfl) Tryd.underlying9 rfl rfl rfl rfl rfl (by kernel_rfl) rfl (by kernel_rfl)
/-- uintptr -/
def ti12 : TI := ⟨(.int .u64), 1, 8, false, .int .u64 0, [], 0⟩
theorem tok12 : TOk Tryd.prog 12 ti12 := tok_mk (.int .u64 0) (by kernel_rfl) Tryd.underlying12 rfl rfl rfl rfl rfl (by kernel_rfl) rfl (by kernel_rfl)
/-- struct   msg string  addr uintptr   -/
def ti13 : TI := ⟨.struct, 2, 24, true, .agg [.str [], .int .u64 0], [(0, 1, false), (1, 1, false)], 0⟩
theorem tok13 : TOk Tryd.prog 13 ti13 := tok_mk (.agg #[.string ⟨#[]⟩, .int .u64 0]) (by kernel_rfl) Tryd.underlying13 rfl rfl rfl rfl rfl (by kernel_rfl) rfl (by kernel_rfl)
/-- interface    -/
def ti20 : TI := ⟨.iface, 1, 16, false, .nili, [], 0⟩
theorem tok20 : TOk Tryd.prog 20 ti20 := tok_mk (.nilIface) (by kernel_rfl) Tryd.underlying20 rfl rfl rfl rfl rfl (by kernel_rfl) rfl (by kernel_rfl)
/-- int32 -/
def ti21 : TI := ⟨(.int .i32), 1, 4, false, .int .i32 0, [], 0⟩
theorem tok21 : TOk Tryd.prog 21 ti21 := tok_mk (.int .i32 0) (by kernel_rfl) Tryd.underlying21 rfl rfl rfl rfl rfl (by kernel_rfl) rfl (by kernel_rfl)
/--   api.Def -/
def ti22 : TI := ⟨.slice, 1, 24, false, .slice [] .nil, [], 80⟩
theorem tok22 : TOk Tryd.prog 22 ti22 := tok_mk (.slice none 0 0) (by kernel_rfl) Tryd.underlying22 rfl rfl rfl rfl rfl (by kernel_rfl) rfl (by kernel_rfl)
/-- struct   Defs   api.Def  Query string  Mutation string   -/
def ti23 : TI := ⟨.struct, 3, 56, true, .agg [.slice [] .nil, .str [], .str []], [(0, 1, false), (1, 1, false), (2, 1, false)], 0⟩
theorem tok23 : TOk Tryd.prog 23 ti23 := tok_mk (.agg #[.slice none 0 0, .string ⟨#[]⟩, .string ⟨#[]⟩]) (by kernel_rfl) Tryd.underlying23 rfl rfl rfl rfl rfl (by kernel_rfl) rfl (by kernel_rfl)
/-- api.Schema -/
def ti24 : TI := ⟨.struct, 3, 56, true, .agg [.slice [] .nil, .str [], .str []], [(0, 1, false), (1, 1, false), (2, 1, false)], 0⟩
theorem tok24 : TOk Tryd.prog 24 ti24 := tok_mk (.agg #[.slice none 0 0, .string ⟨#[]⟩, .string ⟨#[]⟩]) (by kernel_rfl) Tryd.underlying24 rfl rfl rfl rfl rfl (by kernel_rfl) rfl (by kernel_rfl)
/--   api.Value -/
def ti25 : TI := ⟨.slice, 1, 24, false, .slice [] .nil, [], 28⟩
theorem tok25 : TOk Tryd.prog 25 ti25 := tok_mk (.slice none 0 0) (by kernel_rfl) Tryd.underlying25 rfl rfl rfl rfl rfl (by kernel_rfl) rfl (by kernel_rfl)
/--   api.Member -/
def ti26 : TI := ⟨.slice, 1, 24, false, .slice [] .nil, [], 88⟩
theorem tok26 : TOk Tryd.prog 26 ti26 := tok_mk (.slice none 0 0) (by kernel_rfl) Tryd.underlying26 rfl rfl rfl rfl rfl (by kernel_rfl) rfl (by kernel_rfl)
/-- struct   Kind int  N int64  S string  L   api.Value  M   api.Member   -/
def ti27 : TI := ⟨.struct, 5, 80, true, .agg [.int .i64 0, .int .i64 0, .str [], .slice [] .nil, .slice [] .nil], [(0, 1, false), (1, 1, false), (2, 1, false), (3, 1, false), (4, 1, false)], 0⟩
theorem tok27 : TOk Tryd.prog 27 ti27 := tok_mk (.agg #[.int .i64 0, .int .i64 0, .string ⟨#[]⟩, .slice none 0 0, .slice none 0 0]) (by kernel_rfl) Tryd.underlying27 rfl rfl rfl rfl rfl (by kernel_rfl) rfl (by kernel_rfl)
/-- api.Value -/
def ti28 : TI := ⟨.struct, 5, 80, true, .agg [.int .i64 0, .int .i64 0, .str [], .slice [] .nil, .slice [] .nil], [(0, 1, false), (1, 1, false), (2, 1, false), (3, 1, false), (4, 1, false)], 0⟩
theorem tok28 : TOk Tryd.prog 28 ti28 := tok_mk (.agg #[.int .i64 0, .int .i64 0, .string ⟨#[]⟩, .slice none 0 0, .slice none 0 0]) (by kernel_rfl) Tryd.underlying28 rfl rfl rfl rfl rfl (by kernel_rfl) rfl (by kernel_rfl)
/-- api.Errno -/
def ti32 : TI := ⟨(.int .i64), 1, 8, false, .int .i64 0, [], 0⟩
theorem tok32 : TOk Tryd.prog 32 ti32 := tok_mk (.int .i64 0) (by kernel_rfl) Tryd.underlying32 rfl rfl rfl rfl rfl (by kernel_rfl) rfl (by kernel_rfl)
/--   api.Table -/
def ti40 : TI := ⟨.slice, 1, 24, false, .slice [] .nil, [], 115⟩
theorem tok40 : TOk Tryd.prog 40 ti40 := tok_mk (.slice none 0 0) (by kernel_rfl) Tryd.underlying40 rfl rfl rfl rfl rfl (by kernel_rfl) rfl (by kernel_rfl)
/-- struct   Table string  Key string   -/
def ti41 : TI := ⟨.struct, 2, 32, true, .agg [.str [], .str []], [(0, 1, false), (1, 1, false)], 0⟩
theorem tok41 : TOk Tryd.prog 41 ti41 := tok_mk (.agg #[.string ⟨#[]⟩, .string ⟨#[]⟩]) (by kernel_rfl) Tryd.underlying41 rfl rfl rfl rfl rfl (by kernel_rfl) rfl (by kernel_rfl)
/-- api.Need -/
def ti42 : TI := ⟨.struct, 2, 32, true, .agg [.str [], .str []], [(0, 1, false), (1, 1, false)], 0⟩
theorem tok42 : TOk Tryd.prog 42 ti42 := tok_mk (.agg #[.string ⟨#[]⟩, .string ⟨#[]⟩]) (by kernel_rfl) Tryd.underlying42 rfl rfl rfl rfl rfl (by kernel_rfl) rfl (by kernel_rfl)
/-- struct   Key string  Type string  Cols   api.Member  Broken bool   -/
def ti45 : TI := ⟨.struct, 4, 64, true, .agg [.str [], .str [], .slice [] .nil, .bool false], [(0, 1, false), (1, 1, false), (2, 1, false), (3, 1, false)], 0⟩
theorem tok45 : TOk Tryd.prog 45 ti45 := tok_mk (.agg #[.string ⟨#[]⟩, .string ⟨#[]⟩, .slice none 0 0, .bool false]) (by kernel_rfl) Tryd.underlying45 rfl rfl rfl rfl rfl (by kernel_rfl) rfl (by kernel_rfl)
/-- api.Row -/
def ti46 : TI := ⟨.struct, 4, 64, true, .agg [.str [], .str [], .slice [] .nil, .bool false], [(0, 1, false), (1, 1, false), (2, 1, false), (3, 1, false)], 0⟩
theorem tok46 : TOk Tryd.prog 46 ti46 := tok_mk (.agg #[.string ⟨#[]⟩, .string ⟨#[]⟩, .slice none 0 0, .bool false]) (by kernel_rfl) Tryd.underlying46 rfl rfl rfl rfl rfl (by kernel_rfl) rfl (by kernel_rfl)
/-- struct   Row api.Row  Is bool  E api.Errno   -/
def ti47 : TI := ⟨.struct, 6, 80, true, .agg [.str [], .str [], .slice [] .nil, .bool false, .bool false, .int .i64 0], [(0, 4, true), (4, 1, false), (5, 1, false)], 0⟩
theorem tok47 : TOk Tryd.prog 47 ti47 := tok_mk (.agg #[.string ⟨#[]⟩, .string ⟨#[]⟩, .slice none 0 0, .bool false, .bool false, .int .i64 0]) (by kernel_rfl) Tryd.underlying47 rfl rfl rfl rfl rfl (by kernel_rfl) rfl (by kernel_rfl)
/-- api.Got -/
def ti48 : TI := ⟨.struct, 6, 80, true, .agg [.str [], .str [], .slice [] .nil, .bool false, .bool false, .int .i64 0], [(0, 4, true), (4, 1, false), (5, 1, false)], 0⟩
theorem tok48 : TOk Tryd.prog 48 ti48 := tok_mk (.agg #[.string ⟨#[]⟩, .string ⟨#[]⟩, .slice none 0 0, .bool false, .bool false, .int .i64 0]) (by kernel_rfl) Tryd.underlying48 rfl rfl rfl rfl rfl (by kernel_rfl) rfl (by kernel_rfl)
/-- struct   Name string  Lists int  Musts int   -/
def ti59 : TI := ⟨.struct, 3, 32, true, .agg [.str [], .int .i64 0, .int .i64 0], [(0, 1, false), (1, 1, false), (2, 1, false)], 0⟩
theorem tok59 : TOk Tryd.prog 59 ti59 := tok_mk (.agg #[.string ⟨#[]⟩, .int .i64 0, .int .i64 0]) (by kernel_rfl) Tryd.underlying59 rfl rfl rfl rfl rfl (by kernel_rfl) rfl (by kernel_rfl)
/-- api.Type -/
def ti60 : TI := ⟨.struct, 3, 32, true, .agg [.str [], .int .i64 0, .int .i64 0], [(0, 1, false), (1, 1, false), (2, 1, false)], 0⟩
theorem tok60 : TOk Tryd.prog 60 ti60 := tok_mk (.agg #[.string ⟨#[]⟩, .int .i64 0, .int .i64 0]) (by kernel_rfl) Tryd.underlying60 rfl rfl rfl rfl rfl (by kernel_rfl) rfl (by kernel_rfl)
/--   api.Spot -/
def ti68 : TI := ⟨.slice, 1, 24, false, .slice [] .nil, [], 74⟩
theorem tok68 : TOk Tryd.prog 68 ti68 := tok_mk (.slice none 0 0) (by kernel_rfl) Tryd.underlying68 rfl rfl rfl rfl rfl (by kernel_rfl) rfl (by kernel_rfl)
/--   string -/
def ti70 : TI := ⟨.slice, 1, 24, false, .slice [] .nil, [], 9⟩
theorem tok70 : TOk Tryd.prog 70 ti70 := tok_mk (.slice none 0 0) (by kernel_rfl) Tryd.underlying70 rfl rfl rfl rfl rfl (by kernel_rfl) rfl (by kernel_rfl)
/-- struct   Var string  T api.Type  Has bool   -/
def ti73 : TI := ⟨.struct, 5, 56, true, .agg [.str [], .str [], .int .i64 0, .int .i64 0, .bool false], [(0, 1, false), (1, 3, true), (4, 1, false)], 0⟩
theorem tok73 : TOk Tryd.prog 73 ti73 := tok_mk (.agg #[.string ⟨#[]⟩, .string ⟨#[]⟩, .int .i64 0, .int .i64 0, .bool false]) (by kernel_rfl) Tryd.underlying73 rfl rfl rfl rfl rfl (by kernel_rfl) rfl (by kernel_rfl)
/-- api.Spot -/
def ti74 : TI := ⟨.struct, 5, 56, true, .agg [.str [], .str [], .int .i64 0, .int .i64 0, .bool false], [(0, 1, false), (1, 3, true), (4, 1, false)], 0⟩
theorem tok74 : TOk Tryd.prog 74 ti74 := tok_mk (.agg #[.string ⟨#[]⟩, .string ⟨#[]⟩, .int .i64 0, .int .i64 0, .bool false]) (by kernel_rfl) Tryd.underlying74 rfl rfl rfl rfl rfl (by kernel_rfl) rfl (by kernel_rfl)
/--   api.Param -/
def ti76 : TI := ⟨.slice, 1, 24, false, .slice [] .nil, [], 86⟩
theorem tok76 : TOk Tryd.prog 76 ti76 := tok_mk (.slice none 0 0) (by kernel_rfl) Tryd.underlying76 rfl rfl rfl rfl rfl (by kernel_rfl) rfl (by kernel_rfl)
/--   api.FieldDef -/
def ti78 : TI := ⟨.slice, 1, 24, false, .slice [] .nil, [], 103⟩
theorem tok78 : TOk Tryd.prog 78 ti78 := tok_mk (.slice none 0 0) (by kernel_rfl) Tryd.underlying78 rfl rfl rfl rfl rfl (by kernel_rfl) rfl (by kernel_rfl)
/-- struct   Kind int  Name string  Faces   string  Fields   api.FieldDef  Parts   s -/
def ti79 : TI := ⟨.struct, 6, 120, true, .agg [.int .i64 0, .str [], .slice [] .nil, .slice [] .nil, .slice [] .nil, .slice [] .nil], [(0, 1, false), (1, 1, false), (2, 1, false), (3, 1, false), (4, 1, false), (5, 1, false)], 0⟩
theorem tok79 : TOk Tryd.prog 79 ti79 := tok_mk (.agg #[.int .i64 0, .string ⟨#[]⟩, .slice none 0 0, .slice none 0 0, .slice none 0 0, .slice none 0 0]) (by kernel_rfl) Tryd.underlying79 rfl rfl rfl rfl rfl (by kernel_rfl) rfl (by kernel_rfl)
/-- api.Def -/
def ti80 : TI := ⟨.struct, 6, 120, true, .agg [.int .i64 0, .str [], .slice [] .nil, .slice [] .nil, .slice [] .nil, .slice [] .nil], [(0, 1, false), (1, 1, false), (2, 1, false), (3, 1, false), (4, 1, false), (5, 1, false)], 0⟩
theorem tok80 : TOk Tryd.prog 80 ti80 := tok_mk (.agg #[.int .i64 0, .string ⟨#[]⟩, .slice none 0 0, .slice none 0 0, .slice none 0 0, .slice none 0 0]) (by kernel_rfl) Tryd.underlying80 rfl rfl rfl rfl rfl (by kernel_rfl) rfl (by kernel_rfl)
/-- struct   Name string  T api.Type  Has bool  Default api.Value   -/
def ti85 : TI := ⟨.struct, 10, 136, true, .agg [.str [], .str [], .int .i64 0, .int .i64 0, .bool false, .int .i64 0, .int .i64 0, .str [], .slice [] .nil, .slice [] .nil], [(0, 1, false), (1, 3, true), (4, 1, false), (5, 5, true)], 0⟩
theorem tok85 : TOk Tryd.prog 85 ti85 := tok_mk (.agg #[.string ⟨#[]⟩, .string ⟨#[]⟩, .int .i64 0, .int .i64 0, .bool false, .int .i64 0, .int .i64 0, .string ⟨#[]⟩, .slice none 0 0, .slice none 0 0]) (by kernel_rfl) Tryd.underlying85 rfl rfl rfl rfl rfl (by kernel_rfl) rfl (by kernel_rfl)
/-- api.Param -/
def ti86 : TI := ⟨.struct, 10, 136, true, .agg [.str [], .str [], .int .i64 0, .int .i64 0, .bool false, .int .i64 0, .int .i64 0, .str [], .slice [] .nil, .slice [] .nil], [(0, 1, false), (1, 3, true), (4, 1, false), (5, 5, true)], 0⟩
theorem tok86 : TOk Tryd.prog 86 ti86 := tok_mk (.agg #[.string ⟨#[]⟩, .string ⟨#[]⟩, .int .i64 0, .int .i64 0, .bool false, .int .i64 0, .int .i64 0, .string ⟨#[]⟩, .slice none 0 0, .slice none 0 0]) (by kernel_rfl) Tryd.underlying86 rfl rfl rfl rfl rfl (by kernel_rfl) rfl (by kernel_rfl)
/-- struct   Name string  V api.Value   -/
def ti87 : TI := ⟨.struct, 6, 96, true, .agg [.str [], .int .i64 0, .int .i64 0, .str [], .slice [] .nil, .slice [] .nil], [(0, 1, false), (1, 5, true)], 0⟩
theorem tok87 : TOk Tryd.prog 87 ti87 := tok_mk (.agg #[.string ⟨#[]⟩, .int .i64 0, .int .i64 0, .string ⟨#[]⟩, .slice none 0 0, .slice none 0 0]) (by kernel_rfl) Tryd.underlying87 rfl rfl rfl rfl rfl (by kernel_rfl) rfl (by kernel_rfl)
/-- api.Member -/
def ti88 : TI := ⟨.struct, 6, 96, true, .agg [.str [], .int .i64 0, .int .i64 0, .str [], .slice [] .nil, .slice [] .nil], [(0, 1, false), (1, 5, true)], 0⟩
theorem tok88 : TOk Tryd.prog 88 ti88 := tok_mk (.agg #[.string ⟨#[]⟩, .int .i64 0, .int .i64 0, .string ⟨#[]⟩, .slice none 0 0, .slice none 0 0]) (by kernel_rfl) Tryd.underlying88 rfl rfl rfl rfl rfl (by kernel_rfl) rfl (by kernel_rfl)
/-- struct   Name string  Table string  Col string  Type string  Args   api.Member   -/
def ti90 : TI := ⟨.struct, 5, 88, true, .agg [.str [], .str [], .str [], .str [], .slice [] .nil], [(0, 1, false), (1, 1, false), (2, 1, false), (3, 1, false), (4, 1, false)], 0⟩
theorem tok90 : TOk Tryd.prog 90 ti90 := tok_mk (.agg #[.string ⟨#[]⟩, .string ⟨#[]⟩, .string ⟨#[]⟩, .string ⟨#[]⟩, .slice none 0 0]) (by kernel_rfl) Tryd.underlying90 rfl rfl rfl rfl rfl (by kernel_rfl) rfl (by kernel_rfl)
/-- api.Cmd -/
def ti91 : TI := ⟨.struct, 5, 88, true, .agg [.str [], .str [], .str [], .str [], .slice [] .nil], [(0, 1, false), (1, 1, false), (2, 1, false), (3, 1, false), (4, 1, false)], 0⟩
theorem tok91 : TOk Tryd.prog 91 ti91 := tok_mk (.agg #[.string ⟨#[]⟩, .string ⟨#[]⟩, .string ⟨#[]⟩, .string ⟨#[]⟩, .slice none 0 0]) (by kernel_rfl) Tryd.underlying91 rfl rfl rfl rfl rfl (by kernel_rfl) rfl (by kernel_rfl)
/--   api.Dir -/
def ti101 : TI := ⟨.slice, 1, 24, false, .slice [] .nil, [], 143⟩
theorem tok101 : TOk Tryd.prog 101 ti101 := tok_mk (.slice none 0 0) (by kernel_rfl) Tryd.underlying101 rfl rfl rfl rfl rfl (by kernel_rfl) rfl (by kernel_rfl)
/-- struct   Name string  Params   api.Param  T api.Type  Dirs   api.Dir   -/
def ti102 : TI := ⟨.struct, 6, 96, true, .agg [.str [], .slice [] .nil, .str [], .int .i64 0, .int .i64 0, .slice [] .nil], [(0, 1, false), (1, 1, false), (2, 3, true), (5, 1, false)], 0⟩
theorem tok102 : TOk Tryd.prog 102 ti102 := tok_mk (.agg #[.string ⟨#[]⟩, .slice none 0 0, .string ⟨#[]⟩, .int .i64 0, .int .i64 0, .slice none 0 0]) (by kernel_rfl) Tryd.underlying102 rfl rfl rfl rfl rfl (by kernel_rfl) rfl (by kernel_rfl)
/-- api.FieldDef -/
def ti103 : TI := ⟨.struct, 6, 96, true, .agg [.str [], .slice [] .nil, .str [], .int .i64 0, .int .i64 0, .slice [] .nil], [(0, 1, false), (1, 1, false), (2, 3, true), (5, 1, false)], 0⟩
theorem tok103 : TOk Tryd.prog 103 ti103 := tok_mk (.agg #[.string ⟨#[]⟩, .slice none 0 0, .string ⟨#[]⟩, .int .i64 0, .int .i64 0, .slice none 0 0]) (by kernel_rfl) Tryd.underlying103 rfl rfl rfl rfl rfl (by kernel_rfl) rfl (by kernel_rfl)
/--   api.Row -/
def ti113 : TI := ⟨.slice, 1, 24, false, .slice [] .nil, [], 46⟩
theorem tok113 : TOk Tryd.prog 113 ti113 := tok_mk (.slice none 0 0) (by kernel_rfl) Tryd.underlying113 rfl rfl rfl rfl rfl (by kernel_rfl) rfl (by kernel_rfl)
/-- struct   Name string  Rows   api.Row   -/
def ti114 : TI := ⟨.struct, 2, 40, true, .agg [.str [], .slice [] .nil], [(0, 1, false), (1, 1, false)], 0⟩
theorem tok114 : TOk Tryd.prog 114 ti114 := tok_mk (.agg #[.string ⟨#[]⟩, .slice none 0 0]) (by kernel_rfl) Tryd.underlying114 rfl rfl rfl rfl rfl (by kernel_rfl) rfl (by kernel_rfl)
/-- api.Table -/
def ti115 : TI := ⟨.struct, 2, 40, true, .agg [.str [], .slice [] .nil], [(0, 1, false), (1, 1, false)], 0⟩
theorem tok115 : TOk Tryd.prog 115 ti115 := tok_mk (.agg #[.string ⟨#[]⟩, .slice none 0 0]) (by kernel_rfl) Tryd.underlying115 rfl rfl rfl rfl rfl (by kernel_rfl) rfl (by kernel_rfl)
/-- map string bool -/
def ti123 : TI := ⟨.map, 1, 8, false, .nilmap, [], 4⟩
theorem tok123 : TOk Tryd.prog 123 ti123 := tok_mk (.map none) (by kernel_rfl) Tryd.underlying123 rfl rfl rfl rfl rfl (by kernel_rfl) rfl (by kernel_rfl)
/-- uint -/
def ti131 : TI := ⟨(.int .u64), 1, 8, false, .int .u64 0, [], 0⟩
theorem tok131 : TOk Tryd.prog 131 ti131 := tok_mk (.int .u64 0) (by kernel_rfl) Tryd.underlying131 rfl rfl rfl rfl rfl (by kernel_rfl) rfl (by kernel_rfl)
/-- struct   s api.Schema  written bool  within bool  env   api.Member   -/
def ti136 : TI := ⟨.struct, 6, 88, true, .agg [.slice [] .nil, .str [], .str [], .bool false, .bool false, .slice [] .nil], [(0, 3, true), (3, 1, false), (4, 1, false), (5, 1, false)], 0⟩
theorem tok136 : TOk Tryd.prog 136 ti136 := tok_mk (.agg #[.slice none 0 0, .string ⟨#[]⟩, .string ⟨#[]⟩, .bool false, .bool false, .slice none 0 0]) (by kernel_rfl) Tryd.underlying136 rfl rfl rfl rfl rfl (by kernel_rfl) rfl (by kernel_rfl)
/-- coerce.maker -/
def ti137 : TI := ⟨.struct, 6, 88, true, .agg [.slice [] .nil, .str [], .str [], .bool false, .bool false, .slice [] .nil], [(0, 3, true), (3, 1, false), (4, 1, false), (5, 1, false)], 0⟩
theorem tok137 : TOk Tryd.prog 137 ti137 := tok_mk (.agg #[.slice none 0 0, .string ⟨#[]⟩, .string ⟨#[]⟩, .bool false, .bool false, .slice none 0 0]) (by kernel_rfl) Tryd.underlying137 rfl rfl rfl rfl rfl (by kernel_rfl) rfl (by kernel_rfl)
/-- struct   Name string  Args   api.Member   -/
def ti142 : TI := ⟨.struct, 2, 40, true, .agg [.str [], .slice [] .nil], [(0, 1, false), (1, 1, false)], 0⟩
theorem tok142 : TOk Tryd.prog 142 ti142 := tok_mk (.agg #[.string ⟨#[]⟩, .slice none 0 0]) (by kernel_rfl) Tryd.underlying142 rfl rfl rfl rfl rfl (by kernel_rfl) rfl (by kernel_rfl)
/-- api.Dir -/
def ti143 : TI := ⟨.struct, 2, 40, true, .agg [.str [], .slice [] .nil], [(0, 1, false), (1, 1, false)], 0⟩
theorem tok143 : TOk Tryd.prog 143 ti143 := tok_mk (.agg #[.string ⟨#[]⟩, .slice none 0 0]) (by kernel_rfl) Tryd.underlying143 rfl rfl rfl rfl rfl (by kernel_rfl) rfl (by kernel_rfl)
/--   int -/
def ti145 : TI := ⟨.slice, 1, 24, false, .slice [] .nil, [], 3⟩
theorem tok145 : TOk Tryd.prog 145 ti145 := tok_mk (.slice none 0 0) (by kernel_rfl) Tryd.underlying145 rfl rfl rfl rfl rfl (by kernel_rfl) rfl (by kernel_rfl)
/-- struct   lo uint8  hi uint8   -/
def ti154 : TI := ⟨.struct, 2, 2, true, .agg [.int .u8 0, .int .u8 0], [(0, 1, false), (1, 1, false)], 0⟩
theorem tok154 : TOk Tryd.prog 154 ti154 := tok_mk (.agg #[.int .u8 0, .int .u8 0]) (by kernel_rfl) Tryd.underlying154 rfl rfl rfl rfl rfl (by kernel_rfl) rfl (by kernel_rfl)
/-- utf8.acceptRange -/
def ti155 : TI := ⟨.struct, 2, 2, true, .agg [.int .u8 0, .int .u8 0], [(0, 1, false), (1, 1, false)], 0⟩
theorem tok155 : TOk Tryd.prog 155 ti155 := tok_mk (.agg #[.int .u8 0, .int .u8 0]) (by kernel_rfl) Tryd.underlying155 rfl rfl rfl rfl rfl (by kernel_rfl) rfl (by kernel_rfl)
/--  16 utf8.acceptRange -/
def ti156 : TI := ⟨(.array 16), 32, 32, true, .agg [.int .u8 0, .int .u8 0, .int .u8 0, .int .u8 0, .int .u8 0, .int .u8 0, .int .u8 0, .int .u8 0, .int .u8 0, .int .u8 0, .int .u8 0, .int .u8 0, .int .u8 0, .int .u8 0, .int .u8 0, .int .u8 0, .int .u8 0, .int .u8 0, .int .u8 0, .int .u8 0, .int .u8 0, .int .u8 0, .int .u8 0, .int .u8 0, .int .u8 0, .int .u8 0, .int .u8 0, .int .u8 0, .int .u8 0, .int .u8 0, .int .u8 0, .int .u8 0], [], 155⟩
theorem tok156 : TOk Tryd.prog 156 ti156 := tok_mk (.agg #[.int .u8 0, .int .u8 0, .int .u8 0, .int .u8 0, .int .u8 0, .int .u8 0, .int .u8 0, .int .u8 0, .int .u8 0, .int .u8 0, .int .u8 0, .int .u8 0, .int .u8 0, .int .u8 0, .int .u8 0, .int .u8 0, .int .u8 0, .int .u8 0, .int .u8 0, .int .u8 0, .int .u8 0, .int .u8 0, .int .u8 0, .int .u8 0, .int .u8 0, .int .u8 0, .int .u8 0, .int .u8 0, .int .u8 0, .int .u8 0, .int .u8 0, .int .u8 0]) (by kernel_rfl) Tryd.underlying156 rfl rfl rfl rfl rfl (by kernel_rfl) rfl (by kernel_rfl)
/-- struct    -/
def ti164 : TI := ⟨.struct, 0, 0, true, .agg [], [], 0⟩
theorem tok164 : TOk Tryd.prog 164 ti164 := tok_mk (.agg #[]) (by kernel_rfl) Tryd.underlying164 rfl rfl rfl rfl rfl (by kernel_rfl) rfl (by kernel_rfl)
/-- command.burnt -/
def ti165 : TI := ⟨.struct, 0, 0, true, .agg [], [], 0⟩
theorem tok165 : TOk Tryd.prog 165 ti165 := tok_mk (.agg #[]) (by kernel_rfl) Tryd.underlying165 rfl rfl rfl rfl rfl (by kernel_rfl) rfl (by kernel_rfl)
/--  24 uint8 -/
def ti169 : TI := ⟨(.array 24), 24, 24, true, .agg [.int .u8 0, .int .u8 0, .int .u8 0, .int .u8 0, .int .u8 0, .int .u8 0, .int .u8 0, .int .u8 0, .int .u8 0, .int .u8 0, .int .u8 0, .int .u8 0, .int .u8 0, .int .u8 0, .int .u8 0, .int .u8 0, .int .u8 0, .int .u8 0, .int .u8 0, .int .u8 0, .int .u8 0, .int .u8 0, .int .u8 0, .int .u8 0], [], 5⟩
theorem tok169 : TOk Tryd.prog 169 ti169 := tok_mk (.agg #[.int .u8 0, .int .u8 0, .int .u8 0, .int .u8 0, .int .u8 0, .int .u8 0, .int .u8 0, .int .u8 0, .int .u8 0, .int .u8 0, .int .u8 0, .int .u8 0, .int .u8 0, .int .u8 0, .int .u8 0, .int .u8 0, .int .u8 0, .int .u8 0, .int .u8 0, .int .u8 0, .int .u8 0, .int .u8 0, .int .u8 0, .int .u8 0]) (by kernel_rfl) Tryd.underlying169 rfl rfl rfl rfl rfl (by kernel_rfl) rfl (by kernel_rfl)
/-- uint64 -/
def ti170 : TI := ⟨(.int .u64), 1, 8, false, .int .u64 0, [], 0⟩
theorem tok170 : TOk Tryd.prog 170 ti170 := tok_mk (.int .u64 0) (by kernel_rfl) Tryd.underlying170 rfl rfl rfl rfl rfl (by kernel_rfl) rfl (by kernel_rfl)
/--   uint8 -/
def ti173 : TI := ⟨.slice, 1, 24, false, .slice [] .nil, [], 5⟩
theorem tok173 : TOk Tryd.prog 173 ti173 := tok_mk (.slice none 0 0) (by kernel_rfl) Tryd.underlying173 rfl rfl rfl rfl rfl (by kernel_rfl) rfl (by kernel_rfl)
/--  20 uint64 -/
def ti187 : TI := ⟨(.array 20), 20, 160, true, .agg [.int .u64 0, .int .u64 0, .int .u64 0, .int .u64 0, .int .u64 0, .int .u64 0, .int .u64 0, .int .u64 0, .int .u64 0, .int .u64 0, .int .u64 0, .int .u64 0, .int .u64 0, .int .u64 0, .int .u64 0, .int .u64 0, .int .u64 0, .int .u64 0, .int .u64 0, .int .u64 0], [], 170⟩
theorem tok187 : TOk Tryd.prog 187 ti187 := tok_mk (.agg #[.int .u64 0, .int .u64 0, .int .u64 0, .int .u64 0, .int .u64 0, .int .u64 0, .int .u64 0, .int .u64 0, .int .u64 0, .int .u64 0, .int .u64 0, .int .u64 0, .int .u64 0, .int .u64 0, .int .u64 0, .int .u64 0, .int .u64 0, .int .u64 0, .int .u64 0, .int .u64 0]) (by kernel_rfl) Tryd.underlying187 rfl rfl rfl rfl rfl (by kernel_rfl) rfl (by kernel_rfl)
/-- uint32 -/
def ti188 : TI := ⟨(.int .u32), 1, 4, false, .int .u32 0, [], 0⟩
theorem tok188 : TOk Tryd.prog 188 ti188 := tok_mk (.int .u32 0) (by kernel_rfl) Tryd.underlying188 rfl rfl rfl rfl rfl (by kernel_rfl) rfl (by kernel_rfl)
/-- interface   Error   string   -/
def ti198 : TI := ⟨.iface, 1, 16, false, .nili, [], 0⟩
theorem tok198 : TOk Tryd.prog 198 ti198 := tok_mk (.nilIface) (by kernel_rfl) Tryd.underlying198 rfl rfl rfl rfl rfl (by kernel_rfl) rfl (by kernel_rfl)
/-- error -/
def ti199 : TI := ⟨.iface, 1, 16, false, .nili, [], 0⟩
theorem tok199 : TOk Tryd.prog 199 ti199 := tok_mk (.nilIface) (by kernel_rfl) Tryd.underlying199 rfl rfl rfl rfl rfl (by kernel_rfl) rfl (by kernel_rfl)
/--  32 uint8 -/
def ti202 : TI := ⟨(.array 32), 32, 32, true, .agg [.int .u8 0, .int .u8 0, .int .u8 0, .int .u8 0, .int .u8 0, .int .u8 0, .int .u8 0, .int .u8 0, .int .u8 0, .int .u8 0, .int .u8 0, .int .u8 0, .int .u8 0, .int .u8 0, .int .u8 0, .int .u8 0, .int .u8 0, .int .u8 0, .int .u8 0, .int .u8 0, .int .u8 0, .int .u8 0, .int .u8 0, .int .u8 0, .int .u8 0, .int .u8 0, .int .u8 0, .int .u8 0, .int .u8 0, .int .u8 0, .int .u8 0, .int .u8 0], [], 5⟩
theorem tok202 : TOk Tryd.prog 202 ti202 := tok_mk (.agg #[.int .u8 0, .int .u8 0, .int .u8 0, .int .u8 0, .int .u8 0, .int .u8 0, .int .u8 0, .int .u8 0, .int .u8 0, .int .u8 0, .int .u8 0, .int .u8 0, .int .u8 0, .int .u8 0, .int .u8 0, .int .u8 0, .int .u8 0, .int .u8 0, .int .u8 0, .int .u8 0, .int .u8 0, .int .u8 0, .int .u8 0, .int .u8 0, .int .u8 0, .int .u8 0, .int .u8 0, .int .u8 0, .int .u8 0, .int .u8 0, .int .u8 0, .int .u8 0]) (by kernel_rfl) Tryd.underlying202 rfl rfl rfl rfl rfl (by kernel_rfl) rfl (by kernel_rfl)
/--  64 uint8 -/
def ti203 : TI := ⟨(.array 64), 64, 64, true, .agg [.int .u8 0, .int .u8 0, .int .u8 0, .int .u8 0, .int .u8 0, .int .u8 0, .int .u8 0, .int .u8 0, .int .u8 0, .int .u8 0, .int .u8 0, .int .u8 0, .int .u8 0, .int .u8 0, .int .u8 0, .int .u8 0, .int .u8 0, .int .u8 0, .int .u8 0, .int .u8 0, .int .u8 0, .int .u8 0, .int .u8 0, .int .u8 0, .int .u8 0, .int .u8 0, .int .u8 0, .int .u8 0, .int .u8 0, .int .u8 0, .int .u8 0, .int .u8 0, .int .u8 0, .int .u8 0, .int .u8 0, .int .u8 0, .int .u8 0, .int .u8 0, .int .u8 0, .int .u8 0, .int .u8 0, .int .u8 0, .int .u8 0, .int .u8 0, .int .u8 0, .int .u8 0, .int .u8 0, .int .u8 0, .int .u8 0, .int .u8 0, .int .u8 0, .int .u8 0, .int .u8 0, .int .u8 0, .int .u8 0, .int .u8 0, .int .u8 0, .int .u8 0, .int .u8 0, .int .u8 0, .int .u8 0, .int .u8 0, .int .u8 0, .int .u8 0], [], 5⟩
theorem tok203 : TOk Tryd.prog 203 ti203 := tok_mk (.agg #[.int .u8 0, .int .u8 0, .int .u8 0, .int .u8 0, .int .u8 0, .int .u8 0, .int .u8 0, .int .u8 0, .int .u8 0, .int .u8 0, .int .u8 0, .int .u8 0, .int .u8 0, .int .u8 0, .int .u8 0, .int .u8 0, .int .u8 0, .int .u8 0, .int .u8 0, .int .u8 0, .int .u8 0, .int .u8 0, .int .u8 0, .int .u8 0, .int .u8 0, .int .u8 0, .int .u8 0, .int .u8 0, .int .u8 0, .int .u8 0, .int .u8 0, .int .u8 0, .int .u8 0, .int .u8 0, .int .u8 0, .int .u8 0, .int .u8 0, .int .u8 0, .int .u8 0, .int .u8 0, .int .u8 0, .int .u8 0, .int .u8 0, .int .u8 0, .int .u8 0, .int .u8 0, .int .u8 0, .int .u8 0, .int .u8 0, .int .u8 0, .int .u8 0, .int .u8 0, .int .u8 0, .int .u8 0, .int .u8 0, .int .u8 0, .int .u8 0, .int .u8 0, .int .u8 0, .int .u8 0, .int .u8 0, .int .u8 0, .int .u8 0, .int .u8 0]) (by kernel_rfl) Tryd.underlying203 rfl rfl rfl rfl rfl (by kernel_rfl) rfl (by kernel_rfl)
/-- strconv.Error -/
def ti206 : TI := ⟨(.int .i64), 1, 8, false, .int .i64 0, [], 0⟩
theorem tok206 : TOk Tryd.prog 206 ti206 := tok_mk (.int .i64 0) (by kernel_rfl) Tryd.underlying206 rfl rfl rfl rfl rfl (by kernel_rfl) rfl (by kernel_rfl)
/--  strconv.NumError -/
def ti209 : TI := ⟨.pointer, 1, 8, false, .nilp, [], 215⟩
theorem tok209 : TOk Tryd.prog 209 ti209 := tok_mk (.pointer none) (by kernel_rfl) Tryd.underlying209 rfl rfl rfl rfl rfl (by kernel_rfl) rfl (by kernel_rfl)
/-- struct   Func string  Num string  Err error   -/
def ti214 : TI := ⟨.struct, 3, 48, true, .agg [.str [], .str [], .nili], [(0, 1, false), (1, 1, false), (2, 1, false)], 0⟩
theorem tok214 : TOk Tryd.prog 214 ti214 := tok_mk (.agg #[.string ⟨#[]⟩, .string ⟨#[]⟩, .nilIface]) (by kernel_rfl) Tryd.underlying214 rfl rfl rfl rfl rfl (by kernel_rfl) rfl (by kernel_rfl)
/-- strconv.NumError -/
def ti215 : TI := ⟨.struct, 3, 48, true, .agg [.str [], .str [], .nili], [(0, 1, false), (1, 1, false), (2, 1, false)], 0⟩
theorem tok215 : TOk Tryd.prog 215 ti215 := tok_mk (.agg #[.string ⟨#[]⟩, .string ⟨#[]⟩, .nilIface]) (by kernel_rfl) Tryd.underlying215 rfl rfl rfl rfl rfl (by kernel_rfl) rfl (by kernel_rfl)
/--  uint8 -/
def ti217 : TI := ⟨.pointer, 1, 8, false, .nilp, [], 5⟩
theorem tok217 : TOk Tryd.prog 217 ti217 := tok_mk (.pointer none) (by kernel_rfl) Tryd.underlying217 rfl rfl rfl rfl rfl (by kernel_rfl) rfl (by kernel_rfl)
/--  errors.errorString -/
def ti218 : TI := ⟨.pointer, 1, 8, false, .nilp, [], 220⟩
theorem tok218 : TOk Tryd.prog 218 ti218 := tok_mk (.pointer none) (by kernel_rfl) Tryd.underlying218 rfl rfl rfl rfl rfl (by kernel_rfl) rfl (by kernel_rfl)
/-- struct   s string   -/
def ti219 : TI := ⟨.struct, 1, 16, true, .agg [.str []], [(0, 1, false)], 0⟩
theorem tok219 : TOk Tryd.prog 219 ti219 := tok_mk (.agg #[.string ⟨#[]⟩]) (by kernel_rfl) Tryd.underlying219 rfl rfl rfl rfl rfl (by kernel_rfl) rfl (by kernel_rfl)
/-- errors.errorString -/
def ti220 : TI := ⟨.struct, 1, 16, true, .agg [.str []], [(0, 1, false)], 0⟩
theorem tok220 : TOk Tryd.prog 220 ti220 := tok_mk (.agg #[.string ⟨#[]⟩]) (by kernel_rfl) Tryd.underlying220 rfl rfl rfl rfl rfl (by kernel_rfl) rfl (by kernel_rfl)
def table : List (Nat × TI) := [(2, ⟨(.int .i64), 1, 8, false, .int .i64 0, [], 0⟩), (3, ⟨(.int .i64), 1, 8, false, .int .i64 0, [], 0⟩), (4, ⟨.bool, 1, 1, false, .bool false, [], 0⟩), (5, ⟨(.int .u8), 1, 1, false, .int .u8 0, [], 0⟩), (9, ⟨.string, 1, 16, false, .str [], [], 0⟩), (12, ⟨(.int .u64), 1, 8, false, .int .u64 0, [], 0⟩), (13, ⟨.struct, 2, 24, true, .agg [.str [], .int .u64 0], [(0, 1, false), (1, 1, false)], 0⟩), (20, ⟨.iface, 1, 16, false, .nili, [], 0⟩), (21, ⟨(.int .i32), 1, 4, false, .int .i32 0, [], 0⟩), (22, ⟨.slice, 1, 24, false, .slice [] .nil, [], 80⟩), (23, ⟨.struct, 3, 56, true, .agg [.slice [] .nil, .str [], .str []], [(0, 1, false), (1, 1, false), (2, 1, false)], 0⟩), (24, ⟨.struct, 3, 56, true, .agg [.slice [] .nil, .str [], .str []], [(0, 1, false), (1, 1, false), (2, 1, false)], 0⟩), (25, ⟨.slice, 1, 24, false, .slice [] .nil, [], 28⟩), (26, ⟨.slice, 1, 24, false, .slice [] .nil, [], 88⟩), (27, ⟨.struct, 5, 80, true, .agg [.int .i64 0, .int .i64 0, .str [], .slice [] .nil, .slice [] .nil], [(0, 1, false), (1, 1, false), (2, 1, false), (3, 1, false), (4, 1, false)], 0⟩), (28, ⟨.struct, 5, 80, true, .agg [.int .i64 0, .int .i64 0, .str [], .slice [] .nil, .slice [] .nil], [(0, 1, false), (1, 1, false), (2, 1, false), (3, 1, false), (4, 1, false)], 0⟩), (32, ⟨(.int .i64), 1, 8, false, .int .i64 0, [], 0⟩), (40, ⟨.slice, 1, 24, false, .slice [] .nil, [], 115⟩), (41, ⟨.struct, 2, 32, true, .agg [.str [], .str []], [(0, 1, false), (1, 1, false)], 0⟩), (42, ⟨.struct, 2, 32, true, .agg [.str [], .str []], [(0, 1, false), (1, 1, false)], 0⟩), (45, ⟨.struct, 4, 64, true, .agg [.str [], .str [], .slice [] .nil, .bool false], [(0, 1, false), (1, 1, false), (2, 1, false), (3, 1, false)], 0⟩), (46, ⟨.struct, 4, 64, true, .agg [.str [], .str [], .slice [] .nil, .bool false], [(0, 1, false), (1, 1, false), (2, 1, false), (3, 1, false)], 0⟩), (47, ⟨.struct, 6, 80, true, .agg [.str [], .str [], .slice [] .nil, .bool false, .bool false, .int .i64 0], [(0, 4, true), (4, 1, false), (5, 1, false)], 0⟩), (48, ⟨.struct, 6, 80, true, .agg [.str [], .str [], .slice [] .nil, .bool false, .bool false, .int .i64 0], [(0, 4, true), (4, 1, false), (5, 1, false)], 0⟩), (59, ⟨.struct, 3, 32, true, .agg [.str [], .int .i64 0, .int .i64 0], [(0, 1, false), (1, 1, false), (2, 1, false)], 0⟩), (60, ⟨.struct, 3, 32, true, .agg [.str [], .int .i64 0, .int .i64 0], [(0, 1, false), (1, 1, false), (2, 1, false)], 0⟩), (68, ⟨.slice, 1, 24, false, .slice [] .nil, [], 74⟩), (70, ⟨.slice, 1, 24, false, .slice [] .nil, [], 9⟩), (73, ⟨.struct, 5, 56, true, .agg [.str [], .str [], .int .i64 0, .int .i64 0, .bool false], [(0, 1, false), (1, 3, true), (4, 1, false)], 0⟩), (74, ⟨.struct, 5, 56, true, .agg [.str [], .str [], .int .i64 0, .int .i64 0, .bool false], [(0, 1, false), (1, 3, true), (4, 1, false)], 0⟩), (76, ⟨.slice, 1, 24, false, .slice [] .nil, [], 86⟩), (78, ⟨.slice, 1, 24, false, .slice [] .nil, [], 103⟩), (79, ⟨.struct, 6, 120, true, .agg [.int .i64 0, .str [], .slice [] .nil, .slice [] .nil, .slice [] .nil, .slice [] .nil], [(0, 1, false), (1, 1, false), (2, 1, false), (3, 1, false), (4, 1, false), (5, 1, false)], 0⟩), (80, ⟨.struct, 6, 120, true, .agg [.int .i64 0, .str [], .slice [] .nil, .slice [] .nil, .slice [] .nil, .slice [] .nil], [(0, 1, false), (1, 1, false), (2, 1, false), (3, 1, false), (4, 1, false), (5, 1, false)], 0⟩), (85, ⟨.struct, 10, 136, true, .agg [.str [], .str [], .int .i64 0, .int .i64 0, .bool false, .int .i64 0, .int .i64 0, .str [], .slice [] .nil, .slice [] .nil], [(0, 1, false), (1, 3, true), (4, 1, false), (5, 5, true)], 0⟩), (86, ⟨.struct, 10, 136, true, .agg [.str [], .str [], .int .i64 0, .int .i64 0, .bool false, .int .i64 0, .int .i64 0, .str [], .slice [] .nil, .slice [] .nil], [(0, 1, false), (1, 3, true), (4, 1, false), (5, 5, true)], 0⟩), (87, ⟨.struct, 6, 96, true, .agg [.str [], .int .i64 0, .int .i64 0, .str [], .slice [] .nil, .slice [] .nil], [(0, 1, false), (1, 5, true)], 0⟩), (88, ⟨.struct, 6, 96, true, .agg [.str [], .int .i64 0, .int .i64 0, .str [], .slice [] .nil, .slice [] .nil], [(0, 1, false), (1, 5, true)], 0⟩), (90, ⟨.struct, 5, 88, true, .agg [.str [], .str [], .str [], .str [], .slice [] .nil], [(0, 1, false), (1, 1, false), (2, 1, false), (3, 1, false), (4, 1, false)], 0⟩), (91, ⟨.struct, 5, 88, true, .agg [.str [], .str [], .str [], .str [], .slice [] .nil], [(0, 1, false), (1, 1, false), (2, 1, false), (3, 1, false), (4, 1, false)], 0⟩), (101, ⟨.slice, 1, 24, false, .slice [] .nil, [], 143⟩), (102, ⟨.struct, 6, 96, true, .agg [.str [], .slice [] .nil, .str [], .int .i64 0, .int .i64 0, .slice [] .nil], [(0, 1, false), (1, 1, false), (2, 3, true), (5, 1, false)], 0⟩), (103, ⟨.struct, 6, 96, true, .agg [.str [], .slice [] .nil, .str [], .int .i64 0, .int .i64 0, .slice [] .nil], [(0, 1, false), (1, 1, false), (2, 3, true), (5, 1, false)], 0⟩), (113, ⟨.slice, 1, 24, false, .slice [] .nil, [], 46⟩), (114, ⟨.struct, 2, 40, true, .agg [.str [], .slice [] .nil], [(0, 1, false), (1, 1, false)], 0⟩), (115, ⟨.struct, 2, 40, true, .agg [.str [], .slice [] .nil], [(0, 1, false), (1, 1, false)], 0⟩), (123, ⟨.map, 1, 8, false, .nilmap, [], 4⟩), (131, ⟨(.int .u64), 1, 8, false, .int .u64 0, [], 0⟩), (136, ⟨.struct, 6, 88, true, .agg [.slice [] .nil, .str [], .str [], .bool false, .bool false, .slice [] .nil], [(0, 3, true), (3, 1, false), (4, 1, false), (5, 1, false)], 0⟩), (137, ⟨.struct, 6, 88, true, .agg [.slice [] .nil, .str [], .str [], .bool false, .bool false, .slice [] .nil], [(0, 3, true), (3, 1, false), (4, 1, false), (5, 1, false)], 0⟩), (142, ⟨.struct, 2, 40, true, .agg [.str [], .slice [] .nil], [(0, 1, false), (1, 1, false)], 0⟩), (143, ⟨.struct, 2, 40, true, .agg [.str [], .slice [] .nil], [(0, 1, false), (1, 1, false)], 0⟩), (145, ⟨.slice, 1, 24, false, .slice [] .nil, [], 3⟩), (154, ⟨.struct, 2, 2, true, .agg [.int .u8 0, .int .u8 0], [(0, 1, false), (1, 1, false)], 0⟩), (155, ⟨.struct, 2, 2, true, .agg [.int .u8 0, .int .u8 0], [(0, 1, false), (1, 1, false)], 0⟩), (156, ⟨(.array 16), 32, 32, true, .agg [.int .u8 0, .int .u8 0, .int .u8 0, .int .u8 0, .int .u8 0, .int .u8 0, .int .u8 0, .int .u8 0, .int .u8 0, .int .u8 0, .int .u8 0, .int .u8 0, .int .u8 0, .int .u8 0, .int .u8 0, .int .u8 0, .int .u8 0, .int .u8 0, .int .u8 0, .int .u8 0, .int .u8 0, .int .u8 0, .int .u8 0, .int .u8 0, .int .u8 0, .int .u8 0, .int .u8 0, .int .u8 0, .int .u8 0, .int .u8 0, .int .u8 0, .int .u8 0], [], 155⟩), (164, ⟨.struct, 0, 0, true, .agg [], [], 0⟩), (165, ⟨.struct, 0, 0, true, .agg [], [], 0⟩), (169, ⟨(.array 24), 24, 24, true, .agg [.int .u8 0, .int .u8 0, .int .u8 0, .int .u8 0, .int .u8 0, .int .u8 0, .int .u8 0, .int .u8 0, .int .u8 0, .int .u8 0, .int .u8 0, .int .u8 0, .int .u8 0, .int .u8 0, .int .u8 0, .int .u8 0, .int .u8 0, .int .u8 0, .int .u8 0, .int .u8 0, .int .u8 0, .int .u8 0, .int .u8 0, .int .u8 0], [], 5⟩), (170, ⟨(.int .u64), 1, 8, false, .int .u64 0, [], 0⟩), (173, ⟨.slice, 1, 24, false, .slice [] .nil, [], 5⟩), (187, ⟨(.array 20), 20, 160, true, .agg [.int .u64 0, .int .u64 0, .int .u64 0, .int .u64 0, .int .u64 0, .int .u64 0, .int .u64 0, .int .u64 0, .int .u64 0, .int .u64 0, .int .u64 0, .int .u64 0, .int .u64 0, .int .u64 0, .int .u64 0, .int .u64 0, .int .u64 0, .int .u64 0, .int .u64 0, .int .u64 0], [], 170⟩), (188, ⟨(.int .u32), 1, 4, false, .int .u32 0, [], 0⟩), (198, ⟨.iface, 1, 16, false, .nili, [], 0⟩), (199, ⟨.iface, 1, 16, false, .nili, [], 0⟩), (202, ⟨(.array 32), 32, 32, true, .agg [.int .u8 0, .int .u8 0, .int .u8 0, .int .u8 0, .int .u8 0, .int .u8 0, .int .u8 0, .int .u8 0, .int .u8 0, .int .u8 0, .int .u8 0, .int .u8 0, .int .u8 0, .int .u8 0, .int .u8 0, .int .u8 0, .int .u8 0, .int .u8 0, .int .u8 0, .int .u8 0, .int .u8 0, .int .u8 0, .int .u8 0, .int .u8 0, .int .u8 0, .int .u8 0, .int .u8 0, .int .u8 0, .int .u8 0, .int .u8 0, .int .u8 0, .int .u8 0], [], 5⟩), (203, ⟨(.array 64), 64, 64, true, .agg [.int .u8 0, .int .u8 0, .int .u8 0, .int .u8 0, .int .u8 0, .int .u8 0, .int .u8 0, .int .u8 0, .int .u8 0, .int .u8 0, .int .u8 0, .int .u8 0, .int .u8 0, .int .u8 0, .int .u8 0, .int .u8 0, .int .u8 0, .int .u8 0, .int .u8 0, .int .u8 0, .int .u8 0, .int .u8 0, .int .u8 0, .int .u8 0, .int .u8 0, .int .u8 0, .int .u8 0, .int .u8 0, .int .u8 0, .int .u8 0, .int .u8 0, .int .u8 0, .int .u8 0, .int .u8 0, .int .u8 0, .int .u8 0, .int .u8 0, .int .u8 0, .int .u8 0, .int .u8 0, .int .u8 0, .int .u8 0, .int .u8 0, .int .u8 0, .int .u8 0, .int .u8 0, .int .u8 0, .int .u8 0, .int .u8 0, .int .u8 0, .int .u8 0, .int .u8 0, .int .u8 0, .int .u8 0, .int .u8 0, .int .u8 0, .int .u8 0, .int .u8 0, .int .u8 0, .int .u8 0, .int .u8 0, .int .u8 0, .int .u8 0, .int .u8 0], [], 5⟩), (206, ⟨(.int .i64), 1, 8, false, .int .i64 0, [], 0⟩), (209, ⟨.pointer, 1, 8, false, .nilp, [], 215⟩), (214, ⟨.struct, 3, 48, true, .agg [.str [], .str [], .nili], [(0, 1, false), (1, 1, false), (2, 1, false)], 0⟩), (215, ⟨.struct, 3, 48, true, .agg [.str [], .str [], .nili], [(0, 1, false), (1, 1, false), (2, 1, false)], 0⟩), (217, ⟨.pointer, 1, 8, false, .nilp, [], 5⟩), (218, ⟨.pointer, 1, 8, false, .nilp, [], 220⟩), (219, ⟨.struct, 1, 16, true, .agg [.str []], [(0, 1, false)], 0⟩), (220, ⟨.struct, 1, 16, true, .agg [.str []], [(0, 1, false)], 0⟩)]
theorem table_ok : LayOk Tryd.prog table := ⟨tok2, tok3, tok4, tok5, tok9, tok12, tok13, tok20, tok21, tok22, tok23, tok24, tok25, tok26, tok27, tok28, tok32, tok40, tok41, tok42, tok45, tok46, tok47, tok48, tok59, tok60, tok68, tok70, tok73, tok74, tok76, tok78, tok79, tok80, tok85, tok86, tok87, tok88, tok90, tok91, tok101, tok102, tok103, tok113, tok114, tok115, tok123, tok131, tok136, tok137, tok142, tok143, tok145, tok154, tok155, tok156, tok164, tok165, tok169, tok170, tok173, tok187, tok188, tok198, tok199, tok202, tok203, tok206, tok209, tok214, tok215, tok217, tok218, tok219, tok220, trivial⟩
instance : Lay Tryd.prog := ⟨table, table_ok, Tryd.checked.mixed⟩
end Go.Proofs.YtijlmchfepjjkaaDoor
