/-
  The table of this seat's types, written by a program of the prover's (genlay.py): closed facts.
-/
import Derived.Test.YtgghkkeejagfkaaGreatDoorRows
import Derived.Test.YtgghkkeejagfkaaGreatDoorAvLaw
import Derived.Test.YtgghkkeejagfkaaGreatDoorAvTab
namespace Go.Proofs.YtgghkkeejagfkaaGreatDoor
open Go Go.Av
set_option maxRecDepth 100000

instance : Globals := ⟨[(0, .agg (Lib.firstTab.map (AV.int .u8))), (1, .agg (accTab.map (AV.int .u8))), (2, .agg (Lib.pow10Tab.map (AV.int .u64))), (5, .iface 389 .undef), (6, .iface 389 .undef)], [(2, 20)]⟩
/-- int64 -/
def ti2 : TI := ⟨(.int .i64), 1, 8, false, .int .i64 0, [], 0⟩
theorem tok2 : TOk Tryz.prog 2 ti2 := tok_mk (.int .i64 0) (by kernel_rfl) Tryz.underlying2 rfl rfl rfl rfl rfl (by kernel_rfl) rfl (by kernel_rfl)
/-- int -/
def ti3 : TI := ⟨(.int .i64), 1, 8, false, .int .i64 0, [], 0⟩
theorem tok3 : TOk Tryz.prog 3 ti3 := tok_mk (.int .i64 0) (by kernel_rfl) Tryz.underlying3 rfl rfl rfl rfl rfl (by kernel_rfl) rfl (by kernel_rfl)
/-- bool -/
def ti4 : TI := ⟨.bool, 1, 1, false, .bool false, [], 0⟩
theorem tok4 : TOk Tryz.prog 4 ti4 := tok_mk (.bool false) (by kernel_rfl) Tryz.underlying4 rfl rfl rfl rfl rfl (by kernel_rfl) rfl (by kernel_rfl)
/-- uint8 -/
def ti5 : TI := ⟨(.int .u8), 1, 1, false, .int .u8 0, [], 0⟩
theorem tok5 : TOk Tryz.prog 5 ti5 := tok_mk (.int .u8 0) (by kernel_rfl) Tryz.underlying5 rfl rfl rfl rfl rfl (by kernel_rfl) rfl (by kernel_rfl)
/-- string -/
def ti9 : TI := ⟨.string, 1, 16, false, .str [], [], 0⟩
theorem tok9 : TOk Tryz.prog 9 ti9 := tok_mk (.string ⟨#[]⟩) (by kernel_rfl) Tryz.underlying9 rfl rfl rfl rfl rfl (by kernel_rfl) rfl (by kernel_rfl)
/-- uintptr -/
def ti12 : TI := ⟨(.int .u64), 1, 8, false, .int .u64 0, [], 0⟩
theorem tok12 : TOk Tryz.prog 12 ti12 := tok_mk (.int .u64 0) (by kernel_rfl) Tryz.underlying12 rfl rfl rfl rfl rfl (by kernel_rfl) rfl (by kernel_rfl)
/-- struct   msg string  addr uintptr   -/
def ti13 : TI := ⟨.struct, 2, 24, true, .agg [.str [], .int .u64 0], [(0, 1, false), (1, 1, false)], 0⟩
theorem tok13 : TOk Tryz.prog 13 ti13 := tok_mk (.agg #[.string ⟨#[]⟩, .int .u64 0]) (by kernel_rfl) Tryz.underlying13 rfl rfl rfl rfl rfl (by kernel_rfl) rfl (by kernel_rfl)
/-- interface    -/
def ti20 : TI := ⟨.iface, 1, 16, false, .nili, [], 0⟩
theorem tok20 : TOk Tryz.prog 20 ti20 := tok_mk (.nilIface) (by kernel_rfl) Tryz.underlying20 rfl rfl rfl rfl rfl (by kernel_rfl) rfl (by kernel_rfl)
/-- int32 -/
def ti21 : TI := ⟨(.int .i32), 1, 4, false, .int .i32 0, [], 0⟩
theorem tok21 : TOk Tryz.prog 21 ti21 := tok_mk (.int .i32 0) (by kernel_rfl) Tryz.underlying21 rfl rfl rfl rfl rfl (by kernel_rfl) rfl (by kernel_rfl)
/--   api.Def -/
def ti22 : TI := ⟨.slice, 1, 24, false, .slice [] .nil, [], 52⟩
theorem tok22 : TOk Tryz.prog 22 ti22 := tok_mk (.slice none 0 0) (by kernel_rfl) Tryz.underlying22 rfl rfl rfl rfl rfl (by kernel_rfl) rfl (by kernel_rfl)
/-- struct   Defs   api.Def  Query string  Mutation string   -/
def ti23 : TI := ⟨.struct, 3, 56, true, .agg [.slice [] .nil, .str [], .str []], [(0, 1, false), (1, 1, false), (2, 1, false)], 0⟩
theorem tok23 : TOk Tryz.prog 23 ti23 := tok_mk (.agg #[.slice none 0 0, .string ⟨#[]⟩, .string ⟨#[]⟩]) (by kernel_rfl) Tryz.underlying23 rfl rfl rfl rfl rfl (by kernel_rfl) rfl (by kernel_rfl)
/-- api.Schema -/
def ti24 : TI := ⟨.struct, 3, 56, true, .agg [.slice [] .nil, .str [], .str []], [(0, 1, false), (1, 1, false), (2, 1, false)], 0⟩
theorem tok24 : TOk Tryz.prog 24 ti24 := tok_mk (.agg #[.slice none 0 0, .string ⟨#[]⟩, .string ⟨#[]⟩]) (by kernel_rfl) Tryz.underlying24 rfl rfl rfl rfl rfl (by kernel_rfl) rfl (by kernel_rfl)
/--   api.Param -/
def ti30 : TI := ⟨.slice, 1, 24, false, .slice [] .nil, [], 93⟩
theorem tok30 : TOk Tryz.prog 30 ti30 := tok_mk (.slice none 0 0) (by kernel_rfl) Tryz.underlying30 rfl rfl rfl rfl rfl (by kernel_rfl) rfl (by kernel_rfl)
/-- struct   Name string  Lists int  Musts int   -/
def ti31 : TI := ⟨.struct, 3, 32, true, .agg [.str [], .int .i64 0, .int .i64 0], [(0, 1, false), (1, 1, false), (2, 1, false)], 0⟩
theorem tok31 : TOk Tryz.prog 31 ti31 := tok_mk (.agg #[.string ⟨#[]⟩, .int .i64 0, .int .i64 0]) (by kernel_rfl) Tryz.underlying31 rfl rfl rfl rfl rfl (by kernel_rfl) rfl (by kernel_rfl)
/-- api.Type -/
def ti32 : TI := ⟨.struct, 3, 32, true, .agg [.str [], .int .i64 0, .int .i64 0], [(0, 1, false), (1, 1, false), (2, 1, false)], 0⟩
theorem tok32 : TOk Tryz.prog 32 ti32 := tok_mk (.agg #[.string ⟨#[]⟩, .int .i64 0, .int .i64 0]) (by kernel_rfl) Tryz.underlying32 rfl rfl rfl rfl rfl (by kernel_rfl) rfl (by kernel_rfl)
/--   api.Dir -/
def ti33 : TI := ⟨.slice, 1, 24, false, .slice [] .nil, [], 95⟩
theorem tok33 : TOk Tryz.prog 33 ti33 := tok_mk (.slice none 0 0) (by kernel_rfl) Tryz.underlying33 rfl rfl rfl rfl rfl (by kernel_rfl) rfl (by kernel_rfl)
/-- struct   Name string  Params   api.Param  T api.Type  Dirs   api.Dir   -/
def ti34 : TI := ⟨.struct, 6, 96, true, .agg [.str [], .slice [] .nil, .str [], .int .i64 0, .int .i64 0, .slice [] .nil], [(0, 1, false), (1, 1, false), (2, 3, true), (5, 1, false)], 0⟩
theorem tok34 : TOk Tryz.prog 34 ti34 := tok_mk (.agg #[.string ⟨#[]⟩, .slice none 0 0, .string ⟨#[]⟩, .int .i64 0, .int .i64 0, .slice none 0 0]) (by kernel_rfl) Tryz.underlying34 rfl rfl rfl rfl rfl (by kernel_rfl) rfl (by kernel_rfl)
/-- api.FieldDef -/
def ti35 : TI := ⟨.struct, 6, 96, true, .agg [.str [], .slice [] .nil, .str [], .int .i64 0, .int .i64 0, .slice [] .nil], [(0, 1, false), (1, 1, false), (2, 3, true), (5, 1, false)], 0⟩
theorem tok35 : TOk Tryz.prog 35 ti35 := tok_mk (.agg #[.string ⟨#[]⟩, .slice none 0 0, .string ⟨#[]⟩, .int .i64 0, .int .i64 0, .slice none 0 0]) (by kernel_rfl) Tryz.underlying35 rfl rfl rfl rfl rfl (by kernel_rfl) rfl (by kernel_rfl)
/-- struct   How int  Table string  Col string  Arg string  Cmd string   -/
def ti36 : TI := ⟨.struct, 5, 72, true, .agg [.int .i64 0, .str [], .str [], .str [], .str []], [(0, 1, false), (1, 1, false), (2, 1, false), (3, 1, false), (4, 1, false)], 0⟩
theorem tok36 : TOk Tryz.prog 36 ti36 := tok_mk (.agg #[.int .i64 0, .string ⟨#[]⟩, .string ⟨#[]⟩, .string ⟨#[]⟩, .string ⟨#[]⟩]) (by kernel_rfl) Tryz.underlying36 rfl rfl rfl rfl rfl (by kernel_rfl) rfl (by kernel_rfl)
/-- api.Bind -/
def ti37 : TI := ⟨.struct, 5, 72, true, .agg [.int .i64 0, .str [], .str [], .str [], .str []], [(0, 1, false), (1, 1, false), (2, 1, false), (3, 1, false), (4, 1, false)], 0⟩
theorem tok37 : TOk Tryz.prog 37 ti37 := tok_mk (.agg #[.int .i64 0, .string ⟨#[]⟩, .string ⟨#[]⟩, .string ⟨#[]⟩, .string ⟨#[]⟩]) (by kernel_rfl) Tryz.underlying37 rfl rfl rfl rfl rfl (by kernel_rfl) rfl (by kernel_rfl)
/--   api.Member -/
def ti38 : TI := ⟨.slice, 1, 24, false, .slice [] .nil, [], 69⟩
theorem tok38 : TOk Tryz.prog 38 ti38 := tok_mk (.slice none 0 0) (by kernel_rfl) Tryz.underlying38 rfl rfl rfl rfl rfl (by kernel_rfl) rfl (by kernel_rfl)
/--   api.Value -/
def ti40 : TI := ⟨.slice, 1, 24, false, .slice [] .nil, [], 42⟩
theorem tok40 : TOk Tryz.prog 40 ti40 := tok_mk (.slice none 0 0) (by kernel_rfl) Tryz.underlying40 rfl rfl rfl rfl rfl (by kernel_rfl) rfl (by kernel_rfl)
/-- struct   Kind int  N int64  S string  L   api.Value  M   api.Member   -/
def ti41 : TI := ⟨.struct, 5, 80, true, .agg [.int .i64 0, .int .i64 0, .str [], .slice [] .nil, .slice [] .nil], [(0, 1, false), (1, 1, false), (2, 1, false), (3, 1, false), (4, 1, false)], 0⟩
theorem tok41 : TOk Tryz.prog 41 ti41 := tok_mk (.agg #[.int .i64 0, .int .i64 0, .string ⟨#[]⟩, .slice none 0 0, .slice none 0 0]) (by kernel_rfl) Tryz.underlying41 rfl rfl rfl rfl rfl (by kernel_rfl) rfl (by kernel_rfl)
/-- api.Value -/
def ti42 : TI := ⟨.struct, 5, 80, true, .agg [.int .i64 0, .int .i64 0, .str [], .slice [] .nil, .slice [] .nil], [(0, 1, false), (1, 1, false), (2, 1, false), (3, 1, false), (4, 1, false)], 0⟩
theorem tok42 : TOk Tryz.prog 42 ti42 := tok_mk (.agg #[.int .i64 0, .int .i64 0, .string ⟨#[]⟩, .slice none 0 0, .slice none 0 0]) (by kernel_rfl) Tryz.underlying42 rfl rfl rfl rfl rfl (by kernel_rfl) rfl (by kernel_rfl)
/-- struct   Name string  Table string  Col string  Type string  Args   api.Member   -/
def ti44 : TI := ⟨.struct, 5, 88, true, .agg [.str [], .str [], .str [], .str [], .slice [] .nil], [(0, 1, false), (1, 1, false), (2, 1, false), (3, 1, false), (4, 1, false)], 0⟩
theorem tok44 : TOk Tryz.prog 44 ti44 := tok_mk (.agg #[.string ⟨#[]⟩, .string ⟨#[]⟩, .string ⟨#[]⟩, .string ⟨#[]⟩, .slice none 0 0]) (by kernel_rfl) Tryz.underlying44 rfl rfl rfl rfl rfl (by kernel_rfl) rfl (by kernel_rfl)
/-- api.Cmd -/
def ti45 : TI := ⟨.struct, 5, 88, true, .agg [.str [], .str [], .str [], .str [], .slice [] .nil], [(0, 1, false), (1, 1, false), (2, 1, false), (3, 1, false), (4, 1, false)], 0⟩
theorem tok45 : TOk Tryz.prog 45 ti45 := tok_mk (.agg #[.string ⟨#[]⟩, .string ⟨#[]⟩, .string ⟨#[]⟩, .string ⟨#[]⟩, .slice none 0 0]) (by kernel_rfl) Tryz.underlying45 rfl rfl rfl rfl rfl (by kernel_rfl) rfl (by kernel_rfl)
/--   string -/
def ti49 : TI := ⟨.slice, 1, 24, false, .slice [] .nil, [], 9⟩
theorem tok49 : TOk Tryz.prog 49 ti49 := tok_mk (.slice none 0 0) (by kernel_rfl) Tryz.underlying49 rfl rfl rfl rfl rfl (by kernel_rfl) rfl (by kernel_rfl)
/--   api.FieldDef -/
def ti50 : TI := ⟨.slice, 1, 24, false, .slice [] .nil, [], 35⟩
theorem tok50 : TOk Tryz.prog 50 ti50 := tok_mk (.slice none 0 0) (by kernel_rfl) Tryz.underlying50 rfl rfl rfl rfl rfl (by kernel_rfl) rfl (by kernel_rfl)
/-- struct   Kind int  Name string  Faces   string  Fields   api.FieldDef  Parts   s -/
def ti51 : TI := ⟨.struct, 6, 120, true, .agg [.int .i64 0, .str [], .slice [] .nil, .slice [] .nil, .slice [] .nil, .slice [] .nil], [(0, 1, false), (1, 1, false), (2, 1, false), (3, 1, false), (4, 1, false), (5, 1, false)], 0⟩
theorem tok51 : TOk Tryz.prog 51 ti51 := tok_mk (.agg #[.int .i64 0, .string ⟨#[]⟩, .slice none 0 0, .slice none 0 0, .slice none 0 0, .slice none 0 0]) (by kernel_rfl) Tryz.underlying51 rfl rfl rfl rfl rfl (by kernel_rfl) rfl (by kernel_rfl)
/-- api.Def -/
def ti52 : TI := ⟨.struct, 6, 120, true, .agg [.int .i64 0, .str [], .slice [] .nil, .slice [] .nil, .slice [] .nil, .slice [] .nil], [(0, 1, false), (1, 1, false), (2, 1, false), (3, 1, false), (4, 1, false), (5, 1, false)], 0⟩
theorem tok52 : TOk Tryz.prog 52 ti52 := tok_mk (.agg #[.int .i64 0, .string ⟨#[]⟩, .slice none 0 0, .slice none 0 0, .slice none 0 0, .slice none 0 0]) (by kernel_rfl) Tryz.underlying52 rfl rfl rfl rfl rfl (by kernel_rfl) rfl (by kernel_rfl)
/-- struct   Name string  V api.Value   -/
def ti68 : TI := ⟨.struct, 6, 96, true, .agg [.str [], .int .i64 0, .int .i64 0, .str [], .slice [] .nil, .slice [] .nil], [(0, 1, false), (1, 5, true)], 0⟩
theorem tok68 : TOk Tryz.prog 68 ti68 := tok_mk (.agg #[.string ⟨#[]⟩, .int .i64 0, .int .i64 0, .string ⟨#[]⟩, .slice none 0 0, .slice none 0 0]) (by kernel_rfl) Tryz.underlying68 rfl rfl rfl rfl rfl (by kernel_rfl) rfl (by kernel_rfl)
/-- api.Member -/
def ti69 : TI := ⟨.struct, 6, 96, true, .agg [.str [], .int .i64 0, .int .i64 0, .str [], .slice [] .nil, .slice [] .nil], [(0, 1, false), (1, 5, true)], 0⟩
theorem tok69 : TOk Tryz.prog 69 ti69 := tok_mk (.agg #[.string ⟨#[]⟩, .int .i64 0, .int .i64 0, .string ⟨#[]⟩, .slice none 0 0, .slice none 0 0]) (by kernel_rfl) Tryz.underlying69 rfl rfl rfl rfl rfl (by kernel_rfl) rfl (by kernel_rfl)
/--   api.Table -/
def ti70 : TI := ⟨.slice, 1, 24, false, .slice [] .nil, [], 111⟩
theorem tok70 : TOk Tryz.prog 70 ti70 := tok_mk (.slice none 0 0) (by kernel_rfl) Tryz.underlying70 rfl rfl rfl rfl rfl (by kernel_rfl) rfl (by kernel_rfl)
/--   api.Op -/
def ti73 : TI := ⟨.slice, 1, 24, false, .slice [] .nil, [], 86⟩
theorem tok73 : TOk Tryz.prog 73 ti73 := tok_mk (.slice none 0 0) (by kernel_rfl) Tryz.underlying73 rfl rfl rfl rfl rfl (by kernel_rfl) rfl (by kernel_rfl)
/--   api.Frag -/
def ti74 : TI := ⟨.slice, 1, 24, false, .slice [] .nil, [], 186⟩
theorem tok74 : TOk Tryz.prog 74 ti74 := tok_mk (.slice none 0 0) (by kernel_rfl) Tryz.underlying74 rfl rfl rfl rfl rfl (by kernel_rfl) rfl (by kernel_rfl)
/-- struct   Ops   api.Op  Frags   api.Frag   -/
def ti75 : TI := ⟨.struct, 2, 48, true, .agg [.slice [] .nil, .slice [] .nil], [(0, 1, false), (1, 1, false)], 0⟩
theorem tok75 : TOk Tryz.prog 75 ti75 := tok_mk (.agg #[.slice none 0 0, .slice none 0 0]) (by kernel_rfl) Tryz.underlying75 rfl rfl rfl rfl rfl (by kernel_rfl) rfl (by kernel_rfl)
/-- api.Doc -/
def ti76 : TI := ⟨.struct, 2, 48, true, .agg [.slice [] .nil, .slice [] .nil], [(0, 1, false), (1, 1, false)], 0⟩
theorem tok76 : TOk Tryz.prog 76 ti76 := tok_mk (.agg #[.slice none 0 0, .slice none 0 0]) (by kernel_rfl) Tryz.underlying76 rfl rfl rfl rfl rfl (by kernel_rfl) rfl (by kernel_rfl)
/--   api.Fault -/
def ti78 : TI := ⟨.slice, 1, 24, false, .slice [] .nil, [], 216⟩
theorem tok78 : TOk Tryz.prog 78 ti78 := tok_mk (.slice none 0 0) (by kernel_rfl) Tryz.underlying78 rfl rfl rfl rfl rfl (by kernel_rfl) rfl (by kernel_rfl)
/--     api.Need -/
def ti79 : TI := ⟨.slice, 1, 24, false, .slice [] .nil, [], 87⟩
theorem tok79 : TOk Tryz.prog 79 ti79 := tok_mk (.slice none 0 0) (by kernel_rfl) Tryz.underlying79 rfl rfl rfl rfl rfl (by kernel_rfl) rfl (by kernel_rfl)
/-- struct   Data api.Value  Faults   api.Fault  Reads     api.Need  Tables   api.Ta -/
def ti80 : TI := ⟨.struct, 8, 152, true, .agg [.int .i64 0, .int .i64 0, .str [], .slice [] .nil, .slice [] .nil, .slice [] .nil, .slice [] .nil, .slice [] .nil], [(0, 5, true), (5, 1, false), (6, 1, false), (7, 1, false)], 0⟩
theorem tok80 : TOk Tryz.prog 80 ti80 := tok_mk (.agg #[.int .i64 0, .int .i64 0, .string ⟨#[]⟩, .slice none 0 0, .slice none 0 0, .slice none 0 0, .slice none 0 0, .slice none 0 0]) (by kernel_rfl) Tryz.underlying80 rfl rfl rfl rfl rfl (by kernel_rfl) rfl (by kernel_rfl)
/-- api.Seen -/
def ti81 : TI := ⟨.struct, 8, 152, true, .agg [.int .i64 0, .int .i64 0, .str [], .slice [] .nil, .slice [] .nil, .slice [] .nil, .slice [] .nil, .slice [] .nil], [(0, 5, true), (5, 1, false), (6, 1, false), (7, 1, false)], 0⟩
theorem tok81 : TOk Tryz.prog 81 ti81 := tok_mk (.agg #[.int .i64 0, .int .i64 0, .string ⟨#[]⟩, .slice none 0 0, .slice none 0 0, .slice none 0 0, .slice none 0 0, .slice none 0 0]) (by kernel_rfl) Tryz.underlying81 rfl rfl rfl rfl rfl (by kernel_rfl) rfl (by kernel_rfl)
/--   api.VarDef -/
def ti83 : TI := ⟨.slice, 1, 24, false, .slice [] .nil, [], 406⟩
theorem tok83 : TOk Tryz.prog 83 ti83 := tok_mk (.slice none 0 0) (by kernel_rfl) Tryz.underlying83 rfl rfl rfl rfl rfl (by kernel_rfl) rfl (by kernel_rfl)
/--   api.Sel -/
def ti84 : TI := ⟨.slice, 1, 24, false, .slice [] .nil, [], 113⟩
theorem tok84 : TOk Tryz.prog 84 ti84 := tok_mk (.slice none 0 0) (by kernel_rfl) Tryz.underlying84 rfl rfl rfl rfl rfl (by kernel_rfl) rfl (by kernel_rfl)
/-- struct   Kind int  Name string  Vars   api.VarDef  Dirs   api.Dir  Sels   api.Se -/
def ti85 : TI := ⟨.struct, 5, 96, true, .agg [.int .i64 0, .str [], .slice [] .nil, .slice [] .nil, .slice [] .nil], [(0, 1, false), (1, 1, false), (2, 1, false), (3, 1, false), (4, 1, false)], 0⟩
theorem tok85 : TOk Tryz.prog 85 ti85 := tok_mk (.agg #[.int .i64 0, .string ⟨#[]⟩, .slice none 0 0, .slice none 0 0, .slice none 0 0]) (by kernel_rfl) Tryz.underlying85 rfl rfl rfl rfl rfl (by kernel_rfl) rfl (by kernel_rfl)
/-- api.Op -/
def ti86 : TI := ⟨.struct, 5, 96, true, .agg [.int .i64 0, .str [], .slice [] .nil, .slice [] .nil, .slice [] .nil], [(0, 1, false), (1, 1, false), (2, 1, false), (3, 1, false), (4, 1, false)], 0⟩
theorem tok86 : TOk Tryz.prog 86 ti86 := tok_mk (.agg #[.int .i64 0, .string ⟨#[]⟩, .slice none 0 0, .slice none 0 0, .slice none 0 0]) (by kernel_rfl) Tryz.underlying86 rfl rfl rfl rfl rfl (by kernel_rfl) rfl (by kernel_rfl)
/--   api.Need -/
def ti87 : TI := ⟨.slice, 1, 24, false, .slice [] .nil, [], 89⟩
theorem tok87 : TOk Tryz.prog 87 ti87 := tok_mk (.slice none 0 0) (by kernel_rfl) Tryz.underlying87 rfl rfl rfl rfl rfl (by kernel_rfl) rfl (by kernel_rfl)
/-- struct   Table string  Key string   -/
def ti88 : TI := ⟨.struct, 2, 32, true, .agg [.str [], .str []], [(0, 1, false), (1, 1, false)], 0⟩
theorem tok88 : TOk Tryz.prog 88 ti88 := tok_mk (.agg #[.string ⟨#[]⟩, .string ⟨#[]⟩]) (by kernel_rfl) Tryz.underlying88 rfl rfl rfl rfl rfl (by kernel_rfl) rfl (by kernel_rfl)
/-- api.Need -/
def ti89 : TI := ⟨.struct, 2, 32, true, .agg [.str [], .str []], [(0, 1, false), (1, 1, false)], 0⟩
theorem tok89 : TOk Tryz.prog 89 ti89 := tok_mk (.agg #[.string ⟨#[]⟩, .string ⟨#[]⟩]) (by kernel_rfl) Tryz.underlying89 rfl rfl rfl rfl rfl (by kernel_rfl) rfl (by kernel_rfl)
/-- struct   Name string  T api.Type  Has bool  Default api.Value   -/
def ti92 : TI := ⟨.struct, 10, 136, true, .agg [.str [], .str [], .int .i64 0, .int .i64 0, .bool false, .int .i64 0, .int .i64 0, .str [], .slice [] .nil, .slice [] .nil], [(0, 1, false), (1, 3, true), (4, 1, false), (5, 5, true)], 0⟩
theorem tok92 : TOk Tryz.prog 92 ti92 := tok_mk (.agg #[.string ⟨#[]⟩, .string ⟨#[]⟩, .int .i64 0, .int .i64 0, .bool false, .int .i64 0, .int .i64 0, .string ⟨#[]⟩, .slice none 0 0, .slice none 0 0]) (by kernel_rfl) Tryz.underlying92 rfl rfl rfl rfl rfl (by kernel_rfl) rfl (by kernel_rfl)
/-- api.Param -/
def ti93 : TI := ⟨.struct, 10, 136, true, .agg [.str [], .str [], .int .i64 0, .int .i64 0, .bool false, .int .i64 0, .int .i64 0, .str [], .slice [] .nil, .slice [] .nil], [(0, 1, false), (1, 3, true), (4, 1, false), (5, 5, true)], 0⟩
theorem tok93 : TOk Tryz.prog 93 ti93 := tok_mk (.agg #[.string ⟨#[]⟩, .string ⟨#[]⟩, .int .i64 0, .int .i64 0, .bool false, .int .i64 0, .int .i64 0, .string ⟨#[]⟩, .slice none 0 0, .slice none 0 0]) (by kernel_rfl) Tryz.underlying93 rfl rfl rfl rfl rfl (by kernel_rfl) rfl (by kernel_rfl)
/-- struct   Name string  Args   api.Member   -/
def ti94 : TI := ⟨.struct, 2, 40, true, .agg [.str [], .slice [] .nil], [(0, 1, false), (1, 1, false)], 0⟩
theorem tok94 : TOk Tryz.prog 94 ti94 := tok_mk (.agg #[.string ⟨#[]⟩, .slice none 0 0]) (by kernel_rfl) Tryz.underlying94 rfl rfl rfl rfl rfl (by kernel_rfl) rfl (by kernel_rfl)
/-- api.Dir -/
def ti95 : TI := ⟨.struct, 2, 40, true, .agg [.str [], .slice [] .nil], [(0, 1, false), (1, 1, false)], 0⟩
theorem tok95 : TOk Tryz.prog 95 ti95 := tok_mk (.agg #[.string ⟨#[]⟩, .slice none 0 0]) (by kernel_rfl) Tryz.underlying95 rfl rfl rfl rfl rfl (by kernel_rfl) rfl (by kernel_rfl)
/-- struct   Key string  Type string  Cols   api.Member  Broken bool   -/
def ti107 : TI := ⟨.struct, 4, 64, true, .agg [.str [], .str [], .slice [] .nil, .bool false], [(0, 1, false), (1, 1, false), (2, 1, false), (3, 1, false)], 0⟩
theorem tok107 : TOk Tryz.prog 107 ti107 := tok_mk (.agg #[.string ⟨#[]⟩, .string ⟨#[]⟩, .slice none 0 0, .bool false]) (by kernel_rfl) Tryz.underlying107 rfl rfl rfl rfl rfl (by kernel_rfl) rfl (by kernel_rfl)
/-- api.Row -/
def ti108 : TI := ⟨.struct, 4, 64, true, .agg [.str [], .str [], .slice [] .nil, .bool false], [(0, 1, false), (1, 1, false), (2, 1, false), (3, 1, false)], 0⟩
theorem tok108 : TOk Tryz.prog 108 ti108 := tok_mk (.agg #[.string ⟨#[]⟩, .string ⟨#[]⟩, .slice none 0 0, .bool false]) (by kernel_rfl) Tryz.underlying108 rfl rfl rfl rfl rfl (by kernel_rfl) rfl (by kernel_rfl)
/--   api.Row -/
def ti109 : TI := ⟨.slice, 1, 24, false, .slice [] .nil, [], 108⟩
theorem tok109 : TOk Tryz.prog 109 ti109 := tok_mk (.slice none 0 0) (by kernel_rfl) Tryz.underlying109 rfl rfl rfl rfl rfl (by kernel_rfl) rfl (by kernel_rfl)
/-- struct   Name string  Rows   api.Row   -/
def ti110 : TI := ⟨.struct, 2, 40, true, .agg [.str [], .slice [] .nil], [(0, 1, false), (1, 1, false)], 0⟩
theorem tok110 : TOk Tryz.prog 110 ti110 := tok_mk (.agg #[.string ⟨#[]⟩, .slice none 0 0]) (by kernel_rfl) Tryz.underlying110 rfl rfl rfl rfl rfl (by kernel_rfl) rfl (by kernel_rfl)
/-- api.Table -/
def ti111 : TI := ⟨.struct, 2, 40, true, .agg [.str [], .slice [] .nil], [(0, 1, false), (1, 1, false)], 0⟩
theorem tok111 : TOk Tryz.prog 111 ti111 := tok_mk (.agg #[.string ⟨#[]⟩, .slice none 0 0]) (by kernel_rfl) Tryz.underlying111 rfl rfl rfl rfl rfl (by kernel_rfl) rfl (by kernel_rfl)
/-- struct   Kind int  Alias string  Name string  Args   api.Member  Dirs   api.Dir  -/
def ti112 : TI := ⟨.struct, 7, 128, true, .agg [.int .i64 0, .str [], .str [], .slice [] .nil, .slice [] .nil, .str [], .slice [] .nil], [(0, 1, false), (1, 1, false), (2, 1, false), (3, 1, false), (4, 1, false), (5, 1, false), (6, 1, false)], 0⟩
theorem tok112 : TOk Tryz.prog 112 ti112 := tok_mk (.agg #[.int .i64 0, .string ⟨#[]⟩, .string ⟨#[]⟩, .slice none 0 0, .slice none 0 0, .string ⟨#[]⟩, .slice none 0 0]) (by kernel_rfl) Tryz.underlying112 rfl rfl rfl rfl rfl (by kernel_rfl) rfl (by kernel_rfl)
/-- api.Sel -/
def ti113 : TI := ⟨.struct, 7, 128, true, .agg [.int .i64 0, .str [], .str [], .slice [] .nil, .slice [] .nil, .str [], .slice [] .nil], [(0, 1, false), (1, 1, false), (2, 1, false), (3, 1, false), (4, 1, false), (5, 1, false), (6, 1, false)], 0⟩
theorem tok113 : TOk Tryz.prog 113 ti113 := tok_mk (.agg #[.int .i64 0, .string ⟨#[]⟩, .string ⟨#[]⟩, .slice none 0 0, .slice none 0 0, .string ⟨#[]⟩, .slice none 0 0]) (by kernel_rfl) Tryz.underlying113 rfl rfl rfl rfl rfl (by kernel_rfl) rfl (by kernel_rfl)
/--  eval.runner -/
def ti115 : TI := ⟨.pointer, 1, 8, false, .nilp, [], 118⟩
theorem tok115 : TOk Tryz.prog 115 ti115 := tok_mk (.pointer none) (by kernel_rfl) Tryz.underlying115 rfl rfl rfl rfl rfl (by kernel_rfl) rfl (by kernel_rfl)
/-- struct   l   api.Table  reads     api.Need   -/
def ti117 : TI := ⟨.struct, 2, 48, true, .agg [.slice [] .nil, .slice [] .nil], [(0, 1, false), (1, 1, false)], 0⟩
theorem tok117 : TOk Tryz.prog 117 ti117 := tok_mk (.agg #[.slice none 0 0, .slice none 0 0]) (by kernel_rfl) Tryz.underlying117 rfl rfl rfl rfl rfl (by kernel_rfl) rfl (by kernel_rfl)
/-- eval.runner -/
def ti118 : TI := ⟨.struct, 2, 48, true, .agg [.slice [] .nil, .slice [] .nil], [(0, 1, false), (1, 1, false)], 0⟩
theorem tok118 : TOk Tryz.prog 118 ti118 := tok_mk (.agg #[.slice none 0 0, .slice none 0 0]) (by kernel_rfl) Tryz.underlying118 rfl rfl rfl rfl rfl (by kernel_rfl) rfl (by kernel_rfl)
/--  eval.Work -/
def ti119 : TI := ⟨.pointer, 1, 8, false, .nilp, [], 123⟩
theorem tok119 : TOk Tryz.prog 119 ti119 := tok_mk (.pointer none) (by kernel_rfl) Tryz.underlying119 rfl rfl rfl rfl rfl (by kernel_rfl) rfl (by kernel_rfl)
/-- struct   S api.Schema  D api.Doc  Env   api.Member  Read func eval.Hang   Lay fu -/
def ti122 : TI := ⟨.struct, 9, 168, true, .agg [.slice [] .nil, .str [], .str [], .slice [] .nil, .slice [] .nil, .slice [] .nil, .nilfn, .nilfn, .slice [] .nil], [(0, 3, true), (3, 2, true), (5, 1, false), (6, 1, false), (7, 1, false), (8, 1, false)], 0⟩
theorem tok122 : TOk Tryz.prog 122 ti122 := tok_mk (.agg #[.slice none 0 0, .string ⟨#[]⟩, .string ⟨#[]⟩, .slice none 0 0, .slice none 0 0, .slice none 0 0, .nilFunc, .nilFunc, .slice none 0 0]) (by kernel_rfl) Tryz.underlying122 rfl rfl rfl rfl rfl (by kernel_rfl) rfl (by kernel_rfl)
/-- eval.Work -/
def ti123 : TI := ⟨.struct, 9, 168, true, .agg [.slice [] .nil, .str [], .str [], .slice [] .nil, .slice [] .nil, .slice [] .nil, .nilfn, .nilfn, .slice [] .nil], [(0, 3, true), (3, 2, true), (5, 1, false), (6, 1, false), (7, 1, false), (8, 1, false)], 0⟩
theorem tok123 : TOk Tryz.prog 123 ti123 := tok_mk (.agg #[.slice none 0 0, .string ⟨#[]⟩, .string ⟨#[]⟩, .slice none 0 0, .slice none 0 0, .slice none 0 0, .nilFunc, .nilFunc, .slice none 0 0]) (by kernel_rfl) Tryz.underlying123 rfl rfl rfl rfl rfl (by kernel_rfl) rfl (by kernel_rfl)
/--  eval.Knot -/
def ti124 : TI := ⟨.pointer, 1, 8, false, .nilp, [], 194⟩
theorem tok124 : TOk Tryz.prog 124 ti124 := tok_mk (.pointer none) (by kernel_rfl) Tryz.underlying124 rfl rfl rfl rfl rfl (by kernel_rfl) rfl (by kernel_rfl)
/--   api.Step -/
def ti125 : TI := ⟨.slice, 1, 24, false, .slice [] .nil, [], 202⟩
theorem tok125 : TOk Tryz.prog 125 ti125 := tok_mk (.slice none 0 0) (by kernel_rfl) Tryz.underlying125 rfl rfl rfl rfl rfl (by kernel_rfl) rfl (by kernel_rfl)
/-- struct   Need api.Need  at  eval.Knot  t api.Type  sels   api.Sel  path   api.St -/
def ti126 : TI := ⟨.struct, 8, 120, true, .agg [.str [], .str [], .nilp, .str [], .int .i64 0, .int .i64 0, .slice [] .nil, .slice [] .nil], [(0, 2, true), (2, 1, false), (3, 3, true), (6, 1, false), (7, 1, false)], 0⟩
theorem tok126 : TOk Tryz.prog 126 ti126 := tok_mk (.agg #[.string ⟨#[]⟩, .string ⟨#[]⟩, .pointer none, .string ⟨#[]⟩, .int .i64 0, .int .i64 0, .slice none 0 0, .slice none 0 0]) (by kernel_rfl) Tryz.underlying126 rfl rfl rfl rfl rfl (by kernel_rfl) rfl (by kernel_rfl)
/-- eval.Hang -/
def ti127 : TI := ⟨.struct, 8, 120, true, .agg [.str [], .str [], .nilp, .str [], .int .i64 0, .int .i64 0, .slice [] .nil, .slice [] .nil], [(0, 2, true), (2, 1, false), (3, 3, true), (6, 1, false), (7, 1, false)], 0⟩
theorem tok127 : TOk Tryz.prog 127 ti127 := tok_mk (.agg #[.string ⟨#[]⟩, .string ⟨#[]⟩, .pointer none, .string ⟨#[]⟩, .int .i64 0, .int .i64 0, .slice none 0 0, .slice none 0 0]) (by kernel_rfl) Tryz.underlying127 rfl rfl rfl rfl rfl (by kernel_rfl) rfl (by kernel_rfl)
/-- api.Errno -/
def ti129 : TI := ⟨(.int .i64), 1, 8, false, .int .i64 0, [], 0⟩
theorem tok129 : TOk Tryz.prog 129 ti129 := tok_mk (.int .i64 0) (by kernel_rfl) Tryz.underlying129 rfl rfl rfl rfl rfl (by kernel_rfl) rfl (by kernel_rfl)
/-- struct   Row api.Row  Is bool  E api.Errno   -/
def ti130 : TI := ⟨.struct, 6, 80, true, .agg [.str [], .str [], .slice [] .nil, .bool false, .bool false, .int .i64 0], [(0, 4, true), (4, 1, false), (5, 1, false)], 0⟩
theorem tok130 : TOk Tryz.prog 130 ti130 := tok_mk (.agg #[.string ⟨#[]⟩, .string ⟨#[]⟩, .slice none 0 0, .bool false, .bool false, .int .i64 0]) (by kernel_rfl) Tryz.underlying130 rfl rfl rfl rfl rfl (by kernel_rfl) rfl (by kernel_rfl)
/-- api.Got -/
def ti131 : TI := ⟨.struct, 6, 80, true, .agg [.str [], .str [], .slice [] .nil, .bool false, .bool false, .int .i64 0], [(0, 4, true), (4, 1, false), (5, 1, false)], 0⟩
theorem tok131 : TOk Tryz.prog 131 ti131 := tok_mk (.agg #[.string ⟨#[]⟩, .string ⟨#[]⟩, .slice none 0 0, .bool false, .bool false, .int .i64 0]) (by kernel_rfl) Tryz.underlying131 rfl rfl rfl rfl rfl (by kernel_rfl) rfl (by kernel_rfl)
/-- struct   At  eval.Knot  Typ string  Row api.Row  Sels   api.Sel  Path   api.Step -/
def ti135 : TI := ⟨.struct, 8, 136, true, .agg [.nilp, .str [], .str [], .str [], .slice [] .nil, .bool false, .slice [] .nil, .slice [] .nil], [(0, 1, false), (1, 1, false), (2, 4, true), (6, 1, false), (7, 1, false)], 0⟩
theorem tok135 : TOk Tryz.prog 135 ti135 := tok_mk (.agg #[.pointer none, .string ⟨#[]⟩, .string ⟨#[]⟩, .string ⟨#[]⟩, .slice none 0 0, .bool false, .slice none 0 0, .slice none 0 0]) (by kernel_rfl) Tryz.underlying135 rfl rfl rfl rfl rfl (by kernel_rfl) rfl (by kernel_rfl)
/-- eval.Place -/
def ti136 : TI := ⟨.struct, 8, 136, true, .agg [.nilp, .str [], .str [], .str [], .slice [] .nil, .bool false, .slice [] .nil, .slice [] .nil], [(0, 1, false), (1, 1, false), (2, 4, true), (6, 1, false), (7, 1, false)], 0⟩
theorem tok136 : TOk Tryz.prog 136 ti136 := tok_mk (.agg #[.pointer none, .string ⟨#[]⟩, .string ⟨#[]⟩, .string ⟨#[]⟩, .slice none 0 0, .bool false, .slice none 0 0, .slice none 0 0]) (by kernel_rfl) Tryz.underlying136 rfl rfl rfl rfl rfl (by kernel_rfl) rfl (by kernel_rfl)
/--   api.Group -/
def ti137 : TI := ⟨.slice, 1, 24, false, .slice [] .nil, [], 140⟩
theorem tok137 : TOk Tryz.prog 137 ti137 := tok_mk (.slice none 0 0) (by kernel_rfl) Tryz.underlying137 rfl rfl rfl rfl rfl (by kernel_rfl) rfl (by kernel_rfl)
/-- struct   Key string  Sels   api.Sel   -/
def ti139 : TI := ⟨.struct, 2, 40, true, .agg [.str [], .slice [] .nil], [(0, 1, false), (1, 1, false)], 0⟩
theorem tok139 : TOk Tryz.prog 139 ti139 := tok_mk (.agg #[.string ⟨#[]⟩, .slice none 0 0]) (by kernel_rfl) Tryz.underlying139 rfl rfl rfl rfl rfl (by kernel_rfl) rfl (by kernel_rfl)
/-- api.Group -/
def ti140 : TI := ⟨.struct, 2, 40, true, .agg [.str [], .slice [] .nil], [(0, 1, false), (1, 1, false)], 0⟩
theorem tok140 : TOk Tryz.prog 140 ti140 := tok_mk (.agg #[.string ⟨#[]⟩, .slice none 0 0]) (by kernel_rfl) Tryz.underlying140 rfl rfl rfl rfl rfl (by kernel_rfl) rfl (by kernel_rfl)
/--   api.Node -/
def ti145 : TI := ⟨.slice, 1, 24, false, .slice [] .nil, [], 147⟩
theorem tok145 : TOk Tryz.prog 145 ti145 := tok_mk (.slice none 0 0) (by kernel_rfl) Tryz.underlying145 rfl rfl rfl rfl rfl (by kernel_rfl) rfl (by kernel_rfl)
/-- struct   Kind int  Must bool  V api.Value  Keys   string  L   api.Node   -/
def ti146 : TI := ⟨.struct, 9, 144, true, .agg [.int .i64 0, .bool false, .int .i64 0, .int .i64 0, .str [], .slice [] .nil, .slice [] .nil, .slice [] .nil, .slice [] .nil], [(0, 1, false), (1, 1, false), (2, 5, true), (7, 1, false), (8, 1, false)], 0⟩
theorem tok146 : TOk Tryz.prog 146 ti146 := tok_mk (.agg #[.int .i64 0, .bool false, .int .i64 0, .int .i64 0, .string ⟨#[]⟩, .slice none 0 0, .slice none 0 0, .slice none 0 0, .slice none 0 0]) (by kernel_rfl) Tryz.underlying146 rfl rfl rfl rfl rfl (by kernel_rfl) rfl (by kernel_rfl)
/-- api.Node -/
def ti147 : TI := ⟨.struct, 9, 144, true, .agg [.int .i64 0, .bool false, .int .i64 0, .int .i64 0, .str [], .slice [] .nil, .slice [] .nil, .slice [] .nil, .slice [] .nil], [(0, 1, false), (1, 1, false), (2, 5, true), (7, 1, false), (8, 1, false)], 0⟩
theorem tok147 : TOk Tryz.prog 147 ti147 := tok_mk (.agg #[.int .i64 0, .bool false, .int .i64 0, .int .i64 0, .string ⟨#[]⟩, .slice none 0 0, .slice none 0 0, .slice none 0 0, .slice none 0 0]) (by kernel_rfl) Tryz.underlying147 rfl rfl rfl rfl rfl (by kernel_rfl) rfl (by kernel_rfl)
/-- struct   Name string  On string  Dirs   api.Dir  Sels   api.Sel   -/
def ti185 : TI := ⟨.struct, 4, 80, true, .agg [.str [], .str [], .slice [] .nil, .slice [] .nil], [(0, 1, false), (1, 1, false), (2, 1, false), (3, 1, false)], 0⟩
theorem tok185 : TOk Tryz.prog 185 ti185 := tok_mk (.agg #[.string ⟨#[]⟩, .string ⟨#[]⟩, .slice none 0 0, .slice none 0 0]) (by kernel_rfl) Tryz.underlying185 rfl rfl rfl rfl rfl (by kernel_rfl) rfl (by kernel_rfl)
/-- api.Frag -/
def ti186 : TI := ⟨.struct, 4, 80, true, .agg [.str [], .str [], .slice [] .nil, .slice [] .nil], [(0, 1, false), (1, 1, false), (2, 1, false), (3, 1, false)], 0⟩
theorem tok186 : TOk Tryz.prog 186 ti186 := tok_mk (.agg #[.string ⟨#[]⟩, .string ⟨#[]⟩, .slice none 0 0, .slice none 0 0]) (by kernel_rfl) Tryz.underlying186 rfl rfl rfl rfl rfl (by kernel_rfl) rfl (by kernel_rfl)
/--    eval.Knot -/
def ti192 : TI := ⟨.slice, 1, 24, false, .slice [] .nil, [], 124⟩
theorem tok192 : TOk Tryz.prog 192 ti192 := tok_mk (.slice none 0 0) (by kernel_rfl) Tryz.underlying192 rfl rfl rfl rfl rfl (by kernel_rfl) rfl (by kernel_rfl)
/-- struct   n api.Node  l    eval.Knot   -/
def ti193 : TI := ⟨.struct, 10, 168, true, .agg [.int .i64 0, .bool false, .int .i64 0, .int .i64 0, .str [], .slice [] .nil, .slice [] .nil, .slice [] .nil, .slice [] .nil, .slice [] .nil], [(0, 9, true), (9, 1, false)], 0⟩
theorem tok193 : TOk Tryz.prog 193 ti193 := tok_mk (.agg #[.int .i64 0, .bool false, .int .i64 0, .int .i64 0, .string ⟨#[]⟩, .slice none 0 0, .slice none 0 0, .slice none 0 0, .slice none 0 0, .slice none 0 0]) (by kernel_rfl) Tryz.underlying193 rfl rfl rfl rfl rfl (by kernel_rfl) rfl (by kernel_rfl)
/-- eval.Knot -/
def ti194 : TI := ⟨.struct, 10, 168, true, .agg [.int .i64 0, .bool false, .int .i64 0, .int .i64 0, .str [], .slice [] .nil, .slice [] .nil, .slice [] .nil, .slice [] .nil, .slice [] .nil], [(0, 9, true), (9, 1, false)], 0⟩
theorem tok194 : TOk Tryz.prog 194 ti194 := tok_mk (.agg #[.int .i64 0, .bool false, .int .i64 0, .int .i64 0, .string ⟨#[]⟩, .slice none 0 0, .slice none 0 0, .slice none 0 0, .slice none 0 0, .slice none 0 0]) (by kernel_rfl) Tryz.underlying194 rfl rfl rfl rfl rfl (by kernel_rfl) rfl (by kernel_rfl)
/-- eval.Do -/
def ti198 : TI := ⟨.func, 1, 8, false, .nilfn, [], 0⟩
theorem tok198 : TOk Tryz.prog 198 ti198 := tok_mk (.nilFunc) (by kernel_rfl) Tryz.underlying198 rfl rfl rfl rfl rfl (by kernel_rfl) rfl (by kernel_rfl)
/-- struct   Name string  At int   -/
def ti201 : TI := ⟨.struct, 2, 24, true, .agg [.str [], .int .i64 0], [(0, 1, false), (1, 1, false)], 0⟩
theorem tok201 : TOk Tryz.prog 201 ti201 := tok_mk (.agg #[.string ⟨#[]⟩, .int .i64 0]) (by kernel_rfl) Tryz.underlying201 rfl rfl rfl rfl rfl (by kernel_rfl) rfl (by kernel_rfl)
/-- api.Step -/
def ti202 : TI := ⟨.struct, 2, 24, true, .agg [.str [], .int .i64 0], [(0, 1, false), (1, 1, false)], 0⟩
theorem tok202 : TOk Tryz.prog 202 ti202 := tok_mk (.agg #[.string ⟨#[]⟩, .int .i64 0]) (by kernel_rfl) Tryz.underlying202 rfl rfl rfl rfl rfl (by kernel_rfl) rfl (by kernel_rfl)
/-- struct   Path   api.Step  E api.Errno   -/
def ti215 : TI := ⟨.struct, 2, 32, true, .agg [.slice [] .nil, .int .i64 0], [(0, 1, false), (1, 1, false)], 0⟩
theorem tok215 : TOk Tryz.prog 215 ti215 := tok_mk (.agg #[.slice none 0 0, .int .i64 0]) (by kernel_rfl) Tryz.underlying215 rfl rfl rfl rfl rfl (by kernel_rfl) rfl (by kernel_rfl)
/-- api.Fault -/
def ti216 : TI := ⟨.struct, 2, 32, true, .agg [.slice [] .nil, .int .i64 0], [(0, 1, false), (1, 1, false)], 0⟩
theorem tok216 : TOk Tryz.prog 216 ti216 := tok_mk (.agg #[.slice none 0 0, .int .i64 0]) (by kernel_rfl) Tryz.underlying216 rfl rfl rfl rfl rfl (by kernel_rfl) rfl (by kernel_rfl)
/--   api.Token -/
def ti222 : TI := ⟨.slice, 1, 24, false, .slice [] .nil, [], 293⟩
theorem tok222 : TOk Tryz.prog 222 ti222 := tok_mk (.slice none 0 0) (by kernel_rfl) Tryz.underlying222 rfl rfl rfl rfl rfl (by kernel_rfl) rfl (by kernel_rfl)
/--   int -/
def ti227 : TI := ⟨.slice, 1, 24, false, .slice [] .nil, [], 3⟩
theorem tok227 : TOk Tryz.prog 227 ti227 := tok_mk (.slice none 0 0) (by kernel_rfl) Tryz.underlying227 rfl rfl rfl rfl rfl (by kernel_rfl) rfl (by kernel_rfl)
/--  collect.gatherer -/
def ti242 : TI := ⟨.pointer, 1, 8, false, .nilp, [], 245⟩
theorem tok242 : TOk Tryz.prog 242 ti242 := tok_mk (.pointer none) (by kernel_rfl) Tryz.underlying242 rfl rfl rfl rfl rfl (by kernel_rfl) rfl (by kernel_rfl)
/-- map string bool -/
def ti243 : TI := ⟨.map, 1, 8, false, .nilmap, [], 4⟩
theorem tok243 : TOk Tryz.prog 243 ti243 := tok_mk (.map none) (by kernel_rfl) Tryz.underlying243 rfl rfl rfl rfl rfl (by kernel_rfl) rfl (by kernel_rfl)
/-- struct   s api.Schema  d api.Doc  env   api.Member  typ string  out   api.Group  -/
def ti244 : TI := ⟨.struct, 9, 176, true, .agg [.slice [] .nil, .str [], .str [], .slice [] .nil, .slice [] .nil, .slice [] .nil, .str [], .slice [] .nil, .nilmap], [(0, 3, true), (3, 2, true), (5, 1, false), (6, 1, false), (7, 1, false), (8, 1, false)], 0⟩
theorem tok244 : TOk Tryz.prog 244 ti244 := tok_mk (.agg #[.slice none 0 0, .string ⟨#[]⟩, .string ⟨#[]⟩, .slice none 0 0, .slice none 0 0, .slice none 0 0, .string ⟨#[]⟩, .slice none 0 0, .map none]) (by kernel_rfl) Tryz.underlying244 rfl rfl rfl rfl rfl (by kernel_rfl) rfl (by kernel_rfl)
/-- collect.gatherer -/
def ti245 : TI := ⟨.struct, 9, 176, true, .agg [.slice [] .nil, .str [], .str [], .slice [] .nil, .slice [] .nil, .slice [] .nil, .str [], .slice [] .nil, .nilmap], [(0, 3, true), (3, 2, true), (5, 1, false), (6, 1, false), (7, 1, false), (8, 1, false)], 0⟩
theorem tok245 : TOk Tryz.prog 245 ti245 := tok_mk (.agg #[.slice none 0 0, .string ⟨#[]⟩, .string ⟨#[]⟩, .slice none 0 0, .slice none 0 0, .slice none 0 0, .string ⟨#[]⟩, .slice none 0 0, .map none]) (by kernel_rfl) Tryz.underlying245 rfl rfl rfl rfl rfl (by kernel_rfl) rfl (by kernel_rfl)
/--  print.Writer -/
def ti257 : TI := ⟨.pointer, 1, 8, false, .nilp, [], 265⟩
theorem tok257 : TOk Tryz.prog 257 ti257 := tok_mk (.pointer none) (by kernel_rfl) Tryz.underlying257 rfl rfl rfl rfl rfl (by kernel_rfl) rfl (by kernel_rfl)
/-- struct    print.Writer   -/
def ti259 : TI := ⟨.struct, 1, 8, true, .agg [.nilp], [(0, 1, false)], 0⟩
theorem tok259 : TOk Tryz.prog 259 ti259 := tok_mk (.agg #[.pointer none]) (by kernel_rfl) Tryz.underlying259 rfl rfl rfl rfl rfl (by kernel_rfl) rfl (by kernel_rfl)
/-- sdl.writer -/
def ti260 : TI := ⟨.struct, 1, 8, true, .agg [.nilp], [(0, 1, false)], 0⟩
theorem tok260 : TOk Tryz.prog 260 ti260 := tok_mk (.agg #[.pointer none]) (by kernel_rfl) Tryz.underlying260 rfl rfl rfl rfl rfl (by kernel_rfl) rfl (by kernel_rfl)
/-- struct   L   api.Token  OK bool  deep int   -/
def ti264 : TI := ⟨.struct, 3, 40, true, .agg [.slice [] .nil, .bool false, .int .i64 0], [(0, 1, false), (1, 1, false), (2, 1, false)], 0⟩
theorem tok264 : TOk Tryz.prog 264 ti264 := tok_mk (.agg #[.slice none 0 0, .bool false, .int .i64 0]) (by kernel_rfl) Tryz.underlying264 rfl rfl rfl rfl rfl (by kernel_rfl) rfl (by kernel_rfl)
/-- print.Writer -/
def ti265 : TI := ⟨.struct, 3, 40, true, .agg [.slice [] .nil, .bool false, .int .i64 0], [(0, 1, false), (1, 1, false), (2, 1, false)], 0⟩
theorem tok265 : TOk Tryz.prog 265 ti265 := tok_mk (.agg #[.slice none 0 0, .bool false, .int .i64 0]) (by kernel_rfl) Tryz.underlying265 rfl rfl rfl rfl rfl (by kernel_rfl) rfl (by kernel_rfl)
/-- struct   s api.Schema  written bool  within bool  env   api.Member   -/
def ti278 : TI := ⟨.struct, 6, 88, true, .agg [.slice [] .nil, .str [], .str [], .bool false, .bool false, .slice [] .nil], [(0, 3, true), (3, 1, false), (4, 1, false), (5, 1, false)], 0⟩
theorem tok278 : TOk Tryz.prog 278 ti278 := tok_mk (.agg #[.slice none 0 0, .string ⟨#[]⟩, .string ⟨#[]⟩, .bool false, .bool false, .slice none 0 0]) (by kernel_rfl) Tryz.underlying278 rfl rfl rfl rfl rfl (by kernel_rfl) rfl (by kernel_rfl)
/-- coerce.maker -/
def ti279 : TI := ⟨.struct, 6, 88, true, .agg [.slice [] .nil, .str [], .str [], .bool false, .bool false, .slice [] .nil], [(0, 3, true), (3, 1, false), (4, 1, false), (5, 1, false)], 0⟩
theorem tok279 : TOk Tryz.prog 279 ti279 := tok_mk (.agg #[.slice none 0 0, .string ⟨#[]⟩, .string ⟨#[]⟩, .bool false, .bool false, .slice none 0 0]) (by kernel_rfl) Tryz.underlying279 rfl rfl rfl rfl rfl (by kernel_rfl) rfl (by kernel_rfl)
/-- uint -/
def ti281 : TI := ⟨(.int .u64), 1, 8, false, .int .u64 0, [], 0⟩
theorem tok281 : TOk Tryz.prog 281 ti281 := tok_mk (.int .u64 0) (by kernel_rfl) Tryz.underlying281 rfl rfl rfl rfl rfl (by kernel_rfl) rfl (by kernel_rfl)
/-- struct    -/
def ti283 : TI := ⟨.struct, 0, 0, true, .agg [], [], 0⟩
theorem tok283 : TOk Tryz.prog 283 ti283 := tok_mk (.agg #[]) (by kernel_rfl) Tryz.underlying283 rfl rfl rfl rfl rfl (by kernel_rfl) rfl (by kernel_rfl)
/-- command.burnt -/
def ti284 : TI := ⟨.struct, 0, 0, true, .agg [], [], 0⟩
theorem tok284 : TOk Tryz.prog 284 ti284 := tok_mk (.agg #[]) (by kernel_rfl) Tryz.underlying284 rfl rfl rfl rfl rfl (by kernel_rfl) rfl (by kernel_rfl)
/-- struct   Kind int  S string   -/
def ti292 : TI := ⟨.struct, 2, 24, true, .agg [.int .i64 0, .str []], [(0, 1, false), (1, 1, false)], 0⟩
theorem tok292 : TOk Tryz.prog 292 ti292 := tok_mk (.agg #[.int .i64 0, .string ⟨#[]⟩]) (by kernel_rfl) Tryz.underlying292 rfl rfl rfl rfl rfl (by kernel_rfl) rfl (by kernel_rfl)
/-- api.Token -/
def ti293 : TI := ⟨.struct, 2, 24, true, .agg [.int .i64 0, .str []], [(0, 1, false), (1, 1, false)], 0⟩
theorem tok293 : TOk Tryz.prog 293 ti293 := tok_mk (.agg #[.int .i64 0, .string ⟨#[]⟩]) (by kernel_rfl) Tryz.underlying293 rfl rfl rfl rfl rfl (by kernel_rfl) rfl (by kernel_rfl)
/--  24 uint8 -/
def ti331 : TI := ⟨(.array 24), 24, 24, true, .agg [.int .u8 0, .int .u8 0, .int .u8 0, .int .u8 0, .int .u8 0, .int .u8 0, .int .u8 0, .int .u8 0, .int .u8 0, .int .u8 0, .int .u8 0, .int .u8 0, .int .u8 0, .int .u8 0, .int .u8 0, .int .u8 0, .int .u8 0, .int .u8 0, .int .u8 0, .int .u8 0, .int .u8 0, .int .u8 0, .int .u8 0, .int .u8 0], [], 5⟩
theorem tok331 : TOk Tryz.prog 331 ti331 := tok_mk (.agg #[.int .u8 0, .int .u8 0, .int .u8 0, .int .u8 0, .int .u8 0, .int .u8 0, .int .u8 0, .int .u8 0, .int .u8 0, .int .u8 0, .int .u8 0, .int .u8 0, .int .u8 0, .int .u8 0, .int .u8 0, .int .u8 0, .int .u8 0, .int .u8 0, .int .u8 0, .int .u8 0, .int .u8 0, .int .u8 0, .int .u8 0, .int .u8 0]) (by kernel_rfl) Tryz.underlying331 rfl rfl rfl rfl rfl (by kernel_rfl) rfl (by kernel_rfl)
/-- uint64 -/
def ti332 : TI := ⟨(.int .u64), 1, 8, false, .int .u64 0, [], 0⟩
theorem tok332 : TOk Tryz.prog 332 ti332 := tok_mk (.int .u64 0) (by kernel_rfl) Tryz.underlying332 rfl rfl rfl rfl rfl (by kernel_rfl) rfl (by kernel_rfl)
/--   uint8 -/
def ti335 : TI := ⟨.slice, 1, 24, false, .slice [] .nil, [], 5⟩
theorem tok335 : TOk Tryz.prog 335 ti335 := tok_mk (.slice none 0 0) (by kernel_rfl) Tryz.underlying335 rfl rfl rfl rfl rfl (by kernel_rfl) rfl (by kernel_rfl)
/-- struct   lo uint8  hi uint8   -/
def ti344 : TI := ⟨.struct, 2, 2, true, .agg [.int .u8 0, .int .u8 0], [(0, 1, false), (1, 1, false)], 0⟩
theorem tok344 : TOk Tryz.prog 344 ti344 := tok_mk (.agg #[.int .u8 0, .int .u8 0]) (by kernel_rfl) Tryz.underlying344 rfl rfl rfl rfl rfl (by kernel_rfl) rfl (by kernel_rfl)
/-- utf8.acceptRange -/
def ti345 : TI := ⟨.struct, 2, 2, true, .agg [.int .u8 0, .int .u8 0], [(0, 1, false), (1, 1, false)], 0⟩
theorem tok345 : TOk Tryz.prog 345 ti345 := tok_mk (.agg #[.int .u8 0, .int .u8 0]) (by kernel_rfl) Tryz.underlying345 rfl rfl rfl rfl rfl (by kernel_rfl) rfl (by kernel_rfl)
/--  16 utf8.acceptRange -/
def ti346 : TI := ⟨(.array 16), 32, 32, true, .agg [.int .u8 0, .int .u8 0, .int .u8 0, .int .u8 0, .int .u8 0, .int .u8 0, .int .u8 0, .int .u8 0, .int .u8 0, .int .u8 0, .int .u8 0, .int .u8 0, .int .u8 0, .int .u8 0, .int .u8 0, .int .u8 0, .int .u8 0, .int .u8 0, .int .u8 0, .int .u8 0, .int .u8 0, .int .u8 0, .int .u8 0, .int .u8 0, .int .u8 0, .int .u8 0, .int .u8 0, .int .u8 0, .int .u8 0, .int .u8 0, .int .u8 0, .int .u8 0], [], 345⟩
theorem tok346 : TOk Tryz.prog 346 ti346 := tok_mk (.agg #[.int .u8 0, .int .u8 0, .int .u8 0, .int .u8 0, .int .u8 0, .int .u8 0, .int .u8 0, .int .u8 0, .int .u8 0, .int .u8 0, .int .u8 0, .int .u8 0, .int .u8 0, .int .u8 0, .int .u8 0, .int .u8 0, .int .u8 0, .int .u8 0, .int .u8 0, .int .u8 0, .int .u8 0, .int .u8 0, .int .u8 0, .int .u8 0, .int .u8 0, .int .u8 0, .int .u8 0, .int .u8 0, .int .u8 0, .int .u8 0, .int .u8 0, .int .u8 0]) (by kernel_rfl) Tryz.underlying346 rfl rfl rfl rfl rfl (by kernel_rfl) rfl (by kernel_rfl)
/--  20 uint64 -/
def ti353 : TI := ⟨(.array 20), 20, 160, true, .agg [.int .u64 0, .int .u64 0, .int .u64 0, .int .u64 0, .int .u64 0, .int .u64 0, .int .u64 0, .int .u64 0, .int .u64 0, .int .u64 0, .int .u64 0, .int .u64 0, .int .u64 0, .int .u64 0, .int .u64 0, .int .u64 0, .int .u64 0, .int .u64 0, .int .u64 0, .int .u64 0], [], 332⟩
theorem tok353 : TOk Tryz.prog 353 ti353 := tok_mk (.agg #[.int .u64 0, .int .u64 0, .int .u64 0, .int .u64 0, .int .u64 0, .int .u64 0, .int .u64 0, .int .u64 0, .int .u64 0, .int .u64 0, .int .u64 0, .int .u64 0, .int .u64 0, .int .u64 0, .int .u64 0, .int .u64 0, .int .u64 0, .int .u64 0, .int .u64 0, .int .u64 0]) (by kernel_rfl) Tryz.underlying353 rfl rfl rfl rfl rfl (by kernel_rfl) rfl (by kernel_rfl)
/-- uint32 -/
def ti354 : TI := ⟨(.int .u32), 1, 4, false, .int .u32 0, [], 0⟩
theorem tok354 : TOk Tryz.prog 354 ti354 := tok_mk (.int .u32 0) (by kernel_rfl) Tryz.underlying354 rfl rfl rfl rfl rfl (by kernel_rfl) rfl (by kernel_rfl)
/-- interface   Error   string   -/
def ti368 : TI := ⟨.iface, 1, 16, false, .nili, [], 0⟩
theorem tok368 : TOk Tryz.prog 368 ti368 := tok_mk (.nilIface) (by kernel_rfl) Tryz.underlying368 rfl rfl rfl rfl rfl (by kernel_rfl) rfl (by kernel_rfl)
/-- error -/
def ti369 : TI := ⟨.iface, 1, 16, false, .nili, [], 0⟩
theorem tok369 : TOk Tryz.prog 369 ti369 := tok_mk (.nilIface) (by kernel_rfl) Tryz.underlying369 rfl rfl rfl rfl rfl (by kernel_rfl) rfl (by kernel_rfl)
/--  32 uint8 -/
def ti372 : TI := ⟨(.array 32), 32, 32, true, .agg [.int .u8 0, .int .u8 0, .int .u8 0, .int .u8 0, .int .u8 0, .int .u8 0, .int .u8 0, .int .u8 0, .int .u8 0, .int .u8 0, .int .u8 0, .int .u8 0, .int .u8 0, .int .u8 0, .int .u8 0, .int .u8 0, .int .u8 0, .int .u8 0, .int .u8 0, .int .u8 0, .int .u8 0, .int .u8 0, .int .u8 0, .int .u8 0, .int .u8 0, .int .u8 0, .int .u8 0, .int .u8 0, .int .u8 0, .int .u8 0, .int .u8 0, .int .u8 0], [], 5⟩
theorem tok372 : TOk Tryz.prog 372 ti372 := tok_mk (.agg #[.int .u8 0, .int .u8 0, .int .u8 0, .int .u8 0, .int .u8 0, .int .u8 0, .int .u8 0, .int .u8 0, .int .u8 0, .int .u8 0, .int .u8 0, .int .u8 0, .int .u8 0, .int .u8 0, .int .u8 0, .int .u8 0, .int .u8 0, .int .u8 0, .int .u8 0, .int .u8 0, .int .u8 0, .int .u8 0, .int .u8 0, .int .u8 0, .int .u8 0, .int .u8 0, .int .u8 0, .int .u8 0, .int .u8 0, .int .u8 0, .int .u8 0, .int .u8 0]) (by kernel_rfl) Tryz.underlying372 rfl rfl rfl rfl rfl (by kernel_rfl) rfl (by kernel_rfl)
/--  64 uint8 -/
def ti373 : TI := ⟨(.array 64), 64, 64, true, .agg [.int .u8 0, .int .u8 0, .int .u8 0, .int .u8 0, .int .u8 0, .int .u8 0, .int .u8 0, .int .u8 0, .int .u8 0, .int .u8 0, .int .u8 0, .int .u8 0, .int .u8 0, .int .u8 0, .int .u8 0, .int .u8 0, .int .u8 0, .int .u8 0, .int .u8 0, .int .u8 0, .int .u8 0, .int .u8 0, .int .u8 0, .int .u8 0, .int .u8 0, .int .u8 0, .int .u8 0, .int .u8 0, .int .u8 0, .int .u8 0, .int .u8 0, .int .u8 0, .int .u8 0, .int .u8 0, .int .u8 0, .int .u8 0, .int .u8 0, .int .u8 0, .int .u8 0, .int .u8 0, .int .u8 0, .int .u8 0, .int .u8 0, .int .u8 0, .int .u8 0, .int .u8 0, .int .u8 0, .int .u8 0, .int .u8 0, .int .u8 0, .int .u8 0, .int .u8 0, .int .u8 0, .int .u8 0, .int .u8 0, .int .u8 0, .int .u8 0, .int .u8 0, .int .u8 0, .int .u8 0, .int .u8 0, .int .u8 0, .int .u8 0, .int .u8 0], [], 5⟩
theorem tok373 : TOk Tryz.prog 373 ti373 := tok_mk (.agg #[.int .u8 0, .int .u8 0, .int .u8 0, .int .u8 0, .int .u8 0, .int .u8 0, .int .u8 0, .int .u8 0, .int .u8 0, .int .u8 0, .int .u8 0, .int .u8 0, .int .u8 0, .int .u8 0, .int .u8 0, .int .u8 0, .int .u8 0, .int .u8 0, .int .u8 0, .int .u8 0, .int .u8 0, .int .u8 0, .int .u8 0, .int .u8 0, .int .u8 0, .int .u8 0, .int .u8 0, .int .u8 0, .int .u8 0, .int .u8 0, .int .u8 0, .int .u8 0, .int .u8 0, .int .u8 0, .int .u8 0, .int .u8 0, .int .u8 0, .int .u8 0, .int .u8 0, .int .u8 0, .int .u8 0, .int .u8 0, .int .u8 0, .int .u8 0, .int .u8 0, .int .u8 0, .int .u8 0, .int .u8 0, .int .u8 0, .int .u8 0, .int .u8 0, .int .u8 0, .int .u8 0, .int .u8 0, .int .u8 0, .int .u8 0, .int .u8 0, .int .u8 0, .int .u8 0, .int .u8 0, .int .u8 0, .int .u8 0, .int .u8 0, .int .u8 0]) (by kernel_rfl) Tryz.underlying373 rfl rfl rfl rfl rfl (by kernel_rfl) rfl (by kernel_rfl)
/-- strconv.Error -/
def ti377 : TI := ⟨(.int .i64), 1, 8, false, .int .i64 0, [], 0⟩
theorem tok377 : TOk Tryz.prog 377 ti377 := tok_mk (.int .i64 0) (by kernel_rfl) Tryz.underlying377 rfl rfl rfl rfl rfl (by kernel_rfl) rfl (by kernel_rfl)
/--  strconv.NumError -/
def ti380 : TI := ⟨.pointer, 1, 8, false, .nilp, [], 386⟩
theorem tok380 : TOk Tryz.prog 380 ti380 := tok_mk (.pointer none) (by kernel_rfl) Tryz.underlying380 rfl rfl rfl rfl rfl (by kernel_rfl) rfl (by kernel_rfl)
/-- struct   Func string  Num string  Err error   -/
def ti385 : TI := ⟨.struct, 3, 48, true, .agg [.str [], .str [], .nili], [(0, 1, false), (1, 1, false), (2, 1, false)], 0⟩
theorem tok385 : TOk Tryz.prog 385 ti385 := tok_mk (.agg #[.string ⟨#[]⟩, .string ⟨#[]⟩, .nilIface]) (by kernel_rfl) Tryz.underlying385 rfl rfl rfl rfl rfl (by kernel_rfl) rfl (by kernel_rfl)
/-- strconv.NumError -/
def ti386 : TI := ⟨.struct, 3, 48, true, .agg [.str [], .str [], .nili], [(0, 1, false), (1, 1, false), (2, 1, false)], 0⟩
theorem tok386 : TOk Tryz.prog 386 ti386 := tok_mk (.agg #[.string ⟨#[]⟩, .string ⟨#[]⟩, .nilIface]) (by kernel_rfl) Tryz.underlying386 rfl rfl rfl rfl rfl (by kernel_rfl) rfl (by kernel_rfl)
/--  uint8 -/
def ti388 : TI := ⟨.pointer, 1, 8, false, .nilp, [], 5⟩
theorem tok388 : TOk Tryz.prog 388 ti388 := tok_mk (.pointer none) (by kernel_rfl) Tryz.underlying388 rfl rfl rfl rfl rfl (by kernel_rfl) rfl (by kernel_rfl)
/--  errors.errorString -/
def ti389 : TI := ⟨.pointer, 1, 8, false, .nilp, [], 391⟩
theorem tok389 : TOk Tryz.prog 389 ti389 := tok_mk (.pointer none) (by kernel_rfl) Tryz.underlying389 rfl rfl rfl rfl rfl (by kernel_rfl) rfl (by kernel_rfl)
/-- struct   s string   -/
def ti390 : TI := ⟨.struct, 1, 16, true, .agg [.str []], [(0, 1, false)], 0⟩
theorem tok390 : TOk Tryz.prog 390 ti390 := tok_mk (.agg #[.string ⟨#[]⟩]) (by kernel_rfl) Tryz.underlying390 rfl rfl rfl rfl rfl (by kernel_rfl) rfl (by kernel_rfl)
/-- errors.errorString -/
def ti391 : TI := ⟨.struct, 1, 16, true, .agg [.str []], [(0, 1, false)], 0⟩
theorem tok391 : TOk Tryz.prog 391 ti391 := tok_mk (.agg #[.string ⟨#[]⟩]) (by kernel_rfl) Tryz.underlying391 rfl rfl rfl rfl rfl (by kernel_rfl) rfl (by kernel_rfl)
/-- api.VarDef -/
def ti406 : TI := ⟨.struct, 10, 136, true, .agg [.str [], .str [], .int .i64 0, .int .i64 0, .bool false, .int .i64 0, .int .i64 0, .str [], .slice [] .nil, .slice [] .nil], [(0, 1, false), (1, 3, true), (4, 1, false), (5, 5, true)], 0⟩
theorem tok406 : TOk Tryz.prog 406 ti406 := tok_mk (.agg #[.string ⟨#[]⟩, .string ⟨#[]⟩, .int .i64 0, .int .i64 0, .bool false, .int .i64 0, .int .i64 0, .string ⟨#[]⟩, .slice none 0 0, .slice none 0 0]) (by kernel_rfl) Tryz.underlying406 rfl rfl rfl rfl rfl (by kernel_rfl) rfl (by kernel_rfl)
def table : List (Nat × TI) := [(2, ⟨(.int .i64), 1, 8, false, .int .i64 0, [], 0⟩), (3, ⟨(.int .i64), 1, 8, false, .int .i64 0, [], 0⟩), (4, ⟨.bool, 1, 1, false, .bool false, [], 0⟩), (5, ⟨(.int .u8), 1, 1, false, .int .u8 0, [], 0⟩), (9, ⟨.string, 1, 16, false, .str [], [], 0⟩), (12, ⟨(.int .u64), 1, 8, false, .int .u64 0, [], 0⟩), (13, ⟨.struct, 2, 24, true, .agg [.str [], .int .u64 0], [(0, 1, false), (1, 1, false)], 0⟩), (20, ⟨.iface, 1, 16, false, .nili, [], 0⟩), (21, ⟨(.int .i32), 1, 4, false, .int .i32 0, [], 0⟩), (22, ⟨.slice, 1, 24, false, .slice [] .nil, [], 52⟩), (23, ⟨.struct, 3, 56, true, .agg [.slice [] .nil, .str [], .str []], [(0, 1, false), (1, 1, false), (2, 1, false)], 0⟩), (24, ⟨.struct, 3, 56, true, .agg [.slice [] .nil, .str [], .str []], [(0, 1, false), (1, 1, false), (2, 1, false)], 0⟩), (30, ⟨.slice, 1, 24, false, .slice [] .nil, [], 93⟩), (31, ⟨.struct, 3, 32, true, .agg [.str [], .int .i64 0, .int .i64 0], [(0, 1, false), (1, 1, false), (2, 1, false)], 0⟩), (32, ⟨.struct, 3, 32, true, .agg [.str [], .int .i64 0, .int .i64 0], [(0, 1, false), (1, 1, false), (2, 1, false)], 0⟩), (33, ⟨.slice, 1, 24, false, .slice [] .nil, [], 95⟩), (34, ⟨.struct, 6, 96, true, .agg [.str [], .slice [] .nil, .str [], .int .i64 0, .int .i64 0, .slice [] .nil], [(0, 1, false), (1, 1, false), (2, 3, true), (5, 1, false)], 0⟩), (35, ⟨.struct, 6, 96, true, .agg [.str [], .slice [] .nil, .str [], .int .i64 0, .int .i64 0, .slice [] .nil], [(0, 1, false), (1, 1, false), (2, 3, true), (5, 1, false)], 0⟩), (36, ⟨.struct, 5, 72, true, .agg [.int .i64 0, .str [], .str [], .str [], .str []], [(0, 1, false), (1, 1, false), (2, 1, false), (3, 1, false), (4, 1, false)], 0⟩), (37, ⟨.struct, 5, 72, true, .agg [.int .i64 0, .str [], .str [], .str [], .str []], [(0, 1, false), (1, 1, false), (2, 1, false), (3, 1, false), (4, 1, false)], 0⟩), (38, ⟨.slice, 1, 24, false, .slice [] .nil, [], 69⟩), (40, ⟨.slice, 1, 24, false, .slice [] .nil, [], 42⟩), (41, ⟨.struct, 5, 80, true, .agg [.int .i64 0, .int .i64 0, .str [], .slice [] .nil, .slice [] .nil], [(0, 1, false), (1, 1, false), (2, 1, false), (3, 1, false), (4, 1, false)], 0⟩), (42, ⟨.struct, 5, 80, true, .agg [.int .i64 0, .int .i64 0, .str [], .slice [] .nil, .slice [] .nil], [(0, 1, false), (1, 1, false), (2, 1, false), (3, 1, false), (4, 1, false)], 0⟩), (44, ⟨.struct, 5, 88, true, .agg [.str [], .str [], .str [], .str [], .slice [] .nil], [(0, 1, false), (1, 1, false), (2, 1, false), (3, 1, false), (4, 1, false)], 0⟩), (45, ⟨.struct, 5, 88, true, .agg [.str [], .str [], .str [], .str [], .slice [] .nil], [(0, 1, false), (1, 1, false), (2, 1, false), (3, 1, false), (4, 1, false)], 0⟩), (49, ⟨.slice, 1, 24, false, .slice [] .nil, [], 9⟩), (50, ⟨.slice, 1, 24, false, .slice [] .nil, [], 35⟩), (51, ⟨.struct, 6, 120, true, .agg [.int .i64 0, .str [], .slice [] .nil, .slice [] .nil, .slice [] .nil, .slice [] .nil], [(0, 1, false), (1, 1, false), (2, 1, false), (3, 1, false), (4, 1, false), (5, 1, false)], 0⟩), (52, ⟨.struct, 6, 120, true, .agg [.int .i64 0, .str [], .slice [] .nil, .slice [] .nil, .slice [] .nil, .slice [] .nil], [(0, 1, false), (1, 1, false), (2, 1, false), (3, 1, false), (4, 1, false), (5, 1, false)], 0⟩), (68, ⟨.struct, 6, 96, true, .agg [.str [], .int .i64 0, .int .i64 0, .str [], .slice [] .nil, .slice [] .nil], [(0, 1, false), (1, 5, true)], 0⟩), (69, ⟨.struct, 6, 96, true, .agg [.str [], .int .i64 0, .int .i64 0, .str [], .slice [] .nil, .slice [] .nil], [(0, 1, false), (1, 5, true)], 0⟩), (70, ⟨.slice, 1, 24, false, .slice [] .nil, [], 111⟩), (73, ⟨.slice, 1, 24, false, .slice [] .nil, [], 86⟩), (74, ⟨.slice, 1, 24, false, .slice [] .nil, [], 186⟩), (75, ⟨.struct, 2, 48, true, .agg [.slice [] .nil, .slice [] .nil], [(0, 1, false), (1, 1, false)], 0⟩), (76, ⟨.struct, 2, 48, true, .agg [.slice [] .nil, .slice [] .nil], [(0, 1, false), (1, 1, false)], 0⟩), (78, ⟨.slice, 1, 24, false, .slice [] .nil, [], 216⟩), (79, ⟨.slice, 1, 24, false, .slice [] .nil, [], 87⟩), (80, ⟨.struct, 8, 152, true, .agg [.int .i64 0, .int .i64 0, .str [], .slice [] .nil, .slice [] .nil, .slice [] .nil, .slice [] .nil, .slice [] .nil], [(0, 5, true), (5, 1, false), (6, 1, false), (7, 1, false)], 0⟩), (81, ⟨.struct, 8, 152, true, .agg [.int .i64 0, .int .i64 0, .str [], .slice [] .nil, .slice [] .nil, .slice [] .nil, .slice [] .nil, .slice [] .nil], [(0, 5, true), (5, 1, false), (6, 1, false), (7, 1, false)], 0⟩), (83, ⟨.slice, 1, 24, false, .slice [] .nil, [], 406⟩), (84, ⟨.slice, 1, 24, false, .slice [] .nil, [], 113⟩), (85, ⟨.struct, 5, 96, true, .agg [.int .i64 0, .str [], .slice [] .nil, .slice [] .nil, .slice [] .nil], [(0, 1, false), (1, 1, false), (2, 1, false), (3, 1, false), (4, 1, false)], 0⟩), (86, ⟨.struct, 5, 96, true, .agg [.int .i64 0, .str [], .slice [] .nil, .slice [] .nil, .slice [] .nil], [(0, 1, false), (1, 1, false), (2, 1, false), (3, 1, false), (4, 1, false)], 0⟩), (87, ⟨.slice, 1, 24, false, .slice [] .nil, [], 89⟩), (88, ⟨.struct, 2, 32, true, .agg [.str [], .str []], [(0, 1, false), (1, 1, false)], 0⟩), (89, ⟨.struct, 2, 32, true, .agg [.str [], .str []], [(0, 1, false), (1, 1, false)], 0⟩), (92, ⟨.struct, 10, 136, true, .agg [.str [], .str [], .int .i64 0, .int .i64 0, .bool false, .int .i64 0, .int .i64 0, .str [], .slice [] .nil, .slice [] .nil], [(0, 1, false), (1, 3, true), (4, 1, false), (5, 5, true)], 0⟩), (93, ⟨.struct, 10, 136, true, .agg [.str [], .str [], .int .i64 0, .int .i64 0, .bool false, .int .i64 0, .int .i64 0, .str [], .slice [] .nil, .slice [] .nil], [(0, 1, false), (1, 3, true), (4, 1, false), (5, 5, true)], 0⟩), (94, ⟨.struct, 2, 40, true, .agg [.str [], .slice [] .nil], [(0, 1, false), (1, 1, false)], 0⟩), (95, ⟨.struct, 2, 40, true, .agg [.str [], .slice [] .nil], [(0, 1, false), (1, 1, false)], 0⟩), (107, ⟨.struct, 4, 64, true, .agg [.str [], .str [], .slice [] .nil, .bool false], [(0, 1, false), (1, 1, false), (2, 1, false), (3, 1, false)], 0⟩), (108, ⟨.struct, 4, 64, true, .agg [.str [], .str [], .slice [] .nil, .bool false], [(0, 1, false), (1, 1, false), (2, 1, false), (3, 1, false)], 0⟩), (109, ⟨.slice, 1, 24, false, .slice [] .nil, [], 108⟩), (110, ⟨.struct, 2, 40, true, .agg [.str [], .slice [] .nil], [(0, 1, false), (1, 1, false)], 0⟩), (111, ⟨.struct, 2, 40, true, .agg [.str [], .slice [] .nil], [(0, 1, false), (1, 1, false)], 0⟩), (112, ⟨.struct, 7, 128, true, .agg [.int .i64 0, .str [], .str [], .slice [] .nil, .slice [] .nil, .str [], .slice [] .nil], [(0, 1, false), (1, 1, false), (2, 1, false), (3, 1, false), (4, 1, false), (5, 1, false), (6, 1, false)], 0⟩), (113, ⟨.struct, 7, 128, true, .agg [.int .i64 0, .str [], .str [], .slice [] .nil, .slice [] .nil, .str [], .slice [] .nil], [(0, 1, false), (1, 1, false), (2, 1, false), (3, 1, false), (4, 1, false), (5, 1, false), (6, 1, false)], 0⟩), (115, ⟨.pointer, 1, 8, false, .nilp, [], 118⟩), (117, ⟨.struct, 2, 48, true, .agg [.slice [] .nil, .slice [] .nil], [(0, 1, false), (1, 1, false)], 0⟩), (118, ⟨.struct, 2, 48, true, .agg [.slice [] .nil, .slice [] .nil], [(0, 1, false), (1, 1, false)], 0⟩), (119, ⟨.pointer, 1, 8, false, .nilp, [], 123⟩), (122, ⟨.struct, 9, 168, true, .agg [.slice [] .nil, .str [], .str [], .slice [] .nil, .slice [] .nil, .slice [] .nil, .nilfn, .nilfn, .slice [] .nil], [(0, 3, true), (3, 2, true), (5, 1, false), (6, 1, false), (7, 1, false), (8, 1, false)], 0⟩), (123, ⟨.struct, 9, 168, true, .agg [.slice [] .nil, .str [], .str [], .slice [] .nil, .slice [] .nil, .slice [] .nil, .nilfn, .nilfn, .slice [] .nil], [(0, 3, true), (3, 2, true), (5, 1, false), (6, 1, false), (7, 1, false), (8, 1, false)], 0⟩), (124, ⟨.pointer, 1, 8, false, .nilp, [], 194⟩), (125, ⟨.slice, 1, 24, false, .slice [] .nil, [], 202⟩), (126, ⟨.struct, 8, 120, true, .agg [.str [], .str [], .nilp, .str [], .int .i64 0, .int .i64 0, .slice [] .nil, .slice [] .nil], [(0, 2, true), (2, 1, false), (3, 3, true), (6, 1, false), (7, 1, false)], 0⟩), (127, ⟨.struct, 8, 120, true, .agg [.str [], .str [], .nilp, .str [], .int .i64 0, .int .i64 0, .slice [] .nil, .slice [] .nil], [(0, 2, true), (2, 1, false), (3, 3, true), (6, 1, false), (7, 1, false)], 0⟩), (129, ⟨(.int .i64), 1, 8, false, .int .i64 0, [], 0⟩), (130, ⟨.struct, 6, 80, true, .agg [.str [], .str [], .slice [] .nil, .bool false, .bool false, .int .i64 0], [(0, 4, true), (4, 1, false), (5, 1, false)], 0⟩), (131, ⟨.struct, 6, 80, true, .agg [.str [], .str [], .slice [] .nil, .bool false, .bool false, .int .i64 0], [(0, 4, true), (4, 1, false), (5, 1, false)], 0⟩), (135, ⟨.struct, 8, 136, true, .agg [.nilp, .str [], .str [], .str [], .slice [] .nil, .bool false, .slice [] .nil, .slice [] .nil], [(0, 1, false), (1, 1, false), (2, 4, true), (6, 1, false), (7, 1, false)], 0⟩), (136, ⟨.struct, 8, 136, true, .agg [.nilp, .str [], .str [], .str [], .slice [] .nil, .bool false, .slice [] .nil, .slice [] .nil], [(0, 1, false), (1, 1, false), (2, 4, true), (6, 1, false), (7, 1, false)], 0⟩), (137, ⟨.slice, 1, 24, false, .slice [] .nil, [], 140⟩), (139, ⟨.struct, 2, 40, true, .agg [.str [], .slice [] .nil], [(0, 1, false), (1, 1, false)], 0⟩), (140, ⟨.struct, 2, 40, true, .agg [.str [], .slice [] .nil], [(0, 1, false), (1, 1, false)], 0⟩), (145, ⟨.slice, 1, 24, false, .slice [] .nil, [], 147⟩), (146, ⟨.struct, 9, 144, true, .agg [.int .i64 0, .bool false, .int .i64 0, .int .i64 0, .str [], .slice [] .nil, .slice [] .nil, .slice [] .nil, .slice [] .nil], [(0, 1, false), (1, 1, false), (2, 5, true), (7, 1, false), (8, 1, false)], 0⟩), (147, ⟨.struct, 9, 144, true, .agg [.int .i64 0, .bool false, .int .i64 0, .int .i64 0, .str [], .slice [] .nil, .slice [] .nil, .slice [] .nil, .slice [] .nil], [(0, 1, false), (1, 1, false), (2, 5, true), (7, 1, false), (8, 1, false)], 0⟩), (185, ⟨.struct, 4, 80, true, .agg [.str [], .str [], .slice [] .nil, .slice [] .nil], [(0, 1, false), (1, 1, false), (2, 1, false), (3, 1, false)], 0⟩), (186, ⟨.struct, 4, 80, true, .agg [.str [], .str [], .slice [] .nil, .slice [] .nil], [(0, 1, false), (1, 1, false), (2, 1, false), (3, 1, false)], 0⟩), (192, ⟨.slice, 1, 24, false, .slice [] .nil, [], 124⟩), (193, ⟨.struct, 10, 168, true, .agg [.int .i64 0, .bool false, .int .i64 0, .int .i64 0, .str [], .slice [] .nil, .slice [] .nil, .slice [] .nil, .slice [] .nil, .slice [] .nil], [(0, 9, true), (9, 1, false)], 0⟩), (194, ⟨.struct, 10, 168, true, .agg [.int .i64 0, .bool false, .int .i64 0, .int .i64 0, .str [], .slice [] .nil, .slice [] .nil, .slice [] .nil, .slice [] .nil, .slice [] .nil], [(0, 9, true), (9, 1, false)], 0⟩), (198, ⟨.func, 1, 8, false, .nilfn, [], 0⟩), (201, ⟨.struct, 2, 24, true, .agg [.str [], .int .i64 0], [(0, 1, false), (1, 1, false)], 0⟩), (202, ⟨.struct, 2, 24, true, .agg [.str [], .int .i64 0], [(0, 1, false), (1, 1, false)], 0⟩), (215, ⟨.struct, 2, 32, true, .agg [.slice [] .nil, .int .i64 0], [(0, 1, false), (1, 1, false)], 0⟩), (216, ⟨.struct, 2, 32, true, .agg [.slice [] .nil, .int .i64 0], [(0, 1, false), (1, 1, false)], 0⟩), (222, ⟨.slice, 1, 24, false, .slice [] .nil, [], 293⟩), (227, ⟨.slice, 1, 24, false, .slice [] .nil, [], 3⟩), (242, ⟨.pointer, 1, 8, false, .nilp, [], 245⟩), (243, ⟨.map, 1, 8, false, .nilmap, [], 4⟩), (244, ⟨.struct, 9, 176, true, .agg [.slice [] .nil, .str [], .str [], .slice [] .nil, .slice [] .nil, .slice [] .nil, .str [], .slice [] .nil, .nilmap], [(0, 3, true), (3, 2, true), (5, 1, false), (6, 1, false), (7, 1, false), (8, 1, false)], 0⟩), (245, ⟨.struct, 9, 176, true, .agg [.slice [] .nil, .str [], .str [], .slice [] .nil, .slice [] .nil, .slice [] .nil, .str [], .slice [] .nil, .nilmap], [(0, 3, true), (3, 2, true), (5, 1, false), (6, 1, false), (7, 1, false), (8, 1, false)], 0⟩), (257, ⟨.pointer, 1, 8, false, .nilp, [], 265⟩), (259, ⟨.struct, 1, 8, true, .agg [.nilp], [(0, 1, false)], 0⟩), (260, ⟨.struct, 1, 8, true, .agg [.nilp], [(0, 1, false)], 0⟩), (264, ⟨.struct, 3, 40, true, .agg [.slice [] .nil, .bool false, .int .i64 0], [(0, 1, false), (1, 1, false), (2, 1, false)], 0⟩), (265, ⟨.struct, 3, 40, true, .agg [.slice [] .nil, .bool false, .int .i64 0], [(0, 1, false), (1, 1, false), (2, 1, false)], 0⟩), (278, ⟨.struct, 6, 88, true, .agg [.slice [] .nil, .str [], .str [], .bool false, .bool false, .slice [] .nil], [(0, 3, true), (3, 1, false), (4, 1, false), (5, 1, false)], 0⟩), (279, ⟨.struct, 6, 88, true, .agg [.slice [] .nil, .str [], .str [], .bool false, .bool false, .slice [] .nil], [(0, 3, true), (3, 1, false), (4, 1, false), (5, 1, false)], 0⟩), (281, ⟨(.int .u64), 1, 8, false, .int .u64 0, [], 0⟩), (283, ⟨.struct, 0, 0, true, .agg [], [], 0⟩), (284, ⟨.struct, 0, 0, true, .agg [], [], 0⟩), (292, ⟨.struct, 2, 24, true, .agg [.int .i64 0, .str []], [(0, 1, false), (1, 1, false)], 0⟩), (293, ⟨.struct, 2, 24, true, .agg [.int .i64 0, .str []], [(0, 1, false), (1, 1, false)], 0⟩), (331, ⟨(.array 24), 24, 24, true, .agg [.int .u8 0, .int .u8 0, .int .u8 0, .int .u8 0, .int .u8 0, .int .u8 0, .int .u8 0, .int .u8 0, .int .u8 0, .int .u8 0, .int .u8 0, .int .u8 0, .int .u8 0, .int .u8 0, .int .u8 0, .int .u8 0, .int .u8 0, .int .u8 0, .int .u8 0, .int .u8 0, .int .u8 0, .int .u8 0, .int .u8 0, .int .u8 0], [], 5⟩), (332, ⟨(.int .u64), 1, 8, false, .int .u64 0, [], 0⟩), (335, ⟨.slice, 1, 24, false, .slice [] .nil, [], 5⟩), (344, ⟨.struct, 2, 2, true, .agg [.int .u8 0, .int .u8 0], [(0, 1, false), (1, 1, false)], 0⟩), (345, ⟨.struct, 2, 2, true, .agg [.int .u8 0, .int .u8 0], [(0, 1, false), (1, 1, false)], 0⟩), (346, ⟨(.array 16), 32, 32, true, .agg [.int .u8 0, .int .u8 0, .int .u8 0, .int .u8 0, .int .u8 0, .int .u8 0, .int .u8 0, .int .u8 0, .int .u8 0, .int .u8 0, .int .u8 0, .int .u8 0, .int .u8 0, .int .u8 0, .int .u8 0, .int .u8 0, .int .u8 0, .int .u8 0, .int .u8 0, .int .u8 0, .int .u8 0, .int .u8 0, .int .u8 0, .int .u8 0, .int .u8 0, .int .u8 0, .int .u8 0, .int .u8 0, .int .u8 0, .int .u8 0, .int .u8 0, .int .u8 0], [], 345⟩), (353, ⟨(.array 20), 20, 160, true, .agg [.int .u64 0, .int .u64 0, .int .u64 0, .int .u64 0, .int .u64 0, .int .u64 0, .int .u64 0, .int .u64 0, .int .u64 0, .int .u64 0, .int .u64 0, .int .u64 0, .int .u64 0, .int .u64 0, .int .u64 0, .int .u64 0, .int .u64 0, .int .u64 0, .int .u64 0, .int .u64 0], [], 332⟩), (354, ⟨(.int .u32), 1, 4, false, .int .u32 0, [], 0⟩), (368, ⟨.iface, 1, 16, false, .nili, [], 0⟩), (369, ⟨.iface, 1, 16, false, .nili, [], 0⟩), (372, ⟨(.array 32), 32, 32, true, .agg [.int .u8 0, .int .u8 0, .int .u8 0, .int .u8 0, .int .u8 0, .int .u8 0, .int .u8 0, .int .u8 0, .int .u8 0, .int .u8 0, .int .u8 0, .int .u8 0, .int .u8 0, .int .u8 0, .int .u8 0, .int .u8 0, .int .u8 0, .int .u8 0, .int .u8 0, .int .u8 0, .int .u8 0, .int .u8 0, .int .u8 0, .int .u8 0, .int .u8 0, .int .u8 0, .int .u8 0, .int .u8 0, .int .u8 0, .int .u8 0, .int .u8 0, .int .u8 0], [], 5⟩), (373, ⟨(.array 64), 64, 64, true, .agg [.int .u8 0, .int .u8 0, .int .u8 0, .int .u8 0, .int .u8 0, .int .u8 0, .int .u8 0, .int .u8 0, .int .u8 0, .int .u8 0, .int .u8 0, .int .u8 0, .int .u8 0, .int .u8 0, .int .u8 0, .int .u8 0, .int .u8 0, .int .u8 0, .int .u8 0, .int .u8 0, .int .u8 0, .int .u8 0, .int .u8 0, .int .u8 0, .int .u8 0, .int .u8 0, .int .u8 0, .int .u8 0, .int .u8 0, .int .u8 0, .int .u8 0, .int .u8 0, .int .u8 0, .int .u8 0, .int .u8 0, .int .u8 0, .int .u8 0, .int .u8 0, .int .u8 0, .int .u8 0, .int .u8 0, .int .u8 0, .int .u8 0, .int .u8 0, .int .u8 0, .int .u8 0, .int .u8 0, .int .u8 0, .int .u8 0, .int .u8 0, .int .u8 0, .int .u8 0, .int .u8 0, .int .u8 0, .int .u8 0, .int .u8 0, .int .u8 0, .int .u8 0, .int .u8 0, .int .u8 0, .int .u8 0, .int .u8 0, .int .u8 0, .int .u8 0], [], 5⟩), (377, ⟨(.int .i64), 1, 8, false, .int .i64 0, [], 0⟩), (380, ⟨.pointer, 1, 8, false, .nilp, [], 386⟩), (385, ⟨.struct, 3, 48, true, .agg [.str [], .str [], .nili], [(0, 1, false), (1, 1, false), (2, 1, false)], 0⟩), (386, ⟨.struct, 3, 48, true, .agg [.str [], .str [], .nili], [(0, 1, false), (1, 1, false), (2, 1, false)], 0⟩), (388, ⟨.pointer, 1, 8, false, .nilp, [], 5⟩), (389, ⟨.pointer, 1, 8, false, .nilp, [], 391⟩), (390, ⟨.struct, 1, 16, true, .agg [.str []], [(0, 1, false)], 0⟩), (391, ⟨.struct, 1, 16, true, .agg [.str []], [(0, 1, false)], 0⟩), (406, ⟨.struct, 10, 136, true, .agg [.str [], .str [], .int .i64 0, .int .i64 0, .bool false, .int .i64 0, .int .i64 0, .str [], .slice [] .nil, .slice [] .nil], [(0, 1, false), (1, 3, true), (4, 1, false), (5, 5, true)], 0⟩)]
theorem table_ok : LayOk Tryz.prog table := ⟨tok2, tok3, tok4, tok5, tok9, tok12, tok13, tok20, tok21, tok22, tok23, tok24, tok30, tok31, tok32, tok33, tok34, tok35, tok36, tok37, tok38, tok40, tok41, tok42, tok44, tok45, tok49, tok50, tok51, tok52, tok68, tok69, tok70, tok73, tok74, tok75, tok76, tok78, tok79, tok80, tok81, tok83, tok84, tok85, tok86, tok87, tok88, tok89, tok92, tok93, tok94, tok95, tok107, tok108, tok109, tok110, tok111, tok112, tok113, tok115, tok117, tok118, tok119, tok122, tok123, tok124, tok125, tok126, tok127, tok129, tok130, tok131, tok135, tok136, tok137, tok139, tok140, tok145, tok146, tok147, tok185, tok186, tok192, tok193, tok194, tok198, tok201, tok202, tok215, tok216, tok222, tok227, tok242, tok243, tok244, tok245, tok257, tok259, tok260, tok264, tok265, tok278, tok279, tok281, tok283, tok284, tok292, tok293, tok331, tok332, tok335, tok344, tok345, tok346, tok353, tok354, tok368, tok369, tok372, tok373, tok377, tok380, tok385, tok386, tok388, tok389, tok390, tok391, tok406, trivial⟩
instance : Lay Tryz.prog := ⟨table, table_ok, Tryz.checked.mixed⟩
end Go.Proofs.YtgghkkeejagfkaaGreatDoor
