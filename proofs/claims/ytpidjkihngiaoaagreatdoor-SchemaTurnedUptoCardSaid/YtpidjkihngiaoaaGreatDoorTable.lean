/-
  The table of this seat's types, written by a program of the prover's (genlay.py): closed facts.
-/
import Derived.Test.YtpidjkihngiaoaaGreatDoorRows
import Derived.Test.YtpidjkihngiaoaaGreatDoorAvLaw
import Derived.Test.YtpidjkihngiaoaaGreatDoorAvTab
namespace Go.Proofs.YtpidjkihngiaoaaGreatDoor
open Go Go.Av
set_option maxRecDepth 100000

instance : Globals := ⟨[(0, .agg (Lib.firstTab.map (AV.int .u8))), (1, .agg (accTab.map (AV.int .u8))), (2, .agg (Lib.pow10Tab.map (AV.int .u64))), (5, .iface 274 .undef), (6, .iface 274 .undef)], [(2, 20)]⟩
/-- int64 -/
def ti2 : TI := ⟨(.int .i64), 1, 8, false, .int .i64 0, [], 0⟩
theorem tok2 : TOk Tryz.prog 2 ti2 := tok_mk (.int .i64 0) (by kernel_rfl) Tryz.underlying2 rfl rfl rfl rfl rfl (by kernel_rfl) rfl (by kernel_rfl)
/-- int -/
def ti3 : TI := ⟨(.int .i64), 1, 8, false, .int .i64 0, [], 0⟩
theorem tok3 : TOk Tryz.prog 3 ti3 := tok_mk (.int .i64 0) (by kernel_rfl) Tryz.underlying3 rfl rfl rfl rfl rfl (by kernel_rfl) rfl (by kernel_rfl)
/-- bool -/
def ti4 : TI := ⟨.bool, 1, 1, false, .bool false, [], 0⟩
theorem tok4 : TOk Tryz.prog 4 ti4 := tok_mk (.bool false) (by kernel_rfl) Tryz.underlying4 rfl rfl rfl rfl rfl (by kernel_rfl) rfl (by kernel_rfl)
/-- uint8 -/
def ti5 : TI := ⟨(.int .u8), 1, 1, false, .int .u8 0, [], 0⟩
theorem tok5 : TOk Tryz.prog 5 ti5 := tok_mk (.int .u8 0) (by kernel_rfl) Tryz.underlying5 rfl rfl rfl rfl rfl (by kernel_rfl) rfl (by kernel_rfl)
/-- string -/
def ti9 : TI := ⟨.string, 1, 16, false, .str [], [], 0⟩
theorem tok9 : TOk Tryz.prog 9 ti9 := tok_mk (.string ⟨#[]⟩) (by kernel_rfl) Tryz.underlying9 rfl rfl rfl rfl rfl (by kernel_rfl) rfl (by kernel_rfl)
/-- uintptr -/
def ti12 : TI := ⟨(.int .u64), 1, 8, false, .int .u64 0, [], 0⟩
theorem tok12 : TOk Tryz.prog 12 ti12 := tok_mk (.int .u64 0) (by kernel_rfl) Tryz.underlying12 rfl rfl rfl rfl rfl (by kernel_rfl) rfl (by kernel_rfl)
/-- struct   msg string  addr uintptr   -/
def ti13 : TI := ⟨.struct, 2, 24, true, .agg [.str [], .int .u64 0], [(0, 1, false), (1, 1, false)], 0⟩
theorem tok13 : TOk Tryz.prog 13 ti13 := tok_mk (.agg #[.string ⟨#[]⟩, .int .u64 0]) (by kernel_rfl) Tryz.underlying13 rfl rfl rfl rfl rfl (by kernel_rfl) rfl (by kernel_rfl)
/-- interface    -/
def ti20 : TI := ⟨.iface, 1, 16, false, .nili, [], 0⟩
theorem tok20 : TOk Tryz.prog 20 ti20 := tok_mk (.nilIface) (by kernel_rfl) Tryz.underlying20 rfl rfl rfl rfl rfl (by kernel_rfl) rfl (by kernel_rfl)
/-- int32 -/
def ti21 : TI := ⟨(.int .i32), 1, 4, false, .int .i32 0, [], 0⟩
theorem tok21 : TOk Tryz.prog 21 ti21 := tok_mk (.int .i32 0) (by kernel_rfl) Tryz.underlying21 rfl rfl rfl rfl rfl (by kernel_rfl) rfl (by kernel_rfl)
/--   api.Def -/
def ti22 : TI := ⟨.slice, 1, 24, false, .slice [] .nil, [], 66⟩
theorem tok22 : TOk Tryz.prog 22 ti22 := tok_mk (.slice none 0 0) (by kernel_rfl) Tryz.underlying22 rfl rfl rfl rfl rfl (by kernel_rfl) rfl (by kernel_rfl)
/-- struct   Defs   api.Def  Query string  Mutation string   -/
def ti23 : TI := ⟨.struct, 3, 56, true, .agg [.slice [] .nil, .str [], .str []], [(0, 1, false), (1, 1, false), (2, 1, false)], 0⟩
theorem tok23 : TOk Tryz.prog 23 ti23 := tok_mk (.agg #[.slice none 0 0, .string ⟨#[]⟩, .string ⟨#[]⟩]) (by kernel_rfl) Tryz.underlying23 rfl rfl rfl rfl rfl (by kernel_rfl) rfl (by kernel_rfl)
/-- api.Schema -/
def ti24 : TI := ⟨.struct, 3, 56, true, .agg [.slice [] .nil, .str [], .str []], [(0, 1, false), (1, 1, false), (2, 1, false)], 0⟩
theorem tok24 : TOk Tryz.prog 24 ti24 := tok_mk (.agg #[.slice none 0 0, .string ⟨#[]⟩, .string ⟨#[]⟩]) (by kernel_rfl) Tryz.underlying24 rfl rfl rfl rfl rfl (by kernel_rfl) rfl (by kernel_rfl)
/-- struct   Name string  Lists int  Musts int   -/
def ti25 : TI := ⟨.struct, 3, 32, true, .agg [.str [], .int .i64 0, .int .i64 0], [(0, 1, false), (1, 1, false), (2, 1, false)], 0⟩
theorem tok25 : TOk Tryz.prog 25 ti25 := tok_mk (.agg #[.string ⟨#[]⟩, .int .i64 0, .int .i64 0]) (by kernel_rfl) Tryz.underlying25 rfl rfl rfl rfl rfl (by kernel_rfl) rfl (by kernel_rfl)
/-- api.Type -/
def ti26 : TI := ⟨.struct, 3, 32, true, .agg [.str [], .int .i64 0, .int .i64 0], [(0, 1, false), (1, 1, false), (2, 1, false)], 0⟩
theorem tok26 : TOk Tryz.prog 26 ti26 := tok_mk (.agg #[.string ⟨#[]⟩, .int .i64 0, .int .i64 0]) (by kernel_rfl) Tryz.underlying26 rfl rfl rfl rfl rfl (by kernel_rfl) rfl (by kernel_rfl)
/--   api.Value -/
def ti27 : TI := ⟨.slice, 1, 24, false, .slice [] .nil, [], 30⟩
theorem tok27 : TOk Tryz.prog 27 ti27 := tok_mk (.slice none 0 0) (by kernel_rfl) Tryz.underlying27 rfl rfl rfl rfl rfl (by kernel_rfl) rfl (by kernel_rfl)
/--   api.Member -/
def ti28 : TI := ⟨.slice, 1, 24, false, .slice [] .nil, [], 100⟩
theorem tok28 : TOk Tryz.prog 28 ti28 := tok_mk (.slice none 0 0) (by kernel_rfl) Tryz.underlying28 rfl rfl rfl rfl rfl (by kernel_rfl) rfl (by kernel_rfl)
/-- struct   Kind int  N int64  S string  L   api.Value  M   api.Member   -/
def ti29 : TI := ⟨.struct, 5, 80, true, .agg [.int .i64 0, .int .i64 0, .str [], .slice [] .nil, .slice [] .nil], [(0, 1, false), (1, 1, false), (2, 1, false), (3, 1, false), (4, 1, false)], 0⟩
theorem tok29 : TOk Tryz.prog 29 ti29 := tok_mk (.agg #[.int .i64 0, .int .i64 0, .string ⟨#[]⟩, .slice none 0 0, .slice none 0 0]) (by kernel_rfl) Tryz.underlying29 rfl rfl rfl rfl rfl (by kernel_rfl) rfl (by kernel_rfl)
/-- api.Value -/
def ti30 : TI := ⟨.struct, 5, 80, true, .agg [.int .i64 0, .int .i64 0, .str [], .slice [] .nil, .slice [] .nil], [(0, 1, false), (1, 1, false), (2, 1, false), (3, 1, false), (4, 1, false)], 0⟩
theorem tok30 : TOk Tryz.prog 30 ti30 := tok_mk (.agg #[.int .i64 0, .int .i64 0, .string ⟨#[]⟩, .slice none 0 0, .slice none 0 0]) (by kernel_rfl) Tryz.underlying30 rfl rfl rfl rfl rfl (by kernel_rfl) rfl (by kernel_rfl)
/-- api.Errno -/
def ti34 : TI := ⟨(.int .i64), 1, 8, false, .int .i64 0, [], 0⟩
theorem tok34 : TOk Tryz.prog 34 ti34 := tok_mk (.int .i64 0) (by kernel_rfl) Tryz.underlying34 rfl rfl rfl rfl rfl (by kernel_rfl) rfl (by kernel_rfl)
/--   api.VarDef -/
def ti39 : TI := ⟨.slice, 1, 24, false, .slice [] .nil, [], 95⟩
theorem tok39 : TOk Tryz.prog 39 ti39 := tok_mk (.slice none 0 0) (by kernel_rfl) Tryz.underlying39 rfl rfl rfl rfl rfl (by kernel_rfl) rfl (by kernel_rfl)
/--   api.Dir -/
def ti41 : TI := ⟨.slice, 1, 24, false, .slice [] .nil, [], 139⟩
theorem tok41 : TOk Tryz.prog 41 ti41 := tok_mk (.slice none 0 0) (by kernel_rfl) Tryz.underlying41 rfl rfl rfl rfl rfl (by kernel_rfl) rfl (by kernel_rfl)
/--   api.Sel -/
def ti42 : TI := ⟨.slice, 1, 24, false, .slice [] .nil, [], 141⟩
theorem tok42 : TOk Tryz.prog 42 ti42 := tok_mk (.slice none 0 0) (by kernel_rfl) Tryz.underlying42 rfl rfl rfl rfl rfl (by kernel_rfl) rfl (by kernel_rfl)
/-- struct   Kind int  Name string  Vars   api.VarDef  Dirs   api.Dir  Sels   api.Se -/
def ti43 : TI := ⟨.struct, 5, 96, true, .agg [.int .i64 0, .str [], .slice [] .nil, .slice [] .nil, .slice [] .nil], [(0, 1, false), (1, 1, false), (2, 1, false), (3, 1, false), (4, 1, false)], 0⟩
theorem tok43 : TOk Tryz.prog 43 ti43 := tok_mk (.agg #[.int .i64 0, .string ⟨#[]⟩, .slice none 0 0, .slice none 0 0, .slice none 0 0]) (by kernel_rfl) Tryz.underlying43 rfl rfl rfl rfl rfl (by kernel_rfl) rfl (by kernel_rfl)
/-- api.Op -/
def ti44 : TI := ⟨.struct, 5, 96, true, .agg [.int .i64 0, .str [], .slice [] .nil, .slice [] .nil, .slice [] .nil], [(0, 1, false), (1, 1, false), (2, 1, false), (3, 1, false), (4, 1, false)], 0⟩
theorem tok44 : TOk Tryz.prog 44 ti44 := tok_mk (.agg #[.int .i64 0, .string ⟨#[]⟩, .slice none 0 0, .slice none 0 0, .slice none 0 0]) (by kernel_rfl) Tryz.underlying44 rfl rfl rfl rfl rfl (by kernel_rfl) rfl (by kernel_rfl)
/--   api.Op -/
def ti45 : TI := ⟨.slice, 1, 24, false, .slice [] .nil, [], 44⟩
theorem tok45 : TOk Tryz.prog 45 ti45 := tok_mk (.slice none 0 0) (by kernel_rfl) Tryz.underlying45 rfl rfl rfl rfl rfl (by kernel_rfl) rfl (by kernel_rfl)
/--   api.Frag -/
def ti46 : TI := ⟨.slice, 1, 24, false, .slice [] .nil, [], 97⟩
theorem tok46 : TOk Tryz.prog 46 ti46 := tok_mk (.slice none 0 0) (by kernel_rfl) Tryz.underlying46 rfl rfl rfl rfl rfl (by kernel_rfl) rfl (by kernel_rfl)
/-- struct   Ops   api.Op  Frags   api.Frag   -/
def ti47 : TI := ⟨.struct, 2, 48, true, .agg [.slice [] .nil, .slice [] .nil], [(0, 1, false), (1, 1, false)], 0⟩
theorem tok47 : TOk Tryz.prog 47 ti47 := tok_mk (.agg #[.slice none 0 0, .slice none 0 0]) (by kernel_rfl) Tryz.underlying47 rfl rfl rfl rfl rfl (by kernel_rfl) rfl (by kernel_rfl)
/-- api.Doc -/
def ti48 : TI := ⟨.struct, 2, 48, true, .agg [.slice [] .nil, .slice [] .nil], [(0, 1, false), (1, 1, false)], 0⟩
theorem tok48 : TOk Tryz.prog 48 ti48 := tok_mk (.agg #[.slice none 0 0, .slice none 0 0]) (by kernel_rfl) Tryz.underlying48 rfl rfl rfl rfl rfl (by kernel_rfl) rfl (by kernel_rfl)
/-- uint -/
def ti59 : TI := ⟨(.int .u64), 1, 8, false, .int .u64 0, [], 0⟩
theorem tok59 : TOk Tryz.prog 59 ti59 := tok_mk (.int .u64 0) (by kernel_rfl) Tryz.underlying59 rfl rfl rfl rfl rfl (by kernel_rfl) rfl (by kernel_rfl)
/--   string -/
def ti61 : TI := ⟨.slice, 1, 24, false, .slice [] .nil, [], 9⟩
theorem tok61 : TOk Tryz.prog 61 ti61 := tok_mk (.slice none 0 0) (by kernel_rfl) Tryz.underlying61 rfl rfl rfl rfl rfl (by kernel_rfl) rfl (by kernel_rfl)
/--   api.FieldDef -/
def ti63 : TI := ⟨.slice, 1, 24, false, .slice [] .nil, [], 71⟩
theorem tok63 : TOk Tryz.prog 63 ti63 := tok_mk (.slice none 0 0) (by kernel_rfl) Tryz.underlying63 rfl rfl rfl rfl rfl (by kernel_rfl) rfl (by kernel_rfl)
/--   api.Param -/
def ti64 : TI := ⟨.slice, 1, 24, false, .slice [] .nil, [], 74⟩
theorem tok64 : TOk Tryz.prog 64 ti64 := tok_mk (.slice none 0 0) (by kernel_rfl) Tryz.underlying64 rfl rfl rfl rfl rfl (by kernel_rfl) rfl (by kernel_rfl)
/-- struct   Kind int  Name string  Faces   string  Fields   api.FieldDef  Parts   s -/
def ti65 : TI := ⟨.struct, 6, 120, true, .agg [.int .i64 0, .str [], .slice [] .nil, .slice [] .nil, .slice [] .nil, .slice [] .nil], [(0, 1, false), (1, 1, false), (2, 1, false), (3, 1, false), (4, 1, false), (5, 1, false)], 0⟩
theorem tok65 : TOk Tryz.prog 65 ti65 := tok_mk (.agg #[.int .i64 0, .string ⟨#[]⟩, .slice none 0 0, .slice none 0 0, .slice none 0 0, .slice none 0 0]) (by kernel_rfl) Tryz.underlying65 rfl rfl rfl rfl rfl (by kernel_rfl) rfl (by kernel_rfl)
/-- api.Def -/
def ti66 : TI := ⟨.struct, 6, 120, true, .agg [.int .i64 0, .str [], .slice [] .nil, .slice [] .nil, .slice [] .nil, .slice [] .nil], [(0, 1, false), (1, 1, false), (2, 1, false), (3, 1, false), (4, 1, false), (5, 1, false)], 0⟩
theorem tok66 : TOk Tryz.prog 66 ti66 := tok_mk (.agg #[.int .i64 0, .string ⟨#[]⟩, .slice none 0 0, .slice none 0 0, .slice none 0 0, .slice none 0 0]) (by kernel_rfl) Tryz.underlying66 rfl rfl rfl rfl rfl (by kernel_rfl) rfl (by kernel_rfl)
/-- struct   Name string  Params   api.Param  T api.Type  Dirs   api.Dir   -/
def ti70 : TI := ⟨.struct, 6, 96, true, .agg [.str [], .slice [] .nil, .str [], .int .i64 0, .int .i64 0, .slice [] .nil], [(0, 1, false), (1, 1, false), (2, 3, true), (5, 1, false)], 0⟩
theorem tok70 : TOk Tryz.prog 70 ti70 := tok_mk (.agg #[.string ⟨#[]⟩, .slice none 0 0, .string ⟨#[]⟩, .int .i64 0, .int .i64 0, .slice none 0 0]) (by kernel_rfl) Tryz.underlying70 rfl rfl rfl rfl rfl (by kernel_rfl) rfl (by kernel_rfl)
/-- api.FieldDef -/
def ti71 : TI := ⟨.struct, 6, 96, true, .agg [.str [], .slice [] .nil, .str [], .int .i64 0, .int .i64 0, .slice [] .nil], [(0, 1, false), (1, 1, false), (2, 3, true), (5, 1, false)], 0⟩
theorem tok71 : TOk Tryz.prog 71 ti71 := tok_mk (.agg #[.string ⟨#[]⟩, .slice none 0 0, .string ⟨#[]⟩, .int .i64 0, .int .i64 0, .slice none 0 0]) (by kernel_rfl) Tryz.underlying71 rfl rfl rfl rfl rfl (by kernel_rfl) rfl (by kernel_rfl)
/-- struct   Name string  T api.Type  Has bool  Default api.Value   -/
def ti73 : TI := ⟨.struct, 10, 136, true, .agg [.str [], .str [], .int .i64 0, .int .i64 0, .bool false, .int .i64 0, .int .i64 0, .str [], .slice [] .nil, .slice [] .nil], [(0, 1, false), (1, 3, true), (4, 1, false), (5, 5, true)], 0⟩
theorem tok73 : TOk Tryz.prog 73 ti73 := tok_mk (.agg #[.string ⟨#[]⟩, .string ⟨#[]⟩, .int .i64 0, .int .i64 0, .bool false, .int .i64 0, .int .i64 0, .string ⟨#[]⟩, .slice none 0 0, .slice none 0 0]) (by kernel_rfl) Tryz.underlying73 rfl rfl rfl rfl rfl (by kernel_rfl) rfl (by kernel_rfl)
/-- api.Param -/
def ti74 : TI := ⟨.struct, 10, 136, true, .agg [.str [], .str [], .int .i64 0, .int .i64 0, .bool false, .int .i64 0, .int .i64 0, .str [], .slice [] .nil, .slice [] .nil], [(0, 1, false), (1, 3, true), (4, 1, false), (5, 5, true)], 0⟩
theorem tok74 : TOk Tryz.prog 74 ti74 := tok_mk (.agg #[.string ⟨#[]⟩, .string ⟨#[]⟩, .int .i64 0, .int .i64 0, .bool false, .int .i64 0, .int .i64 0, .string ⟨#[]⟩, .slice none 0 0, .slice none 0 0]) (by kernel_rfl) Tryz.underlying74 rfl rfl rfl rfl rfl (by kernel_rfl) rfl (by kernel_rfl)
/-- struct   How int  Table string  Col string  Arg string  Cmd string   -/
def ti79 : TI := ⟨.struct, 5, 72, true, .agg [.int .i64 0, .str [], .str [], .str [], .str []], [(0, 1, false), (1, 1, false), (2, 1, false), (3, 1, false), (4, 1, false)], 0⟩
theorem tok79 : TOk Tryz.prog 79 ti79 := tok_mk (.agg #[.int .i64 0, .string ⟨#[]⟩, .string ⟨#[]⟩, .string ⟨#[]⟩, .string ⟨#[]⟩]) (by kernel_rfl) Tryz.underlying79 rfl rfl rfl rfl rfl (by kernel_rfl) rfl (by kernel_rfl)
/-- api.Bind -/
def ti80 : TI := ⟨.struct, 5, 72, true, .agg [.int .i64 0, .str [], .str [], .str [], .str []], [(0, 1, false), (1, 1, false), (2, 1, false), (3, 1, false), (4, 1, false)], 0⟩
theorem tok80 : TOk Tryz.prog 80 ti80 := tok_mk (.agg #[.int .i64 0, .string ⟨#[]⟩, .string ⟨#[]⟩, .string ⟨#[]⟩, .string ⟨#[]⟩]) (by kernel_rfl) Tryz.underlying80 rfl rfl rfl rfl rfl (by kernel_rfl) rfl (by kernel_rfl)
/-- struct   s api.Schema  written bool  within bool  env   api.Member   -/
def ti89 : TI := ⟨.struct, 6, 88, true, .agg [.slice [] .nil, .str [], .str [], .bool false, .bool false, .slice [] .nil], [(0, 3, true), (3, 1, false), (4, 1, false), (5, 1, false)], 0⟩
theorem tok89 : TOk Tryz.prog 89 ti89 := tok_mk (.agg #[.slice none 0 0, .string ⟨#[]⟩, .string ⟨#[]⟩, .bool false, .bool false, .slice none 0 0]) (by kernel_rfl) Tryz.underlying89 rfl rfl rfl rfl rfl (by kernel_rfl) rfl (by kernel_rfl)
/-- coerce.maker -/
def ti90 : TI := ⟨.struct, 6, 88, true, .agg [.slice [] .nil, .str [], .str [], .bool false, .bool false, .slice [] .nil], [(0, 3, true), (3, 1, false), (4, 1, false), (5, 1, false)], 0⟩
theorem tok90 : TOk Tryz.prog 90 ti90 := tok_mk (.agg #[.slice none 0 0, .string ⟨#[]⟩, .string ⟨#[]⟩, .bool false, .bool false, .slice none 0 0]) (by kernel_rfl) Tryz.underlying90 rfl rfl rfl rfl rfl (by kernel_rfl) rfl (by kernel_rfl)
/-- api.VarDef -/
def ti95 : TI := ⟨.struct, 10, 136, true, .agg [.str [], .str [], .int .i64 0, .int .i64 0, .bool false, .int .i64 0, .int .i64 0, .str [], .slice [] .nil, .slice [] .nil], [(0, 1, false), (1, 3, true), (4, 1, false), (5, 5, true)], 0⟩
theorem tok95 : TOk Tryz.prog 95 ti95 := tok_mk (.agg #[.string ⟨#[]⟩, .string ⟨#[]⟩, .int .i64 0, .int .i64 0, .bool false, .int .i64 0, .int .i64 0, .string ⟨#[]⟩, .slice none 0 0, .slice none 0 0]) (by kernel_rfl) Tryz.underlying95 rfl rfl rfl rfl rfl (by kernel_rfl) rfl (by kernel_rfl)
/-- struct   Name string  On string  Dirs   api.Dir  Sels   api.Sel   -/
def ti96 : TI := ⟨.struct, 4, 80, true, .agg [.str [], .str [], .slice [] .nil, .slice [] .nil], [(0, 1, false), (1, 1, false), (2, 1, false), (3, 1, false)], 0⟩
theorem tok96 : TOk Tryz.prog 96 ti96 := tok_mk (.agg #[.string ⟨#[]⟩, .string ⟨#[]⟩, .slice none 0 0, .slice none 0 0]) (by kernel_rfl) Tryz.underlying96 rfl rfl rfl rfl rfl (by kernel_rfl) rfl (by kernel_rfl)
/-- api.Frag -/
def ti97 : TI := ⟨.struct, 4, 80, true, .agg [.str [], .str [], .slice [] .nil, .slice [] .nil], [(0, 1, false), (1, 1, false), (2, 1, false), (3, 1, false)], 0⟩
theorem tok97 : TOk Tryz.prog 97 ti97 := tok_mk (.agg #[.string ⟨#[]⟩, .string ⟨#[]⟩, .slice none 0 0, .slice none 0 0]) (by kernel_rfl) Tryz.underlying97 rfl rfl rfl rfl rfl (by kernel_rfl) rfl (by kernel_rfl)
/-- struct   Name string  V api.Value   -/
def ti99 : TI := ⟨.struct, 6, 96, true, .agg [.str [], .int .i64 0, .int .i64 0, .str [], .slice [] .nil, .slice [] .nil], [(0, 1, false), (1, 5, true)], 0⟩
theorem tok99 : TOk Tryz.prog 99 ti99 := tok_mk (.agg #[.string ⟨#[]⟩, .int .i64 0, .int .i64 0, .string ⟨#[]⟩, .slice none 0 0, .slice none 0 0]) (by kernel_rfl) Tryz.underlying99 rfl rfl rfl rfl rfl (by kernel_rfl) rfl (by kernel_rfl)
/-- api.Member -/
def ti100 : TI := ⟨.struct, 6, 96, true, .agg [.str [], .int .i64 0, .int .i64 0, .str [], .slice [] .nil, .slice [] .nil], [(0, 1, false), (1, 5, true)], 0⟩
theorem tok100 : TOk Tryz.prog 100 ti100 := tok_mk (.agg #[.string ⟨#[]⟩, .int .i64 0, .int .i64 0, .string ⟨#[]⟩, .slice none 0 0, .slice none 0 0]) (by kernel_rfl) Tryz.underlying100 rfl rfl rfl rfl rfl (by kernel_rfl) rfl (by kernel_rfl)
/-- struct   Name string  Args   api.Member   -/
def ti138 : TI := ⟨.struct, 2, 40, true, .agg [.str [], .slice [] .nil], [(0, 1, false), (1, 1, false)], 0⟩
theorem tok138 : TOk Tryz.prog 138 ti138 := tok_mk (.agg #[.string ⟨#[]⟩, .slice none 0 0]) (by kernel_rfl) Tryz.underlying138 rfl rfl rfl rfl rfl (by kernel_rfl) rfl (by kernel_rfl)
/-- api.Dir -/
def ti139 : TI := ⟨.struct, 2, 40, true, .agg [.str [], .slice [] .nil], [(0, 1, false), (1, 1, false)], 0⟩
theorem tok139 : TOk Tryz.prog 139 ti139 := tok_mk (.agg #[.string ⟨#[]⟩, .slice none 0 0]) (by kernel_rfl) Tryz.underlying139 rfl rfl rfl rfl rfl (by kernel_rfl) rfl (by kernel_rfl)
/-- struct   Kind int  Alias string  Name string  Args   api.Member  Dirs   api.Dir  -/
def ti140 : TI := ⟨.struct, 7, 128, true, .agg [.int .i64 0, .str [], .str [], .slice [] .nil, .slice [] .nil, .str [], .slice [] .nil], [(0, 1, false), (1, 1, false), (2, 1, false), (3, 1, false), (4, 1, false), (5, 1, false), (6, 1, false)], 0⟩
theorem tok140 : TOk Tryz.prog 140 ti140 := tok_mk (.agg #[.int .i64 0, .string ⟨#[]⟩, .string ⟨#[]⟩, .slice none 0 0, .slice none 0 0, .string ⟨#[]⟩, .slice none 0 0]) (by kernel_rfl) Tryz.underlying140 rfl rfl rfl rfl rfl (by kernel_rfl) rfl (by kernel_rfl)
/-- api.Sel -/
def ti141 : TI := ⟨.struct, 7, 128, true, .agg [.int .i64 0, .str [], .str [], .slice [] .nil, .slice [] .nil, .str [], .slice [] .nil], [(0, 1, false), (1, 1, false), (2, 1, false), (3, 1, false), (4, 1, false), (5, 1, false), (6, 1, false)], 0⟩
theorem tok141 : TOk Tryz.prog 141 ti141 := tok_mk (.agg #[.int .i64 0, .string ⟨#[]⟩, .string ⟨#[]⟩, .slice none 0 0, .slice none 0 0, .string ⟨#[]⟩, .slice none 0 0]) (by kernel_rfl) Tryz.underlying141 rfl rfl rfl rfl rfl (by kernel_rfl) rfl (by kernel_rfl)
/--   int -/
def ti147 : TI := ⟨.slice, 1, 24, false, .slice [] .nil, [], 3⟩
theorem tok147 : TOk Tryz.prog 147 ti147 := tok_mk (.slice none 0 0) (by kernel_rfl) Tryz.underlying147 rfl rfl rfl rfl rfl (by kernel_rfl) rfl (by kernel_rfl)
/--   uint8 -/
def ti194 : TI := ⟨.slice, 1, 24, false, .slice [] .nil, [], 5⟩
theorem tok194 : TOk Tryz.prog 194 ti194 := tok_mk (.slice none 0 0) (by kernel_rfl) Tryz.underlying194 rfl rfl rfl rfl rfl (by kernel_rfl) rfl (by kernel_rfl)
/--   api.Token -/
def ti195 : TI := ⟨.slice, 1, 24, false, .slice [] .nil, [], 229⟩
theorem tok195 : TOk Tryz.prog 195 ti195 := tok_mk (.slice none 0 0) (by kernel_rfl) Tryz.underlying195 rfl rfl rfl rfl rfl (by kernel_rfl) rfl (by kernel_rfl)
/-- struct   lo uint8  hi uint8   -/
def ti203 : TI := ⟨.struct, 2, 2, true, .agg [.int .u8 0, .int .u8 0], [(0, 1, false), (1, 1, false)], 0⟩
theorem tok203 : TOk Tryz.prog 203 ti203 := tok_mk (.agg #[.int .u8 0, .int .u8 0]) (by kernel_rfl) Tryz.underlying203 rfl rfl rfl rfl rfl (by kernel_rfl) rfl (by kernel_rfl)
/-- utf8.acceptRange -/
def ti204 : TI := ⟨.struct, 2, 2, true, .agg [.int .u8 0, .int .u8 0], [(0, 1, false), (1, 1, false)], 0⟩
theorem tok204 : TOk Tryz.prog 204 ti204 := tok_mk (.agg #[.int .u8 0, .int .u8 0]) (by kernel_rfl) Tryz.underlying204 rfl rfl rfl rfl rfl (by kernel_rfl) rfl (by kernel_rfl)
/--  16 utf8.acceptRange -/
def ti205 : TI := ⟨(.array 16), 32, 32, true, .agg [.int .u8 0, .int .u8 0, .int .u8 0, .int .u8 0, .int .u8 0, .int .u8 0, .int .u8 0, .int .u8 0, .int .u8 0, .int .u8 0, .int .u8 0, .int .u8 0, .int .u8 0, .int .u8 0, .int .u8 0, .int .u8 0, .int .u8 0, .int .u8 0, .int .u8 0, .int .u8 0, .int .u8 0, .int .u8 0, .int .u8 0, .int .u8 0, .int .u8 0, .int .u8 0, .int .u8 0, .int .u8 0, .int .u8 0, .int .u8 0, .int .u8 0, .int .u8 0], [], 204⟩
theorem tok205 : TOk Tryz.prog 205 ti205 := tok_mk (.agg #[.int .u8 0, .int .u8 0, .int .u8 0, .int .u8 0, .int .u8 0, .int .u8 0, .int .u8 0, .int .u8 0, .int .u8 0, .int .u8 0, .int .u8 0, .int .u8 0, .int .u8 0, .int .u8 0, .int .u8 0, .int .u8 0, .int .u8 0, .int .u8 0, .int .u8 0, .int .u8 0, .int .u8 0, .int .u8 0, .int .u8 0, .int .u8 0, .int .u8 0, .int .u8 0, .int .u8 0, .int .u8 0, .int .u8 0, .int .u8 0, .int .u8 0, .int .u8 0]) (by kernel_rfl) Tryz.underlying205 rfl rfl rfl rfl rfl (by kernel_rfl) rfl (by kernel_rfl)
/--  print.Writer -/
def ti208 : TI := ⟨.pointer, 1, 8, false, .nilp, [], 216⟩
theorem tok208 : TOk Tryz.prog 208 ti208 := tok_mk (.pointer none) (by kernel_rfl) Tryz.underlying208 rfl rfl rfl rfl rfl (by kernel_rfl) rfl (by kernel_rfl)
/-- struct    print.Writer   -/
def ti210 : TI := ⟨.struct, 1, 8, true, .agg [.nilp], [(0, 1, false)], 0⟩
theorem tok210 : TOk Tryz.prog 210 ti210 := tok_mk (.agg #[.pointer none]) (by kernel_rfl) Tryz.underlying210 rfl rfl rfl rfl rfl (by kernel_rfl) rfl (by kernel_rfl)
/-- sdl.writer -/
def ti211 : TI := ⟨.struct, 1, 8, true, .agg [.nilp], [(0, 1, false)], 0⟩
theorem tok211 : TOk Tryz.prog 211 ti211 := tok_mk (.agg #[.pointer none]) (by kernel_rfl) Tryz.underlying211 rfl rfl rfl rfl rfl (by kernel_rfl) rfl (by kernel_rfl)
/-- struct   L   api.Token  OK bool  deep int   -/
def ti215 : TI := ⟨.struct, 3, 40, true, .agg [.slice [] .nil, .bool false, .int .i64 0], [(0, 1, false), (1, 1, false), (2, 1, false)], 0⟩
theorem tok215 : TOk Tryz.prog 215 ti215 := tok_mk (.agg #[.slice none 0 0, .bool false, .int .i64 0]) (by kernel_rfl) Tryz.underlying215 rfl rfl rfl rfl rfl (by kernel_rfl) rfl (by kernel_rfl)
/-- print.Writer -/
def ti216 : TI := ⟨.struct, 3, 40, true, .agg [.slice [] .nil, .bool false, .int .i64 0], [(0, 1, false), (1, 1, false), (2, 1, false)], 0⟩
theorem tok216 : TOk Tryz.prog 216 ti216 := tok_mk (.agg #[.slice none 0 0, .bool false, .int .i64 0]) (by kernel_rfl) Tryz.underlying216 rfl rfl rfl rfl rfl (by kernel_rfl) rfl (by kernel_rfl)
/-- uint64 -/
def ti219 : TI := ⟨(.int .u64), 1, 8, false, .int .u64 0, [], 0⟩
theorem tok219 : TOk Tryz.prog 219 ti219 := tok_mk (.int .u64 0) (by kernel_rfl) Tryz.underlying219 rfl rfl rfl rfl rfl (by kernel_rfl) rfl (by kernel_rfl)
/--  24 uint8 -/
def ti222 : TI := ⟨(.array 24), 24, 24, true, .agg [.int .u8 0, .int .u8 0, .int .u8 0, .int .u8 0, .int .u8 0, .int .u8 0, .int .u8 0, .int .u8 0, .int .u8 0, .int .u8 0, .int .u8 0, .int .u8 0, .int .u8 0, .int .u8 0, .int .u8 0, .int .u8 0, .int .u8 0, .int .u8 0, .int .u8 0, .int .u8 0, .int .u8 0, .int .u8 0, .int .u8 0, .int .u8 0], [], 5⟩
theorem tok222 : TOk Tryz.prog 222 ti222 := tok_mk (.agg #[.int .u8 0, .int .u8 0, .int .u8 0, .int .u8 0, .int .u8 0, .int .u8 0, .int .u8 0, .int .u8 0, .int .u8 0, .int .u8 0, .int .u8 0, .int .u8 0, .int .u8 0, .int .u8 0, .int .u8 0, .int .u8 0, .int .u8 0, .int .u8 0, .int .u8 0, .int .u8 0, .int .u8 0, .int .u8 0, .int .u8 0, .int .u8 0]) (by kernel_rfl) Tryz.underlying222 rfl rfl rfl rfl rfl (by kernel_rfl) rfl (by kernel_rfl)
/-- struct   Kind int  S string   -/
def ti228 : TI := ⟨.struct, 2, 24, true, .agg [.int .i64 0, .str []], [(0, 1, false), (1, 1, false)], 0⟩
theorem tok228 : TOk Tryz.prog 228 ti228 := tok_mk (.agg #[.int .i64 0, .string ⟨#[]⟩]) (by kernel_rfl) Tryz.underlying228 rfl rfl rfl rfl rfl (by kernel_rfl) rfl (by kernel_rfl)
/-- api.Token -/
def ti229 : TI := ⟨.struct, 2, 24, true, .agg [.int .i64 0, .str []], [(0, 1, false), (1, 1, false)], 0⟩
theorem tok229 : TOk Tryz.prog 229 ti229 := tok_mk (.agg #[.int .i64 0, .string ⟨#[]⟩]) (by kernel_rfl) Tryz.underlying229 rfl rfl rfl rfl rfl (by kernel_rfl) rfl (by kernel_rfl)
/-- interface   Error   string   -/
def ti235 : TI := ⟨.iface, 1, 16, false, .nili, [], 0⟩
theorem tok235 : TOk Tryz.prog 235 ti235 := tok_mk (.nilIface) (by kernel_rfl) Tryz.underlying235 rfl rfl rfl rfl rfl (by kernel_rfl) rfl (by kernel_rfl)
/-- error -/
def ti236 : TI := ⟨.iface, 1, 16, false, .nili, [], 0⟩
theorem tok236 : TOk Tryz.prog 236 ti236 := tok_mk (.nilIface) (by kernel_rfl) Tryz.underlying236 rfl rfl rfl rfl rfl (by kernel_rfl) rfl (by kernel_rfl)
/--  20 uint64 -/
def ti241 : TI := ⟨(.array 20), 20, 160, true, .agg [.int .u64 0, .int .u64 0, .int .u64 0, .int .u64 0, .int .u64 0, .int .u64 0, .int .u64 0, .int .u64 0, .int .u64 0, .int .u64 0, .int .u64 0, .int .u64 0, .int .u64 0, .int .u64 0, .int .u64 0, .int .u64 0, .int .u64 0, .int .u64 0, .int .u64 0, .int .u64 0], [], 219⟩
theorem tok241 : TOk Tryz.prog 241 ti241 := tok_mk (.agg #[.int .u64 0, .int .u64 0, .int .u64 0, .int .u64 0, .int .u64 0, .int .u64 0, .int .u64 0, .int .u64 0, .int .u64 0, .int .u64 0, .int .u64 0, .int .u64 0, .int .u64 0, .int .u64 0, .int .u64 0, .int .u64 0, .int .u64 0, .int .u64 0, .int .u64 0, .int .u64 0]) (by kernel_rfl) Tryz.underlying241 rfl rfl rfl rfl rfl (by kernel_rfl) rfl (by kernel_rfl)
/-- uint32 -/
def ti242 : TI := ⟨(.int .u32), 1, 4, false, .int .u32 0, [], 0⟩
theorem tok242 : TOk Tryz.prog 242 ti242 := tok_mk (.int .u32 0) (by kernel_rfl) Tryz.underlying242 rfl rfl rfl rfl rfl (by kernel_rfl) rfl (by kernel_rfl)
/-- strconv.Error -/
def ti256 : TI := ⟨(.int .i64), 1, 8, false, .int .i64 0, [], 0⟩
theorem tok256 : TOk Tryz.prog 256 ti256 := tok_mk (.int .i64 0) (by kernel_rfl) Tryz.underlying256 rfl rfl rfl rfl rfl (by kernel_rfl) rfl (by kernel_rfl)
/--  strconv.NumError -/
def ti259 : TI := ⟨.pointer, 1, 8, false, .nilp, [], 270⟩
theorem tok259 : TOk Tryz.prog 259 ti259 := tok_mk (.pointer none) (by kernel_rfl) Tryz.underlying259 rfl rfl rfl rfl rfl (by kernel_rfl) rfl (by kernel_rfl)
/--  32 uint8 -/
def ti262 : TI := ⟨(.array 32), 32, 32, true, .agg [.int .u8 0, .int .u8 0, .int .u8 0, .int .u8 0, .int .u8 0, .int .u8 0, .int .u8 0, .int .u8 0, .int .u8 0, .int .u8 0, .int .u8 0, .int .u8 0, .int .u8 0, .int .u8 0, .int .u8 0, .int .u8 0, .int .u8 0, .int .u8 0, .int .u8 0, .int .u8 0, .int .u8 0, .int .u8 0, .int .u8 0, .int .u8 0, .int .u8 0, .int .u8 0, .int .u8 0, .int .u8 0, .int .u8 0, .int .u8 0, .int .u8 0, .int .u8 0], [], 5⟩
theorem tok262 : TOk Tryz.prog 262 ti262 := tok_mk (.agg #[.int .u8 0, .int .u8 0, .int .u8 0, .int .u8 0, .int .u8 0, .int .u8 0, .int .u8 0, .int .u8 0, .int .u8 0, .int .u8 0, .int .u8 0, .int .u8 0, .int .u8 0, .int .u8 0, .int .u8 0, .int .u8 0, .int .u8 0, .int .u8 0, .int .u8 0, .int .u8 0, .int .u8 0, .int .u8 0, .int .u8 0, .int .u8 0, .int .u8 0, .int .u8 0, .int .u8 0, .int .u8 0, .int .u8 0, .int .u8 0, .int .u8 0, .int .u8 0]) (by kernel_rfl) Tryz.underlying262 rfl rfl rfl rfl rfl (by kernel_rfl) rfl (by kernel_rfl)
/--  64 uint8 -/
def ti263 : TI := ⟨(.array 64), 64, 64, true, .agg [.int .u8 0, .int .u8 0, .int .u8 0, .int .u8 0, .int .u8 0, .int .u8 0, .int .u8 0, .int .u8 0, .int .u8 0, .int .u8 0, .int .u8 0, .int .u8 0, .int .u8 0, .int .u8 0, .int .u8 0, .int .u8 0, .int .u8 0, .int .u8 0, .int .u8 0, .int .u8 0, .int .u8 0, .int .u8 0, .int .u8 0, .int .u8 0, .int .u8 0, .int .u8 0, .int .u8 0, .int .u8 0, .int .u8 0, .int .u8 0, .int .u8 0, .int .u8 0, .int .u8 0, .int .u8 0, .int .u8 0, .int .u8 0, .int .u8 0, .int .u8 0, .int .u8 0, .int .u8 0, .int .u8 0, .int .u8 0, .int .u8 0, .int .u8 0, .int .u8 0, .int .u8 0, .int .u8 0, .int .u8 0, .int .u8 0, .int .u8 0, .int .u8 0, .int .u8 0, .int .u8 0, .int .u8 0, .int .u8 0, .int .u8 0, .int .u8 0, .int .u8 0, .int .u8 0, .int .u8 0, .int .u8 0, .int .u8 0, .int .u8 0, .int .u8 0], [], 5⟩
theorem tok263 : TOk Tryz.prog 263 ti263 := tok_mk (.agg #[.int .u8 0, .int .u8 0, .int .u8 0, .int .u8 0, .int .u8 0, .int .u8 0, .int .u8 0, .int .u8 0, .int .u8 0, .int .u8 0, .int .u8 0, .int .u8 0, .int .u8 0, .int .u8 0, .int .u8 0, .int .u8 0, .int .u8 0, .int .u8 0, .int .u8 0, .int .u8 0, .int .u8 0, .int .u8 0, .int .u8 0, .int .u8 0, .int .u8 0, .int .u8 0, .int .u8 0, .int .u8 0, .int .u8 0, .int .u8 0, .int .u8 0, .int .u8 0, .int .u8 0, .int .u8 0, .int .u8 0, .int .u8 0, .int .u8 0, .int .u8 0, .int .u8 0, .int .u8 0, .int .u8 0, .int .u8 0, .int .u8 0, .int .u8 0, .int .u8 0, .int .u8 0, .int .u8 0, .int .u8 0, .int .u8 0, .int .u8 0, .int .u8 0, .int .u8 0, .int .u8 0, .int .u8 0, .int .u8 0, .int .u8 0, .int .u8 0, .int .u8 0, .int .u8 0, .int .u8 0, .int .u8 0, .int .u8 0, .int .u8 0, .int .u8 0]) (by kernel_rfl) Tryz.underlying263 rfl rfl rfl rfl rfl (by kernel_rfl) rfl (by kernel_rfl)
/-- struct   Func string  Num string  Err error   -/
def ti269 : TI := ⟨.struct, 3, 48, true, .agg [.str [], .str [], .nili], [(0, 1, false), (1, 1, false), (2, 1, false)], 0⟩
theorem tok269 : TOk Tryz.prog 269 ti269 := tok_mk (.agg #[.string ⟨#[]⟩, .string ⟨#[]⟩, .nilIface]) (by kernel_rfl) Tryz.underlying269 rfl rfl rfl rfl rfl (by kernel_rfl) rfl (by kernel_rfl)
/-- strconv.NumError -/
def ti270 : TI := ⟨.struct, 3, 48, true, .agg [.str [], .str [], .nili], [(0, 1, false), (1, 1, false), (2, 1, false)], 0⟩
theorem tok270 : TOk Tryz.prog 270 ti270 := tok_mk (.agg #[.string ⟨#[]⟩, .string ⟨#[]⟩, .nilIface]) (by kernel_rfl) Tryz.underlying270 rfl rfl rfl rfl rfl (by kernel_rfl) rfl (by kernel_rfl)
/--  uint8 -/
def ti273 : TI := ⟨.pointer, 1, 8, false, .nilp, [], 5⟩
theorem tok273 : TOk Tryz.prog 273 ti273 := tok_mk (.pointer none) (by kernel_rfl) Tryz.underlying273 rfl rfl rfl rfl rfl (by kernel_rfl) rfl (by kernel_rfl)
/--  errors.errorString -/
def ti274 : TI := ⟨.pointer, 1, 8, false, .nilp, [], 276⟩
theorem tok274 : TOk Tryz.prog 274 ti274 := tok_mk (.pointer none) (by kernel_rfl) Tryz.underlying274 rfl rfl rfl rfl rfl (by kernel_rfl) rfl (by kernel_rfl)
/-- struct   s string   -/
def ti275 : TI := ⟨.struct, 1, 16, true, .agg [.str []], [(0, 1, false)], 0⟩
theorem tok275 : TOk Tryz.prog 275 ti275 := tok_mk (.agg #[.string ⟨#[]⟩]) (by kernel_rfl) Tryz.underlying275 rfl rfl rfl rfl rfl (by kernel_rfl) rfl (by kernel_rfl)
/-- errors.errorString -/
def ti276 : TI := ⟨.struct, 1, 16, true, .agg [.str []], [(0, 1, false)], 0⟩
theorem tok276 : TOk Tryz.prog 276 ti276 := tok_mk (.agg #[.string ⟨#[]⟩]) (by kernel_rfl) Tryz.underlying276 rfl rfl rfl rfl rfl (by kernel_rfl) rfl (by kernel_rfl)
def table : List (Nat × TI) := [(2, ⟨(.int .i64), 1, 8, false, .int .i64 0, [], 0⟩), (3, ⟨(.int .i64), 1, 8, false, .int .i64 0, [], 0⟩), (4, ⟨.bool, 1, 1, false, .bool false, [], 0⟩), (5, ⟨(.int .u8), 1, 1, false, .int .u8 0, [], 0⟩), (9, ⟨.string, 1, 16, false, .str [], [], 0⟩), (12, ⟨(.int .u64), 1, 8, false, .int .u64 0, [], 0⟩), (13, ⟨.struct, 2, 24, true, .agg [.str [], .int .u64 0], [(0, 1, false), (1, 1, false)], 0⟩), (20, ⟨.iface, 1, 16, false, .nili, [], 0⟩), (21, ⟨(.int .i32), 1, 4, false, .int .i32 0, [], 0⟩), (22, ⟨.slice, 1, 24, false, .slice [] .nil, [], 66⟩), (23, ⟨.struct, 3, 56, true, .agg [.slice [] .nil, .str [], .str []], [(0, 1, false), (1, 1, false), (2, 1, false)], 0⟩), (24, ⟨.struct, 3, 56, true, .agg [.slice [] .nil, .str [], .str []], [(0, 1, false), (1, 1, false), (2, 1, false)], 0⟩), (25, ⟨.struct, 3, 32, true, .agg [.str [], .int .i64 0, .int .i64 0], [(0, 1, false), (1, 1, false), (2, 1, false)], 0⟩), (26, ⟨.struct, 3, 32, true, .agg [.str [], .int .i64 0, .int .i64 0], [(0, 1, false), (1, 1, false), (2, 1, false)], 0⟩), (27, ⟨.slice, 1, 24, false, .slice [] .nil, [], 30⟩), (28, ⟨.slice, 1, 24, false, .slice [] .nil, [], 100⟩), (29, ⟨.struct, 5, 80, true, .agg [.int .i64 0, .int .i64 0, .str [], .slice [] .nil, .slice [] .nil], [(0, 1, false), (1, 1, false), (2, 1, false), (3, 1, false), (4, 1, false)], 0⟩), (30, ⟨.struct, 5, 80, true, .agg [.int .i64 0, .int .i64 0, .str [], .slice [] .nil, .slice [] .nil], [(0, 1, false), (1, 1, false), (2, 1, false), (3, 1, false), (4, 1, false)], 0⟩), (34, ⟨(.int .i64), 1, 8, false, .int .i64 0, [], 0⟩), (39, ⟨.slice, 1, 24, false, .slice [] .nil, [], 95⟩), (41, ⟨.slice, 1, 24, false, .slice [] .nil, [], 139⟩), (42, ⟨.slice, 1, 24, false, .slice [] .nil, [], 141⟩), (43, ⟨.struct, 5, 96, true, .agg [.int .i64 0, .str [], .slice [] .nil, .slice [] .nil, .slice [] .nil], [(0, 1, false), (1, 1, false), (2, 1, false), (3, 1, false), (4, 1, false)], 0⟩), (44, ⟨.struct, 5, 96, true, .agg [.int .i64 0, .str [], .slice [] .nil, .slice [] .nil, .slice [] .nil], [(0, 1, false), (1, 1, false), (2, 1, false), (3, 1, false), (4, 1, false)], 0⟩), (45, ⟨.slice, 1, 24, false, .slice [] .nil, [], 44⟩), (46, ⟨.slice, 1, 24, false, .slice [] .nil, [], 97⟩), (47, ⟨.struct, 2, 48, true, .agg [.slice [] .nil, .slice [] .nil], [(0, 1, false), (1, 1, false)], 0⟩), (48, ⟨.struct, 2, 48, true, .agg [.slice [] .nil, .slice [] .nil], [(0, 1, false), (1, 1, false)], 0⟩), (59, ⟨(.int .u64), 1, 8, false, .int .u64 0, [], 0⟩), (61, ⟨.slice, 1, 24, false, .slice [] .nil, [], 9⟩), (63, ⟨.slice, 1, 24, false, .slice [] .nil, [], 71⟩), (64, ⟨.slice, 1, 24, false, .slice [] .nil, [], 74⟩), (65, ⟨.struct, 6, 120, true, .agg [.int .i64 0, .str [], .slice [] .nil, .slice [] .nil, .slice [] .nil, .slice [] .nil], [(0, 1, false), (1, 1, false), (2, 1, false), (3, 1, false), (4, 1, false), (5, 1, false)], 0⟩), (66, ⟨.struct, 6, 120, true, .agg [.int .i64 0, .str [], .slice [] .nil, .slice [] .nil, .slice [] .nil, .slice [] .nil], [(0, 1, false), (1, 1, false), (2, 1, false), (3, 1, false), (4, 1, false), (5, 1, false)], 0⟩), (70, ⟨.struct, 6, 96, true, .agg [.str [], .slice [] .nil, .str [], .int .i64 0, .int .i64 0, .slice [] .nil], [(0, 1, false), (1, 1, false), (2, 3, true), (5, 1, false)], 0⟩), (71, ⟨.struct, 6, 96, true, .agg [.str [], .slice [] .nil, .str [], .int .i64 0, .int .i64 0, .slice [] .nil], [(0, 1, false), (1, 1, false), (2, 3, true), (5, 1, false)], 0⟩), (73, ⟨.struct, 10, 136, true, .agg [.str [], .str [], .int .i64 0, .int .i64 0, .bool false, .int .i64 0, .int .i64 0, .str [], .slice [] .nil, .slice [] .nil], [(0, 1, false), (1, 3, true), (4, 1, false), (5, 5, true)], 0⟩), (74, ⟨.struct, 10, 136, true, .agg [.str [], .str [], .int .i64 0, .int .i64 0, .bool false, .int .i64 0, .int .i64 0, .str [], .slice [] .nil, .slice [] .nil], [(0, 1, false), (1, 3, true), (4, 1, false), (5, 5, true)], 0⟩), (79, ⟨.struct, 5, 72, true, .agg [.int .i64 0, .str [], .str [], .str [], .str []], [(0, 1, false), (1, 1, false), (2, 1, false), (3, 1, false), (4, 1, false)], 0⟩), (80, ⟨.struct, 5, 72, true, .agg [.int .i64 0, .str [], .str [], .str [], .str []], [(0, 1, false), (1, 1, false), (2, 1, false), (3, 1, false), (4, 1, false)], 0⟩), (89, ⟨.struct, 6, 88, true, .agg [.slice [] .nil, .str [], .str [], .bool false, .bool false, .slice [] .nil], [(0, 3, true), (3, 1, false), (4, 1, false), (5, 1, false)], 0⟩), (90, ⟨.struct, 6, 88, true, .agg [.slice [] .nil, .str [], .str [], .bool false, .bool false, .slice [] .nil], [(0, 3, true), (3, 1, false), (4, 1, false), (5, 1, false)], 0⟩), (95, ⟨.struct, 10, 136, true, .agg [.str [], .str [], .int .i64 0, .int .i64 0, .bool false, .int .i64 0, .int .i64 0, .str [], .slice [] .nil, .slice [] .nil], [(0, 1, false), (1, 3, true), (4, 1, false), (5, 5, true)], 0⟩), (96, ⟨.struct, 4, 80, true, .agg [.str [], .str [], .slice [] .nil, .slice [] .nil], [(0, 1, false), (1, 1, false), (2, 1, false), (3, 1, false)], 0⟩), (97, ⟨.struct, 4, 80, true, .agg [.str [], .str [], .slice [] .nil, .slice [] .nil], [(0, 1, false), (1, 1, false), (2, 1, false), (3, 1, false)], 0⟩), (99, ⟨.struct, 6, 96, true, .agg [.str [], .int .i64 0, .int .i64 0, .str [], .slice [] .nil, .slice [] .nil], [(0, 1, false), (1, 5, true)], 0⟩), (100, ⟨.struct, 6, 96, true, .agg [.str [], .int .i64 0, .int .i64 0, .str [], .slice [] .nil, .slice [] .nil], [(0, 1, false), (1, 5, true)], 0⟩), (138, ⟨.struct, 2, 40, true, .agg [.str [], .slice [] .nil], [(0, 1, false), (1, 1, false)], 0⟩), (139, ⟨.struct, 2, 40, true, .agg [.str [], .slice [] .nil], [(0, 1, false), (1, 1, false)], 0⟩), (140, ⟨.struct, 7, 128, true, .agg [.int .i64 0, .str [], .str [], .slice [] .nil, .slice [] .nil, .str [], .slice [] .nil], [(0, 1, false), (1, 1, false), (2, 1, false), (3, 1, false), (4, 1, false), (5, 1, false), (6, 1, false)], 0⟩), (141, ⟨.struct, 7, 128, true, .agg [.int .i64 0, .str [], .str [], .slice [] .nil, .slice [] .nil, .str [], .slice [] .nil], [(0, 1, false), (1, 1, false), (2, 1, false), (3, 1, false), (4, 1, false), (5, 1, false), (6, 1, false)], 0⟩), (147, ⟨.slice, 1, 24, false, .slice [] .nil, [], 3⟩), (194, ⟨.slice, 1, 24, false, .slice [] .nil, [], 5⟩), (195, ⟨.slice, 1, 24, false, .slice [] .nil, [], 229⟩), (203, ⟨.struct, 2, 2, true, .agg [.int .u8 0, .int .u8 0], [(0, 1, false), (1, 1, false)], 0⟩), (204, ⟨.struct, 2, 2, true, .agg [.int .u8 0, .int .u8 0], [(0, 1, false), (1, 1, false)], 0⟩), (205, ⟨(.array 16), 32, 32, true, .agg [.int .u8 0, .int .u8 0, .int .u8 0, .int .u8 0, .int .u8 0, .int .u8 0, .int .u8 0, .int .u8 0, .int .u8 0, .int .u8 0, .int .u8 0, .int .u8 0, .int .u8 0, .int .u8 0, .int .u8 0, .int .u8 0, .int .u8 0, .int .u8 0, .int .u8 0, .int .u8 0, .int .u8 0, .int .u8 0, .int .u8 0, .int .u8 0, .int .u8 0, .int .u8 0, .int .u8 0, .int .u8 0, .int .u8 0, .int .u8 0, .int .u8 0, .int .u8 0], [], 204⟩), (208, ⟨.pointer, 1, 8, false, .nilp, [], 216⟩), (210, ⟨.struct, 1, 8, true, .agg [.nilp], [(0, 1, false)], 0⟩), (211, ⟨.struct, 1, 8, true, .agg [.nilp], [(0, 1, false)], 0⟩), (215, ⟨.struct, 3, 40, true, .agg [.slice [] .nil, .bool false, .int .i64 0], [(0, 1, false), (1, 1, false), (2, 1, false)], 0⟩), (216, ⟨.struct, 3, 40, true, .agg [.slice [] .nil, .bool false, .int .i64 0], [(0, 1, false), (1, 1, false), (2, 1, false)], 0⟩), (219, ⟨(.int .u64), 1, 8, false, .int .u64 0, [], 0⟩), (222, ⟨(.array 24), 24, 24, true, .agg [.int .u8 0, .int .u8 0, .int .u8 0, .int .u8 0, .int .u8 0, .int .u8 0, .int .u8 0, .int .u8 0, .int .u8 0, .int .u8 0, .int .u8 0, .int .u8 0, .int .u8 0, .int .u8 0, .int .u8 0, .int .u8 0, .int .u8 0, .int .u8 0, .int .u8 0, .int .u8 0, .int .u8 0, .int .u8 0, .int .u8 0, .int .u8 0], [], 5⟩), (228, ⟨.struct, 2, 24, true, .agg [.int .i64 0, .str []], [(0, 1, false), (1, 1, false)], 0⟩), (229, ⟨.struct, 2, 24, true, .agg [.int .i64 0, .str []], [(0, 1, false), (1, 1, false)], 0⟩), (235, ⟨.iface, 1, 16, false, .nili, [], 0⟩), (236, ⟨.iface, 1, 16, false, .nili, [], 0⟩), (241, ⟨(.array 20), 20, 160, true, .agg [.int .u64 0, .int .u64 0, .int .u64 0, .int .u64 0, .int .u64 0, .int .u64 0, .int .u64 0, .int .u64 0, .int .u64 0, .int .u64 0, .int .u64 0, .int .u64 0, .int .u64 0, .int .u64 0, .int .u64 0, .int .u64 0, .int .u64 0, .int .u64 0, .int .u64 0, .int .u64 0], [], 219⟩), (242, ⟨(.int .u32), 1, 4, false, .int .u32 0, [], 0⟩), (256, ⟨(.int .i64), 1, 8, false, .int .i64 0, [], 0⟩), (259, ⟨.pointer, 1, 8, false, .nilp, [], 270⟩), (262, ⟨(.array 32), 32, 32, true, .agg [.int .u8 0, .int .u8 0, .int .u8 0, .int .u8 0, .int .u8 0, .int .u8 0, .int .u8 0, .int .u8 0, .int .u8 0, .int .u8 0, .int .u8 0, .int .u8 0, .int .u8 0, .int .u8 0, .int .u8 0, .int .u8 0, .int .u8 0, .int .u8 0, .int .u8 0, .int .u8 0, .int .u8 0, .int .u8 0, .int .u8 0, .int .u8 0, .int .u8 0, .int .u8 0, .int .u8 0, .int .u8 0, .int .u8 0, .int .u8 0, .int .u8 0, .int .u8 0], [], 5⟩), (263, ⟨(.array 64), 64, 64, true, .agg [.int .u8 0, .int .u8 0, .int .u8 0, .int .u8 0, .int .u8 0, .int .u8 0, .int .u8 0, .int .u8 0, .int .u8 0, .int .u8 0, .int .u8 0, .int .u8 0, .int .u8 0, .int .u8 0, .int .u8 0, .int .u8 0, .int .u8 0, .int .u8 0, .int .u8 0, .int .u8 0, .int .u8 0, .int .u8 0, .int .u8 0, .int .u8 0, .int .u8 0, .int .u8 0, .int .u8 0, .int .u8 0, .int .u8 0, .int .u8 0, .int .u8 0, .int .u8 0, .int .u8 0, .int .u8 0, .int .u8 0, .int .u8 0, .int .u8 0, .int .u8 0, .int .u8 0, .int .u8 0, .int .u8 0, .int .u8 0, .int .u8 0, .int .u8 0, .int .u8 0, .int .u8 0, .int .u8 0, .int .u8 0, .int .u8 0, .int .u8 0, .int .u8 0, .int .u8 0, .int .u8 0, .int .u8 0, .int .u8 0, .int .u8 0, .int .u8 0, .int .u8 0, .int .u8 0, .int .u8 0, .int .u8 0, .int .u8 0, .int .u8 0, .int .u8 0], [], 5⟩), (269, ⟨.struct, 3, 48, true, .agg [.str [], .str [], .nili], [(0, 1, false), (1, 1, false), (2, 1, false)], 0⟩), (270, ⟨.struct, 3, 48, true, .agg [.str [], .str [], .nili], [(0, 1, false), (1, 1, false), (2, 1, false)], 0⟩), (273, ⟨.pointer, 1, 8, false, .nilp, [], 5⟩), (274, ⟨.pointer, 1, 8, false, .nilp, [], 276⟩), (275, ⟨.struct, 1, 16, true, .agg [.str []], [(0, 1, false)], 0⟩), (276, ⟨.struct, 1, 16, true, .agg [.str []], [(0, 1, false)], 0⟩)]
theorem table_ok : LayOk Tryz.prog table := ⟨tok2, tok3, tok4, tok5, tok9, tok12, tok13, tok20, tok21, tok22, tok23, tok24, tok25, tok26, tok27, tok28, tok29, tok30, tok34, tok39, tok41, tok42, tok43, tok44, tok45, tok46, tok47, tok48, tok59, tok61, tok63, tok64, tok65, tok66, tok70, tok71, tok73, tok74, tok79, tok80, tok89, tok90, tok95, tok96, tok97, tok99, tok100, tok138, tok139, tok140, tok141, tok147, tok194, tok195, tok203, tok204, tok205, tok208, tok210, tok211, tok215, tok216, tok219, tok222, tok228, tok229, tok235, tok236, tok241, tok242, tok256, tok259, tok262, tok263, tok269, tok270, tok273, tok274, tok275, tok276, trivial⟩
instance : Lay Tryz.prog := ⟨table, table_ok, Tryz.checked.mixed⟩
end Go.Proofs.YtpidjkihngiaoaaGreatDoor
