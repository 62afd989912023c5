/-
  The table of this seat's types, written by a program of the prover's (genlay.py): closed facts.
-/
import Derived.Test.YtdodieljpcfpcaaGreatDoorRows
import Derived.Test.YtdodieljpcfpcaaGreatDoorAvLaw
import Derived.Test.YtdodieljpcfpcaaGreatDoorAvTab
namespace Go.Proofs.YtdodieljpcfpcaaGreatDoor
open Go Go.Av Go.Proofs.Tryz
set_option maxRecDepth 100000

instance:AK:=⟨[(0, .agg (Lib.firstTab.map (AV.int .u8))),(1, .agg (vY.map (AV.int .u8))),(2, .agg (Lib.pow10Tab.map (AV.int .u64))),(5, .iface 406 .undef),(6, .iface 406 .undef)],[(2,20)]⟩
/-- A constant's value, from how the library says it. -/
def zv:Nat->AV->Value
  |_, .bool b => .bool b
  |_, .int k n => .int k n
  |_, .str _ => .string ⟨#[]⟩
  |_, .nilp => .pointer none
  |_, .slice _ _ => .slice none 0 0
  |_, .nilmap => .map none
  |_, .nilfn => .nilFunc
  |n+1, .agg l => .agg (l.map (zv n)).toArray
  |_,_ => .nilIface
theorem tq{t:TypeId}{ti:TI}{d:TypeDesc}(h2:prog.underlying t=some d)(h1:(prog.info? t).map (λi=>(i.size,i.bytes,i.zero))=some (ti.size,ti.bytes,some (zv 9 ti.zero)):=by kernel_rfl)(h3:tD d=ti.kind:=by exact rfl)(h4:I7 d=ti.elem:=by exact rfl)(h5:Dw d=ti.agg:=by exact rfl)(h6:qL (zv 9 ti.zero)=ti.zero:=by kernel_rfl)(h7:(zv 9 ti.zero).cells.size=ti.size:=by kernel_rfl)(h8:oB prog d=ti.fields:=by kernel_rfl)(h9:((zv 9 ti.zero).cells.toList.all λv=>v.oneCell')=true:=by kernel_rfl)(h10:HM prog d=true:=by kernel_rfl):CE prog t ti:=Fz _ h1 h2 h3 h4 h5 h6 h7 h8 h9 h10
def table:List (Nat×TI):=[(2,⟨(.int .i64),1,8,false, .int .i64 0,[],0⟩),
  (3,⟨(.int .i64),1,8,false, .int .i64 0,[],0⟩),
  (4,⟨.bool,1,1,false, .bool false,[],0⟩),
  (5,⟨(.int .u8),1,1,false, .int .u8 0,[],0⟩),
  (9,⟨.string,1,16,false, .str [],[],0⟩),
  (12,⟨(.int .u64),1,8,false, .int .u64 0,[],0⟩),
  (13,⟨.struct,2,24,true, .agg [.str [], .int .u64 0],[(0,1,false),(1,1,false)],0⟩),
  (20,⟨.iface,1,16,false, .nili,[],0⟩),
  (22,⟨.slice,1,24,false, .slice [] .nil,[],53⟩),
  (24,⟨.struct,3,56,true, .agg [.slice [] .nil, .str [], .str []],[(0,1,false),(1,1,false),(2,1,false)],0⟩),
  (25,⟨.slice,1,24,false, .slice [] .nil,[],37⟩),
  (26,⟨.slice,1,24,false, .slice [] .nil,[],129⟩),
  (28,⟨.struct,2,48,true, .agg [.slice [] .nil, .slice [] .nil],[(0,1,false),(1,1,false)],0⟩),
  (29,⟨.slice,1,24,false, .slice [] .nil,[],82⟩),
  (30,⟨.slice,1,24,false, .slice [] .nil,[],132⟩),
  (32,⟨.struct,8,160,true, .agg [.slice [] .nil, .str [], .str [], .slice [] .nil, .slice [] .nil, .int .i64 0, .slice [] .nil, .slice [] .nil],[(0,3,true),(3,2,true),(5,1,false),(6,1,false),(7,1,false)],0⟩),
  (33,⟨.slice,1,24,false, .slice [] .nil,[],137⟩),
  (34,⟨.slice,1,24,false, .slice [] .nil,[],147⟩),
  (35,⟨.slice,1,24,false, .slice [] .nil,[],150⟩),
  (37,⟨.struct,5,96,true, .agg [.int .i64 0, .str [], .slice [] .nil, .slice [] .nil, .slice [] .nil],[(0,1,false),(1,1,false),(2,1,false),(3,1,false),(4,1,false)],0⟩),
  (41,⟨.slice,1,24,false, .slice [] .nil,[],43⟩),
  (43,⟨.struct,5,80,true, .agg [.int .i64 0, .int .i64 0, .str [], .slice [] .nil, .slice [] .nil],[(0,1,false),(1,1,false),(2,1,false),(3,1,false),(4,1,false)],0⟩),
  (44,⟨.slice,1,24,false, .slice [] .nil,[],184⟩),
  (45,⟨.slice,1,24,false, .slice [] .nil,[],62⟩),
  (47,⟨.struct,8,152,true, .agg [.int .i64 0, .int .i64 0, .str [], .slice [] .nil, .slice [] .nil, .slice [] .nil, .slice [] .nil, .slice [] .nil],[(0,5,true),(5,1,false),(6,1,false),(7,1,false)],0⟩),
  (49,⟨.slice,1,24,false, .slice [] .nil,[],9⟩),
  (50,⟨.slice,1,24,false, .slice [] .nil,[],61⟩),
  (51,⟨.slice,1,24,false, .slice [] .nil,[],148⟩),
  (53,⟨.struct,6,120,true, .agg [.int .i64 0, .str [], .slice [] .nil, .slice [] .nil, .slice [] .nil, .slice [] .nil],[(0,1,false),(1,1,false),(2,1,false),(3,1,false),(4,1,false),(5,1,false)],0⟩),
  (55,⟨.struct,5,72,true, .agg [.int .i64 0, .str [], .str [], .str [], .str []],[(0,1,false),(1,1,false),(2,1,false),(3,1,false),(4,1,false)],0⟩),
  (59,⟨.struct,3,32,true, .agg [.str [], .int .i64 0, .int .i64 0],[(0,1,false),(1,1,false),(2,1,false)],0⟩),
  (61,⟨.struct,6,96,true, .agg [.str [], .slice [] .nil, .str [], .int .i64 0, .int .i64 0, .slice [] .nil],[(0,1,false),(1,1,false),(2,3,true),(5,1,false)],0⟩),
  (62,⟨.slice,1,24,false, .slice [] .nil,[],65⟩),
  (65,⟨.struct,2,32,true, .agg [.str [], .str []],[(0,1,false),(1,1,false)],0⟩),
  (67,⟨.slice,1,24,false, .slice [] .nil,[],109⟩),
  (73,⟨(.int .u64),1,8,false, .int .u64 0,[],0⟩),
  (74,⟨(.int .i64),1,8,false, .int .i64 0,[],0⟩),
  (82,⟨.struct,6,96,true, .agg [.str [], .int .i64 0, .int .i64 0, .str [], .slice [] .nil, .slice [] .nil],[(0,1,false),(1,5,true)],0⟩),
  (84,⟨.pointer,1,8,false, .nilp,[],87⟩),
  (87,⟨.struct,2,48,true, .agg [.slice [] .nil, .slice [] .nil],[(0,1,false),(1,1,false)],0⟩),
  (88,⟨.pointer,1,8,false, .nilp,[],92⟩),
  (89,⟨.func,1,8,false, .nilfn,[],0⟩),
  (90,⟨.func,1,8,false, .nilfn,[],0⟩),
  (92,⟨.struct,9,168,true, .agg [.slice [] .nil, .str [], .str [], .slice [] .nil, .slice [] .nil, .slice [] .nil, .nilfn, .nilfn, .slice [] .nil],[(0,3,true),(3,2,true),(5,1,false),(6,1,false),(7,1,false),(8,1,false)],0⟩),
  (93,⟨.pointer,1,8,false, .nilp,[],160⟩),
  (94,⟨.slice,1,24,false, .slice [] .nil,[],167⟩),
  (96,⟨.struct,8,120,true, .agg [.str [], .str [], .nilp, .str [], .int .i64 0, .int .i64 0, .slice [] .nil, .slice [] .nil],[(0,2,true),(2,1,false),(3,3,true),(6,1,false),(7,1,false)],0⟩),
  (99,⟨.struct,4,64,true, .agg [.str [], .str [], .slice [] .nil, .bool false],[(0,1,false),(1,1,false),(2,1,false),(3,1,false)],0⟩),
  (101,⟨.struct,6,80,true, .agg [.str [], .str [], .slice [] .nil, .bool false, .bool false, .int .i64 0],[(0,4,true),(4,1,false),(5,1,false)],0⟩),
  (106,⟨.struct,8,136,true, .agg [.nilp, .str [], .str [], .str [], .slice [] .nil, .bool false, .slice [] .nil, .slice [] .nil],[(0,1,false),(1,1,false),(2,4,true),(6,1,false),(7,1,false)],0⟩),
  (109,⟨.struct,2,40,true, .agg [.str [], .slice [] .nil],[(0,1,false),(1,1,false)],0⟩),
  (114,⟨.slice,1,24,false, .slice [] .nil,[],116⟩),
  (116,⟨.struct,9,144,true, .agg [.int .i64 0, .bool false, .int .i64 0, .int .i64 0, .str [], .slice [] .nil, .slice [] .nil, .slice [] .nil, .slice [] .nil],[(0,1,false),(1,1,false),(2,5,true),(7,1,false),(8,1,false)],0⟩),
  (121,⟨.pointer,1,8,false, .nilp,[],124⟩),
  (122,⟨.map,1,8,false, .nilmap,[],4⟩),
  (124,⟨.struct,9,176,true, .agg [.slice [] .nil, .str [], .str [], .slice [] .nil, .slice [] .nil, .slice [] .nil, .str [], .slice [] .nil, .nilmap],[(0,3,true),(3,2,true),(5,1,false),(6,1,false),(7,1,false),(8,1,false)],0⟩),
  (129,⟨.struct,4,80,true, .agg [.str [], .str [], .slice [] .nil, .slice [] .nil],[(0,1,false),(1,1,false),(2,1,false),(3,1,false)],0⟩),
  (130,⟨.slice,1,24,false, .slice [] .nil,[],99⟩),
  (132,⟨.struct,2,40,true, .agg [.str [], .slice [] .nil],[(0,1,false),(1,1,false)],0⟩),
  (137,⟨.struct,10,136,true, .agg [.str [], .str [], .int .i64 0, .int .i64 0, .bool false, .int .i64 0, .int .i64 0, .str [], .slice [] .nil, .slice [] .nil],[(0,1,false),(1,3,true),(4,1,false),(5,5,true)],0⟩),
  (140,⟨.pointer,1,8,false, .nilp,[],144⟩),
  (142,⟨.struct,9,200,true, .agg [.slice [] .nil, .str [], .str [], .slice [] .nil, .slice [] .nil, .slice [] .nil, .slice [] .nil, .slice [] .nil, .slice [] .nil],[(0,3,true),(3,2,true),(5,1,false),(6,1,false),(7,1,false),(8,1,false)],0⟩),
  (144,⟨.struct,11,216,true, .agg [.slice [] .nil, .str [], .str [], .slice [] .nil, .slice [] .nil, .slice [] .nil, .slice [] .nil, .slice [] .nil, .slice [] .nil, .int .i64 0, .int .i64 0],[(0,9,true),(9,1,false),(10,1,false)],0⟩),
  (147,⟨.struct,2,40,true, .agg [.str [], .slice [] .nil],[(0,1,false),(1,1,false)],0⟩),
  (148,⟨.struct,10,136,true, .agg [.str [], .str [], .int .i64 0, .int .i64 0, .bool false, .int .i64 0, .int .i64 0, .str [], .slice [] .nil, .slice [] .nil],[(0,1,false),(1,3,true),(4,1,false),(5,5,true)],0⟩),
  (150,⟨.struct,7,128,true, .agg [.int .i64 0, .str [], .str [], .slice [] .nil, .slice [] .nil, .str [], .slice [] .nil],[(0,1,false),(1,1,false),(2,1,false),(3,1,false),(4,1,false),(5,1,false),(6,1,false)],0⟩),
  (158,⟨.slice,1,24,false, .slice [] .nil,[],93⟩),
  (160,⟨.struct,10,168,true, .agg [.int .i64 0, .bool false, .int .i64 0, .int .i64 0, .str [], .slice [] .nil, .slice [] .nil, .slice [] .nil, .slice [] .nil, .slice [] .nil],[(0,9,true),(9,1,false)],0⟩),
  (163,⟨.func,1,8,false, .nilfn,[],0⟩),
  (167,⟨.struct,2,24,true, .agg [.str [], .int .i64 0],[(0,1,false),(1,1,false)],0⟩),
  (176,⟨.struct,5,88,true, .agg [.str [], .str [], .str [], .str [], .slice [] .nil],[(0,1,false),(1,1,false),(2,1,false),(3,1,false),(4,1,false)],0⟩),
  (184,⟨.struct,2,32,true, .agg [.slice [] .nil, .int .i64 0],[(0,1,false),(1,1,false)],0⟩),
  (250,⟨.slice,1,24,false, .slice [] .nil,[],254⟩),
  (254,⟨.struct,8,144,true, .agg [.str [], .int .i64 0, .str [], .str [], .slice [] .nil, .slice [] .nil, .str [], .slice [] .nil],[(0,1,false),(1,7,true)],0⟩),
  (257,⟨.pointer,1,8,false, .nilp,[],259⟩),
  (259,⟨.struct,9,192,true, .agg [.slice [] .nil, .str [], .str [], .slice [] .nil, .slice [] .nil, .slice [] .nil, .str [], .slice [] .nil, .slice [] .nil],[(0,3,true),(3,2,true),(5,1,false),(6,1,false),(7,1,false),(8,1,false)],0⟩),
  (265,⟨.slice,1,24,false, .slice [] .nil,[],3⟩),
  (272,⟨.struct,6,88,true, .agg [.slice [] .nil, .str [], .str [], .bool false, .bool false, .slice [] .nil],[(0,3,true),(3,1,false),(4,1,false),(5,1,false)],0⟩),
  (276,⟨.struct,0,0,true, .agg [],[],0⟩),
  (295,⟨.slice,1,24,false, .slice [] .nil,[],34⟩),
  (306,⟨.slice,1,24,false, .slice [] .nil,[],311⟩),
  (311,⟨.struct,5,56,true, .agg [.str [], .str [], .int .i64 0, .int .i64 0, .bool false],[(0,1,false),(1,3,true),(4,1,false)],0⟩),
  (356,⟨.slice,1,24,false, .slice [] .nil,[],5⟩),
  (372,⟨.struct,2,2,true, .agg [.int .u8 0, .int .u8 0],[(0,1,false),(1,1,false)],0⟩),
  (373,⟨(.array 16),32,32,true, .agg (List.replicate 32 (.int .u8 0)),[],372⟩),
  (387,⟨.iface,1,16,false, .nili,[],0⟩)]
theorem Hq:Bn prog table:=⟨tq underlying2,tq underlying3,tq underlying4,tq underlying5,tq underlying9,tq underlying12,tq underlying13,tq underlying20,tq underlying22,tq underlying24,tq underlying25,tq underlying26,tq underlying28,tq underlying29,tq underlying30,tq underlying32,tq underlying33,tq underlying34,tq underlying35,tq underlying37,tq underlying41,tq underlying43,tq underlying44,tq underlying45,tq underlying47,tq underlying49,tq underlying50,tq underlying51,tq underlying53,tq underlying55,tq underlying59,tq underlying61,tq underlying62,tq underlying65,tq underlying67,tq underlying73,tq underlying74,tq underlying82,tq underlying84,tq underlying87,tq underlying88,tq underlying89,tq underlying90,tq underlying92,tq underlying93,tq underlying94,tq underlying96,tq underlying99,tq underlying101,tq underlying106,tq underlying109,tq underlying114,tq underlying116,tq underlying121,tq underlying122,tq underlying124,tq underlying129,tq underlying130,tq underlying132,tq underlying137,tq underlying140,tq underlying142,tq underlying144,tq underlying147,tq underlying148,tq underlying150,tq underlying158,tq underlying160,tq underlying163,tq underlying167,tq underlying176,tq underlying184,tq underlying250,tq underlying254,tq underlying257,tq underlying259,tq underlying265,tq underlying272,tq underlying276,tq underlying295,tq underlying306,tq underlying311,tq underlying356,tq underlying372,tq underlying373,tq underlying387,trivial⟩
instance:Lay prog:=⟨table,Hq,checked.mixed⟩
end Go.Proofs.YtdodieljpcfpcaaGreatDoor
