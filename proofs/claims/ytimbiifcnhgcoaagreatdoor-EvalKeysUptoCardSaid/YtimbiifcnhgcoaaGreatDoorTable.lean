/-
  The table of this seat's types, written by a program of the prover's (genlay.py): closed facts.
-/
import Derived.Test.YtimbiifcnhgcoaaGreatDoorRows
import Derived.Test.YtimbiifcnhgcoaaGreatDoorAvLaw
import Derived.Test.YtimbiifcnhgcoaaGreatDoorAvTab
namespace Go.Proofs.YtimbiifcnhgcoaaGreatDoor
open Go Go.Av Go.Proofs.Tryz
set_option maxRecDepth 100000

instance:AL:=⟨[(0, .agg (Lib.firstTab.map (AV.int .u8))),(1, .agg (y6.map (AV.int .u8))),(2, .agg (Lib.pow10Tab.map (AV.int .u64))),(5, .iface 408 .undef),(6, .iface 408 .undef)],[(2,20)]⟩
def zv:Nat->AV->Value
  |_, .bool b => .bool b
  |_, .int k n => .int k n
  |_, .str _ => .string ⟨#[]⟩
  |_, .nilp => .pointer none
  |_, .slice _ _ => .slice none 0 0
  |_, .nilmap => .map none
  |_, .nilfn => .nilFunc
  |n+1, .agg l => .agg (l.map (zv n)).toArray
  |_,_ => .nilIface
theorem tq{t:TypeId}{ti:TI}{d:TypeDesc}(h2:prog.underlying t=some d)(h1:(prog.info? t).map (λi=>(i.size,i.bytes,i.zero))=some (ti.size,ti.bytes,some (zv 9 ti.zero)):=by kernel_rfl)(h3:tD d=ti.kind:=by exact rfl)(h4:Jg d=ti.elem:=by exact rfl)(h5:Dy d=ti.agg:=by exact rfl)(h6:qL (zv 9 ti.zero)=ti.zero:=by kernel_rfl)(h7:(zv 9 ti.zero).cells.size=ti.size:=by kernel_rfl)(h8:oD prog d=ti.fields:=by kernel_rfl)(h9:((zv 9 ti.zero).cells.toList.all λv=>v.oneCell')=true:=by kernel_rfl)(h10:HT prog d=true:=by kernel_rfl):CD prog t ti:=FD _ h1 h2 h3 h4 h5 h6 h7 h8 h9 h10
def table:List (Nat×TI):=[(2,⟨(.int .i64),1,8,false, .int .i64 0,[],0⟩),
  (3,⟨(.int .i64),1,8,false, .int .i64 0,[],0⟩),
  (4,⟨.bool,1,1,false, .bool false,[],0⟩),
  (5,⟨(.int .u8),1,1,false, .int .u8 0,[],0⟩),
  (9,⟨.string,1,16,false, .str [],[],0⟩),
  (12,⟨(.int .u64),1,8,false, .int .u64 0,[],0⟩),
  (13,⟨.struct,2,24,true, .agg [.str [], .int .u64 0],[(0,1,false),(1,1,false)],0⟩),
  (20,⟨.iface,1,16,false, .nili,[],0⟩),
  (21,⟨(.int .i32),1,4,false, .int .i32 0,[],0⟩),
  (22,⟨.slice,1,24,false, .slice [] .nil,[],142⟩),
  (24,⟨.struct,3,56,true, .agg [.slice [] .nil, .str [], .str []],[(0,1,false),(1,1,false),(2,1,false)],0⟩),
  (25,⟨.slice,1,24,false, .slice [] .nil,[],37⟩),
  (26,⟨.slice,1,24,false, .slice [] .nil,[],120⟩),
  (28,⟨.struct,2,48,true, .agg [.slice [] .nil, .slice [] .nil],[(0,1,false),(1,1,false)],0⟩),
  (29,⟨.slice,1,24,false, .slice [] .nil,[],56⟩),
  (30,⟨.slice,1,24,false, .slice [] .nil,[],110⟩),
  (32,⟨.struct,8,160,true, .agg [.slice [] .nil, .str [], .str [], .slice [] .nil, .slice [] .nil, .int .i64 0, .slice [] .nil, .slice [] .nil],[(0,3,true),(3,2,true),(5,1,false),(6,1,false),(7,1,false)],0⟩),
  (33,⟨.slice,1,24,false, .slice [] .nil,[],125⟩),
  (34,⟨.slice,1,24,false, .slice [] .nil,[],135⟩),
  (35,⟨.slice,1,24,false, .slice [] .nil,[],144⟩),
  (37,⟨.struct,5,96,true, .agg [.int .i64 0, .str [], .slice [] .nil, .slice [] .nil, .slice [] .nil],[(0,1,false),(1,1,false),(2,1,false),(3,1,false),(4,1,false)],0⟩),
  (41,⟨.slice,1,24,false, .slice [] .nil,[],43⟩),
  (43,⟨.struct,5,80,true, .agg [.int .i64 0, .int .i64 0, .str [], .slice [] .nil, .slice [] .nil],[(0,1,false),(1,1,false),(2,1,false),(3,1,false),(4,1,false)],0⟩),
  (44,⟨.slice,1,24,false, .slice [] .nil,[],184⟩),
  (45,⟨.slice,1,24,false, .slice [] .nil,[],69⟩),
  (47,⟨.struct,8,152,true, .agg [.int .i64 0, .int .i64 0, .str [], .slice [] .nil, .slice [] .nil, .slice [] .nil, .slice [] .nil, .slice [] .nil],[(0,5,true),(5,1,false),(6,1,false),(7,1,false)],0⟩),
  (50,⟨.slice,1,24,false, .slice [] .nil,[],54⟩),
  (54,⟨.struct,2,40,true, .agg [.str [], .slice [] .nil],[(0,1,false),(1,1,false)],0⟩),
  (56,⟨.struct,6,96,true, .agg [.str [], .int .i64 0, .int .i64 0, .str [], .slice [] .nil, .slice [] .nil],[(0,1,false),(1,5,true)],0⟩),
  (61,⟨(.int .u64),1,8,false, .int .u64 0,[],0⟩),
  (62,⟨(.int .i64),1,8,false, .int .i64 0,[],0⟩),
  (69,⟨.slice,1,24,false, .slice [] .nil,[],71⟩),
  (71,⟨.struct,2,32,true, .agg [.str [], .str []],[(0,1,false),(1,1,false)],0⟩),
  (73,⟨.pointer,1,8,false, .nilp,[],76⟩),
  (76,⟨.struct,2,48,true, .agg [.slice [] .nil, .slice [] .nil],[(0,1,false),(1,1,false)],0⟩),
  (77,⟨.pointer,1,8,false, .nilp,[],81⟩),
  (78,⟨.func,1,8,false, .nilfn,[],0⟩),
  (79,⟨.func,1,8,false, .nilfn,[],0⟩),
  (81,⟨.struct,9,168,true, .agg [.slice [] .nil, .str [], .str [], .slice [] .nil, .slice [] .nil, .slice [] .nil, .nilfn, .nilfn, .slice [] .nil],[(0,3,true),(3,2,true),(5,1,false),(6,1,false),(7,1,false),(8,1,false)],0⟩),
  (82,⟨.pointer,1,8,false, .nilp,[],155⟩),
  (84,⟨.struct,3,32,true, .agg [.str [], .int .i64 0, .int .i64 0],[(0,1,false),(1,1,false),(2,1,false)],0⟩),
  (85,⟨.slice,1,24,false, .slice [] .nil,[],163⟩),
  (87,⟨.struct,8,120,true, .agg [.str [], .str [], .nilp, .str [], .int .i64 0, .int .i64 0, .slice [] .nil, .slice [] .nil],[(0,2,true),(2,1,false),(3,3,true),(6,1,false),(7,1,false)],0⟩),
  (90,⟨.struct,4,64,true, .agg [.str [], .str [], .slice [] .nil, .bool false],[(0,1,false),(1,1,false),(2,1,false),(3,1,false)],0⟩),
  (92,⟨.struct,6,80,true, .agg [.str [], .str [], .slice [] .nil, .bool false, .bool false, .int .i64 0],[(0,4,true),(4,1,false),(5,1,false)],0⟩),
  (96,⟨.struct,8,136,true, .agg [.nilp, .str [], .str [], .str [], .slice [] .nil, .bool false, .slice [] .nil, .slice [] .nil],[(0,1,false),(1,1,false),(2,4,true),(6,1,false),(7,1,false)],0⟩),
  (102,⟨.slice,1,24,false, .slice [] .nil,[],9⟩),
  (103,⟨.slice,1,24,false, .slice [] .nil,[],105⟩),
  (105,⟨.struct,9,144,true, .agg [.int .i64 0, .bool false, .int .i64 0, .int .i64 0, .str [], .slice [] .nil, .slice [] .nil, .slice [] .nil, .slice [] .nil],[(0,1,false),(1,1,false),(2,5,true),(7,1,false),(8,1,false)],0⟩),
  (108,⟨.slice,1,24,false, .slice [] .nil,[],90⟩),
  (110,⟨.struct,2,40,true, .agg [.str [], .slice [] .nil],[(0,1,false),(1,1,false)],0⟩),
  (112,⟨.pointer,1,8,false, .nilp,[],115⟩),
  (113,⟨.map,1,8,false, .nilmap,[],4⟩),
  (115,⟨.struct,9,176,true, .agg [.slice [] .nil, .str [], .str [], .slice [] .nil, .slice [] .nil, .slice [] .nil, .str [], .slice [] .nil, .nilmap],[(0,3,true),(3,2,true),(5,1,false),(6,1,false),(7,1,false),(8,1,false)],0⟩),
  (120,⟨.struct,4,80,true, .agg [.str [], .str [], .slice [] .nil, .slice [] .nil],[(0,1,false),(1,1,false),(2,1,false),(3,1,false)],0⟩),
  (125,⟨.struct,10,136,true, .agg [.str [], .str [], .int .i64 0, .int .i64 0, .bool false, .int .i64 0, .int .i64 0, .str [], .slice [] .nil, .slice [] .nil],[(0,1,false),(1,3,true),(4,1,false),(5,5,true)],0⟩),
  (128,⟨.pointer,1,8,false, .nilp,[],132⟩),
  (130,⟨.struct,9,200,true, .agg [.slice [] .nil, .str [], .str [], .slice [] .nil, .slice [] .nil, .slice [] .nil, .slice [] .nil, .slice [] .nil, .slice [] .nil],[(0,3,true),(3,2,true),(5,1,false),(6,1,false),(7,1,false),(8,1,false)],0⟩),
  (132,⟨.struct,11,216,true, .agg [.slice [] .nil, .str [], .str [], .slice [] .nil, .slice [] .nil, .slice [] .nil, .slice [] .nil, .slice [] .nil, .slice [] .nil, .int .i64 0, .int .i64 0],[(0,9,true),(9,1,false),(10,1,false)],0⟩),
  (135,⟨.struct,2,40,true, .agg [.str [], .slice [] .nil],[(0,1,false),(1,1,false)],0⟩),
  (136,⟨.struct,10,136,true, .agg [.str [], .str [], .int .i64 0, .int .i64 0, .bool false, .int .i64 0, .int .i64 0, .str [], .slice [] .nil, .slice [] .nil],[(0,1,false),(1,3,true),(4,1,false),(5,5,true)],0⟩),
  (137,⟨.slice,1,24,false, .slice [] .nil,[],136⟩),
  (139,⟨.struct,6,96,true, .agg [.str [], .slice [] .nil, .str [], .int .i64 0, .int .i64 0, .slice [] .nil],[(0,1,false),(1,1,false),(2,3,true),(5,1,false)],0⟩),
  (140,⟨.slice,1,24,false, .slice [] .nil,[],139⟩),
  (142,⟨.struct,6,120,true, .agg [.int .i64 0, .str [], .slice [] .nil, .slice [] .nil, .slice [] .nil, .slice [] .nil],[(0,1,false),(1,1,false),(2,1,false),(3,1,false),(4,1,false),(5,1,false)],0⟩),
  (144,⟨.struct,7,128,true, .agg [.int .i64 0, .str [], .str [], .slice [] .nil, .slice [] .nil, .str [], .slice [] .nil],[(0,1,false),(1,1,false),(2,1,false),(3,1,false),(4,1,false),(5,1,false),(6,1,false)],0⟩),
  (153,⟨.slice,1,24,false, .slice [] .nil,[],82⟩),
  (155,⟨.struct,10,168,true, .agg [.int .i64 0, .bool false, .int .i64 0, .int .i64 0, .str [], .slice [] .nil, .slice [] .nil, .slice [] .nil, .slice [] .nil, .slice [] .nil],[(0,9,true),(9,1,false)],0⟩),
  (159,⟨.func,1,8,false, .nilfn,[],0⟩),
  (163,⟨.struct,2,24,true, .agg [.str [], .int .i64 0],[(0,1,false),(1,1,false)],0⟩),
  (169,⟨.struct,5,72,true, .agg [.int .i64 0, .str [], .str [], .str [], .str []],[(0,1,false),(1,1,false),(2,1,false),(3,1,false),(4,1,false)],0⟩),
  (176,⟨.struct,5,88,true, .agg [.str [], .str [], .str [], .str [], .slice [] .nil],[(0,1,false),(1,1,false),(2,1,false),(3,1,false),(4,1,false)],0⟩),
  (184,⟨.struct,2,32,true, .agg [.slice [] .nil, .int .i64 0],[(0,1,false),(1,1,false)],0⟩),
  (250,⟨.slice,1,24,false, .slice [] .nil,[],254⟩),
  (254,⟨.struct,8,144,true, .agg [.str [], .int .i64 0, .str [], .str [], .slice [] .nil, .slice [] .nil, .str [], .slice [] .nil],[(0,1,false),(1,7,true)],0⟩),
  (257,⟨.pointer,1,8,false, .nilp,[],259⟩),
  (259,⟨.struct,9,192,true, .agg [.slice [] .nil, .str [], .str [], .slice [] .nil, .slice [] .nil, .slice [] .nil, .str [], .slice [] .nil, .slice [] .nil],[(0,3,true),(3,2,true),(5,1,false),(6,1,false),(7,1,false),(8,1,false)],0⟩),
  (265,⟨.slice,1,24,false, .slice [] .nil,[],3⟩),
  (272,⟨.struct,6,88,true, .agg [.slice [] .nil, .str [], .str [], .bool false, .bool false, .slice [] .nil],[(0,3,true),(3,1,false),(4,1,false),(5,1,false)],0⟩),
  (280,⟨.struct,0,0,true, .agg [],[],0⟩),
  (296,⟨.slice,1,24,false, .slice [] .nil,[],34⟩),
  (307,⟨.slice,1,24,false, .slice [] .nil,[],312⟩),
  (312,⟨.struct,5,56,true, .agg [.str [], .str [], .int .i64 0, .int .i64 0, .bool false],[(0,1,false),(1,3,true),(4,1,false)],0⟩),
  (354,⟨(.array 24),24,24,true, .agg [.int .u8 0, .int .u8 0, .int .u8 0, .int .u8 0, .int .u8 0, .int .u8 0, .int .u8 0, .int .u8 0, .int .u8 0, .int .u8 0, .int .u8 0, .int .u8 0, .int .u8 0, .int .u8 0, .int .u8 0, .int .u8 0, .int .u8 0, .int .u8 0, .int .u8 0, .int .u8 0, .int .u8 0, .int .u8 0, .int .u8 0, .int .u8 0],[],5⟩),
  (355,⟨(.int .u64),1,8,false, .int .u64 0,[],0⟩),
  (358,⟨.slice,1,24,false, .slice [] .nil,[],5⟩),
  (374,⟨.struct,2,2,true, .agg [.int .u8 0, .int .u8 0],[(0,1,false),(1,1,false)],0⟩),
  (375,⟨(.array 16),32,32,true, .agg [.int .u8 0, .int .u8 0, .int .u8 0, .int .u8 0, .int .u8 0, .int .u8 0, .int .u8 0, .int .u8 0, .int .u8 0, .int .u8 0, .int .u8 0, .int .u8 0, .int .u8 0, .int .u8 0, .int .u8 0, .int .u8 0, .int .u8 0, .int .u8 0, .int .u8 0, .int .u8 0, .int .u8 0, .int .u8 0, .int .u8 0, .int .u8 0, .int .u8 0, .int .u8 0, .int .u8 0, .int .u8 0, .int .u8 0, .int .u8 0, .int .u8 0, .int .u8 0],[],374⟩),
  (378,⟨(.array 20),20,160,true, .agg [.int .u64 0, .int .u64 0, .int .u64 0, .int .u64 0, .int .u64 0, .int .u64 0, .int .u64 0, .int .u64 0, .int .u64 0, .int .u64 0, .int .u64 0, .int .u64 0, .int .u64 0, .int .u64 0, .int .u64 0, .int .u64 0, .int .u64 0, .int .u64 0, .int .u64 0, .int .u64 0],[],355⟩),
  (379,⟨(.int .u32),1,4,false, .int .u32 0,[],0⟩),
  (389,⟨.iface,1,16,false, .nili,[],0⟩),
  (392,⟨(.array 32),32,32,true, .agg [.int .u8 0, .int .u8 0, .int .u8 0, .int .u8 0, .int .u8 0, .int .u8 0, .int .u8 0, .int .u8 0, .int .u8 0, .int .u8 0, .int .u8 0, .int .u8 0, .int .u8 0, .int .u8 0, .int .u8 0, .int .u8 0, .int .u8 0, .int .u8 0, .int .u8 0, .int .u8 0, .int .u8 0, .int .u8 0, .int .u8 0, .int .u8 0, .int .u8 0, .int .u8 0, .int .u8 0, .int .u8 0, .int .u8 0, .int .u8 0, .int .u8 0, .int .u8 0],[],5⟩),
  (393,⟨(.array 64),64,64,true, .agg [.int .u8 0, .int .u8 0, .int .u8 0, .int .u8 0, .int .u8 0, .int .u8 0, .int .u8 0, .int .u8 0, .int .u8 0, .int .u8 0, .int .u8 0, .int .u8 0, .int .u8 0, .int .u8 0, .int .u8 0, .int .u8 0, .int .u8 0, .int .u8 0, .int .u8 0, .int .u8 0, .int .u8 0, .int .u8 0, .int .u8 0, .int .u8 0, .int .u8 0, .int .u8 0, .int .u8 0, .int .u8 0, .int .u8 0, .int .u8 0, .int .u8 0, .int .u8 0, .int .u8 0, .int .u8 0, .int .u8 0, .int .u8 0, .int .u8 0, .int .u8 0, .int .u8 0, .int .u8 0, .int .u8 0, .int .u8 0, .int .u8 0, .int .u8 0, .int .u8 0, .int .u8 0, .int .u8 0, .int .u8 0, .int .u8 0, .int .u8 0, .int .u8 0, .int .u8 0, .int .u8 0, .int .u8 0, .int .u8 0, .int .u8 0, .int .u8 0, .int .u8 0, .int .u8 0, .int .u8 0, .int .u8 0, .int .u8 0, .int .u8 0, .int .u8 0],[],5⟩),
  (396,⟨(.int .i64),1,8,false, .int .i64 0,[],0⟩),
  (399,⟨.pointer,1,8,false, .nilp,[],405⟩),
  (405,⟨.struct,3,48,true, .agg [.str [], .str [], .nili],[(0,1,false),(1,1,false),(2,1,false)],0⟩),
  (408,⟨.pointer,1,8,false, .nilp,[],410⟩),
  (410,⟨.struct,1,16,true, .agg [.str []],[(0,1,false)],0⟩)]
theorem HA:Bm prog table:=⟨tq underlying2,tq underlying3,tq underlying4,tq underlying5,tq underlying9,tq underlying12,tq underlying13,tq underlying20,tq underlying21,tq underlying22,tq underlying24,tq underlying25,tq underlying26,tq underlying28,tq underlying29,tq underlying30,tq underlying32,tq underlying33,tq underlying34,tq underlying35,tq underlying37,tq underlying41,tq underlying43,tq underlying44,tq underlying45,tq underlying47,tq underlying50,tq underlying54,tq underlying56,tq underlying61,tq underlying62,tq underlying69,tq underlying71,tq underlying73,tq underlying76,tq underlying77,tq underlying78,tq underlying79,tq underlying81,tq underlying82,tq underlying84,tq underlying85,tq underlying87,tq underlying90,tq underlying92,tq underlying96,tq underlying102,tq underlying103,tq underlying105,tq underlying108,tq underlying110,tq underlying112,tq underlying113,tq underlying115,tq underlying120,tq underlying125,tq underlying128,tq underlying130,tq underlying132,tq underlying135,tq underlying136,tq underlying137,tq underlying139,tq underlying140,tq underlying142,tq underlying144,tq underlying153,tq underlying155,tq underlying159,tq underlying163,tq underlying169,tq underlying176,tq underlying184,tq underlying250,tq underlying254,tq underlying257,tq underlying259,tq underlying265,tq underlying272,tq underlying280,tq underlying296,tq underlying307,tq underlying312,tq underlying354,tq underlying355,tq underlying358,tq underlying374,tq underlying375,tq underlying378,tq underlying379,tq underlying389,tq underlying392,tq underlying393,tq underlying396,tq underlying399,tq underlying405,tq underlying408,tq underlying410,trivial⟩
instance:Lay prog:=⟨table,HA,checked.mixed⟩
end Go.Proofs.YtimbiifcnhgcoaaGreatDoor
