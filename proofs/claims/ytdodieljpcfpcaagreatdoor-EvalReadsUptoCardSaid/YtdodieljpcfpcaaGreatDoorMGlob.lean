/-
  What the rows' listed variables give: the tables and errors of Go's library, as frozen data.
-/
import Derived.Test.YtdodieljpcfpcaaGreatDoorCards
import Derived.Test.YtdodieljpcfpcaaGreatDoorTie
import Derived.Test.YtdodieljpcfpcaaGreatDoorTable
import Derived.Test.YtdodieljpcfpcaaGreatDoorAvTab
import Derived.Test.YtdodieljpcfpcaaGreatDoorShelf
import Derived.WalkKit
import Derived.ProofKit
import Derived.OpenShut
import Derived.JoinedCond
import Derived.Handed
import Derived.MakeChecks
import Derived.Lay
import Derived.Lib.LaidU8T
import Derived.Stop.LaidErr
import Derived.Stop.Joined
import Derived.Deep.DeepHandedRow
import Derived.SevenTiedAt
namespace Go.Proofs.YtdodieljpcfpcaaGreatDoor
open Go Go.Av Go.ChangeShapes Go.WideShapes Go.ChangeAt Go.RowKit Go.Proofs.Tryz
set_option linter.all false
set_option maxRecDepth 100000

/-- What all rows of this seat list. -/
def qH:List (String×DataW Unit):=Rows.evalReadsRow.laid
theorem Tb:Go.Proofs.U8Extra prog sX:=⟨Wb,Wb,Wb,Wb,Wb,Wb,Wb⟩
theorem Tc:Rows.laid_unicode_utf8_first=Lib.firstData:=Wb
theorem aBY:(Rows.laid_unicode_utf8_acceptRanges:DataW Unit)=Lib.acceptData:=Wb
theorem aBZ:(Rows.laid_internal_strconv_uint64pow10:DataW Unit)=Lib.tabData .u64 Lib.pow10Tab:=Wb
def aB0:String:=match (Rows.laid_strconv_ErrSyntax:DataW Unit) with
  | .iface t _=>t
  |_ => ""
theorem UZ{W:World}(hL:laidMetH prog qH W):Aq (fun b _=>b<W.heap.size) W:=by
  rw[MakeChecks.laidMetH_plain _ _ _ Wb]at hL;have r3:=Lib.laidMet.reads hL (List.mem_of_getElem? (i:=6) (a:=(_,Rows.laid_unicode_utf8_first)) rfl);have r4:=Lib.laidMet.reads hL (List.mem_of_getElem? (i:=3) (a:=(_,Rows.laid_unicode_utf8_acceptRanges)) rfl);have r5:=Lib.laidMet.reads hL (List.mem_of_getElem? (i:=2) (a:=(_,Rows.laid_internal_strconv_uint64pow10)) rfl);rw[Tc]at r3;rw[aBY]at r4;rw[aBZ]at r5;have hT:=Go.Proofs.utf8Tabs_of_readsT (Go.Proofs.U8Types.of196 Dq) Tb r3 r4;have hP:∀(i:Nat) (z:Int),Lib.pow10Tab[i]? =some z->W.cell? ⟨2,i,none⟩=some (.int .u64 z):=by intro i z hz;obtain⟨g,t,cs,fuel,p,hg,hty,hvar,hd⟩:=r5;obtain rfl:=Option.some.inj ((show prog.globalNamed _=some 2 by kernel_rfl).symm.trans hg);obtain rfl:=Option.some.inj ((show (prog.globals[2]?).map (·.type)=some 376 by kernel_rfl).symm.trans hty);have hcs:=Lib.cells_of_tab underlying376 underlying353 Wb Wb hd;rw[World.var?_cell hg hvar i, <-Array.getElem?_toList,hcs,List.getElem?_map,hz];rfl
  have hE:∀(n:String) (Hv:List UInt8) (r:List (String×DataW Unit)) (g:Nat),laidMet prog ((n, .iface aB0 (.ptr (.agg [.lit (.string Hv)])))::r) W->prog.globalNamed n=some g->(prog.globals[g]?).map (·.type)=some 387->
      ∃u,W.cell? ⟨g,0,none⟩=some (.iface 406 u):=by
    intro n Hv r g h hg ht;obtain⟨a0,s0,hv0,_⟩:=laid_sentinel h hg ht underlying387 (fun u hu=>typeName_ptr_named (nm := "errors.errorString") (tp:=406) Wb Wb Wc u (hu.trans Wb))
      underlying406 underlying408 rfl rfl underlying9 Wb Wb
    refine⟨_,(World.var?_cell hg hv0 0).trans rfl⟩
  have hS:=hE _ _ _ 5 (hL.tail.tail.tail.tail.tail) Wb Wb;have hR:=hE _ _ _ 6 (hL.tail.tail.tail.tail) Wb Wb;have hN:(2<W.heap.size)/\W.cell? ⟨2,20,none⟩=none:=by
    obtain⟨g,t,cs,fuel,p,hg,hty,hvar,hd⟩:=r5;obtain rfl:=Option.some.inj ((show prog.globalNamed _=some 2 by kernel_rfl).symm.trans hg);obtain rfl:=Option.some.inj ((show (prog.globals[2]?).map (·.type)=some 376 by kernel_rfl).symm.trans hty);have hcs:=Lib.cells_of_tab underlying376 underlying353 Wb Wb hd;have h0:=World.var?_cell hg hvar 0;constructor
    · rw[<-Array.getElem?_toList,hcs,List.getElem?_map,show Lib.pow10Tab[0]? =some 1 by decide]at h0
      unfold World.cell? at h0;rcases Nat.lt_or_ge 2 W.heap.size with h|h
      · exact h
      · rw[Array.getElem?_eq_none om]at h0;cases h0
    · rw[World.var?_cell hg hvar 20, <-Array.getElem?_toList,hcs,List.getElem?_map,show Lib.pow10Tab[20]? =none by decide];rfl
  obtain⟨u5,h5⟩:=hS;obtain⟨u6,h6⟩:=hR;refine⟨?_,fun p hp=> ?_⟩
  rotate_left
  · have hp': p∈[(2,20)]:=hp
    simp only[List.mem_cons,List.not_mem_nil,or_false]at hp';subst hp';exact hN
  intro p hp;have hp': p∈[(0,AV.agg (Lib.firstTab.map (AV.int .u8))),(1, .agg (vY.map (AV.int .u8))),(2, .agg (Lib.pow10Tab.map (AV.int .u64))),(5, .iface 406 .undef),(6, .iface 406 .undef)]:=hp;simp only[List.mem_cons,List.not_mem_nil,or_false]at hp';rcases hp' with rfl|rfl|rfl|rfl|rfl
  · exact Pb hT
  · exact Ts hT
  · exact Jb hP
  · exact NJ h5
  · exact NJ h6
end Go.Proofs.YtdodieljpcfpcaaGreatDoor
