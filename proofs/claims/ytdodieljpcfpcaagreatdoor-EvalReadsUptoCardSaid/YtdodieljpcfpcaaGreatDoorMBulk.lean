/-
  The statements' bulk is the library's.
-/
import Derived.Test.YtdodieljpcfpcaaGreatDoorRows
import Derived.Test.YtdodieljpcfpcaaGreatDoorAvLaw
import Derived.WalkKit
import Derived.ProofKit
import Derived.OpenShut
import Derived.JoinedCond
import Derived.Handed
namespace Go.Proofs.YtdodieljpcfpcaaGreatDoor
open Go Go.Av

mutual
theorem rD{H:Type}:∀d:DataW H,Rows.uptoBulk d=rE d
  | .lit (.string bytes)=>rfl
  | .lit (.bool _)=>rfl
  | .lit (.int _ _)=>rfl
  | .lit (.float _ _)=>rfl
  | .lit .nil=>rfl
  | .nil=>rfl
  | .ptr d=>by rw[Rows.uptoBulk,rE,rD d]
  | .slice elems spare=>by rw[Rows.uptoBulk,rE,qG elems,qG spare]
  | .agg parts=>by rw[Rows.uptoBulk,rE,qG parts]
  | .iface _ d=>by rw[Rows.uptoBulk,rE,rD d]
  | .map entries=>by rw[Rows.uptoBulk,rE,xI entries]
  | .held _=>rfl
theorem qG{H:Type}:∀l:List (DataW H),Rows.uptoBulkAll l=lJ l
  |[]=>rfl
  |d::r=>by rw[Rows.uptoBulkAll,lJ,rD d,qG r]
theorem xI{H:Type}:∀l:List (Lit×DataW H),Rows.uptoBulkEntries l=qM l
  |[]=>rfl
  |x::r=>by rw[Rows.uptoBulkEntries,qM,JZ x,xI r]
theorem JZ{H:Type}:∀x:Lit×DataW H,Rows.uptoBulkEntry x=nL x
  |(.string bytes,d)=>by rw[Rows.uptoBulkEntry,nL,rD d]
  |(.bool _,d)=>by rw[Rows.uptoBulkEntry,nL,rD d]<;>intro _ h<;>cases h
  |(.int _ _,d)=>by rw[Rows.uptoBulkEntry,nL,rD d]<;>intro _ h<;>cases h
  |(.float _ _,d)=>by rw[Rows.uptoBulkEntry,nL,rD d]<;>intro _ h<;>cases h
  |(.nil,d)=>by rw[Rows.uptoBulkEntry,nL,rD d]<;>intro _ h<;>cases h
end
/-- What the bound says. -/
theorem NC{H:Type}{ds:List (DataW H)}(h:Rows.uptoSmall H ds=true):lJ ds<=1048576:=by
  have h': Rows.uptoBulkAll ds<=1048576:=of_decide_eq_true h
  rwa [qG]at h'
theorem aB3{g:Gh}{w:World}{xs:List AV}{t:Tk}{v:Value}(h:Ab g w (.slice xs t) v):xs.length<=9223372036854775807:=by obtain⟨a,cap,sz,Vs,e,h1,h2,h3,h4,h5,h6⟩:=h;have:=h4.length;have h2': cap<=2 ^ 63-1:=h2;omega
theorem own:ownKnob Tryz.prog.godebug=none:=Wb
end Go.Proofs.YtdodieljpcfpcaaGreatDoor
