/-
  The statements' bulk is the library's.
-/
import Derived.Test.YtimbiifcnhgcoaaGreatDoorRows
import Derived.Test.YtimbiifcnhgcoaaGreatDoorAvLaw
import Derived.WalkKit
import Derived.ProofKit
import Derived.OpenShut
import Derived.JoinedCond
import Derived.Handed
namespace Go.Proofs.YtimbiifcnhgcoaaGreatDoor
open Go Go.Av

mutual
theorem rJ{H:Type}:∀d:DataW H,Rows.uptoBulk d=yY d
  | .lit (.string bytes)=>rfl
  | .lit (.bool _)=>rfl
  | .lit (.int _ _)=>rfl
  | .lit (.float _ _)=>rfl
  | .lit .nil=>rfl
  | .nil=>rfl
  | .ptr d=>by rw[Rows.uptoBulk,yY,rJ d]
  | .slice elems spare=>by rw[Rows.uptoBulk,yY,oG elems,oG spare]
  | .agg parts=>by rw[Rows.uptoBulk,yY,oG parts]
  | .iface _ d=>by rw[Rows.uptoBulk,yY,rJ d]
  | .map entries=>by rw[Rows.uptoBulk,yY,sO entries]
  | .held _=>rfl
theorem oG{H:Type}:∀l:List (DataW H),Rows.uptoBulkAll l=oC l
  |[]=>rfl
  |d::r=>by rw[Rows.uptoBulkAll,oC,rJ d,oG r]
theorem sO{H:Type}:∀l:List (Lit×DataW H),Rows.uptoBulkEntries l=En l
  |[]=>rfl
  |x::r=>by rw[Rows.uptoBulkEntries,En,Ek x,sO r]
theorem Ek{H:Type}:∀x:Lit×DataW H,Rows.uptoBulkEntry x=Pd x
  |(.string bytes,d)=>by rw[Rows.uptoBulkEntry,Pd,rJ d]
  |(.bool _,d)=>by rw[Rows.uptoBulkEntry,Pd,rJ d]<;>intro _ h<;>cases h
  |(.int _ _,d)=>by rw[Rows.uptoBulkEntry,Pd,rJ d]<;>intro _ h<;>cases h
  |(.float _ _,d)=>by rw[Rows.uptoBulkEntry,Pd,rJ d]<;>intro _ h<;>cases h
  |(.nil,d)=>by rw[Rows.uptoBulkEntry,Pd,rJ d]<;>intro _ h<;>cases h
end
theorem If{H:Type}{ds:List (DataW H)}(h:Rows.uptoSmall H ds=true):oC ds<=1048576:=by
  have h': Rows.uptoBulkAll ds<=1048576:=of_decide_eq_true h
  rwa [oG]at h'
theorem Rs{g:Gh}{w:World}{xs:List AV}{t:Tk}{v:Value}(h:Aa g w (.slice xs t) v):xs.length<=9223372036854775807:=by obtain⟨a,cap,sz,Vs,e,h1,h2,h3,h4,h5,h6⟩:=h;have:=h4.length;have h2': cap<=2 ^ 63-1:=h2;omega
theorem own:ownKnob Tryz.prog.godebug=none:=Wc
end Go.Proofs.YtimbiifcnhgcoaaGreatDoor
