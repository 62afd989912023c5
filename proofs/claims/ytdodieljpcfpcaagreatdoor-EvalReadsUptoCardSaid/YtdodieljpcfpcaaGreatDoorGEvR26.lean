/- Joined texts. -/
import Derived.Test.YtdodieljpcfpcaaGreatDoorGEvR25
set_option maxRecDepth 100000
set_option maxHeartbeats 16000000
set_option linter.all false
open Nat (le_refl)
namespace Go.Proofs.YtdodieljpcfpcaaGreatDoor
open Go Go.Av Go.Proofs.Tryz
attribute [local irreducible] AB AD AN AQ Av.AS AZ EX Int.le Int.lt Int.decLe Int.decLt Int.decEq
def Si(d:AR)(a:AF):(cJ d a).1.size<=d.size+4:=by
 unfold cJ;cases e:iT d a with
 |none=>show UT.size<=_;exact Nat.le_add_left 4 _
 |some f=>have:=aN (size:=Af.size) (jO e).1;unfold AR.size;dsimp only;omega
instance (d:AR)[h:Z d.size](l:List Sl)[k:Z (aA Sl.size l)]:EC prog 214 [d.C, .slice (l.map Sl.C) .no] (λ_:Unit => .slice ((mY d l).map AV.str) .no) λ_=>True:=⟨(),_,trivial,aD _,N7 d h.le l k.le⟩
instance (a:AR)[h:Z (a.ai.length)]:EC prog 145 [a.C] (λx:List AF => .slice (x.map AV.str) .no) λx=>x.length<=a.ai.length:=by
 have:=h.le
 refine en [2] func145 ?_
 repeat' first|intro _|refine .ad 3 1 ?_|refine .R 3 AV.str (λk=>k) ?_ ?_|refine .v ?_|refine .z ?_ ?_|exact cl|fail
instance (a:List AM)[h:Z (a.length)]:EC prog 219 [.slice (a.map AM.C) .no] (λx:List AF => .slice (x.map AV.str) .no) λx=>x.length<=a.length:=by
 have:=h.le
 refine en [2] func219 ?_
 repeat' first|intro _|refine .ad 3 1 ?_|refine .R 3 AV.str (λk=>k) ?_ ?_|refine .v ?_|refine .z ?_ ?_|exact cl|fail
instance (a:List AO)[h:Z (a.length)]:EC prog 223 [.slice (a.map AO.C) .no] (λx:List AF => .slice (x.map AV.str) .no) λx=>x.length<=a.length:=by
 have:=h.le
 refine en [2] func223 ?_
 repeat' first|intro _|refine .ad 3 1 ?_|refine .R 3 AV.str (λk=>k) ?_ ?_|refine .v ?_|refine .z ?_ ?_|exact cl|fail
instance (a:AR)[h:Z (a.ops.length)]:EC prog 143 [a.C] (λx:List AF => .slice (x.map AV.str) .no) λx=>x.length<=a.ops.length:=by
 have:=h.le
 refine en [2] func143 ?_
 repeat' first|intro _|refine .ad 3 1 ?_|refine .R 3 AV.str (λk=>k) ?_ ?_|refine .v ?_|refine .z ?_ ?_|exact cl|fail
instance (a:List AF):EB 142 [.slice (a.map AV.str) .no]:=by
 refine en [2] func142 ?_
 exact .j
instance (a:List AF)(b:List AF):EB 225 [.slice (a.map AV.str) .no, .slice (b.map AV.str) .no]:=by
 refine en [4] func225 ?_
 exact .j
instance (a:AI)[ZS a](b:AR)[Z b.size]:EB 144 [a.C,b.C]:=by
 refine en [4] func144 ?_
 exact .j
instance (a:AI)[ZS a](b:AR)[Z b.size]:EB 146 [a.C,b.C]:=by
 refine en [4] func146 ?_
 exact .j
instance (a:AI)[ZS a](b:AR)[Z b.size]:EB 147 [a.C,b.C]:=by
 refine en [4] func147 ?_
 exact .j
instance (a:List AO)[Z (aA AO.size a)](b:List AG)[Z (aA AG.size b)]:EB 275 [.slice (a.map AO.C) .no, .slice (b.map AG.C) .no]:=by
 refine en [4] func275 ?_
 exact .j
instance (a:List AG)[Z (aA AG.size a)]:EB 276 [.slice (a.map AG.C) .no]:=by
 refine en [2] func276 ?_
 exact .j
instance (a:List AO)[Z (aA AO.size a)](b:List AG)[Z (aA AG.size b)]:EB 277 [.slice (a.map AO.C) .no, .slice (b.map AG.C) .no]:=by
 refine en [4] func277 ?_
 exact .j
instance (a:List AO)[Z (aA AO.size a)](b:List AG)[Z (aA AG.size b)](c:Int):EB 220 [.slice (a.map AO.C) .no, .slice (b.map AG.C) .no, .int .i64 c]:=by
 refine en [6] func220 ?_
 exact .j
instance (a:AI)[ZS a](b:AF)(c:AF):EB 216 [a.C, .str b, .str c]:=by
 refine en [6] func216 ?_
 exact .w
instance (a:AI)[ZS a](b:AR)[Z b.size](c:A8)(d:Int):EB 151 [a.C,b.C,c.C, .int .i64 d]:=by
 refine en [8] func151 ?_ (ha:=by simp[AV.K,aB,AI.K,AR.K,A8.K])
 exact .j
instance (a:AR)[Z a.size]:EB 149 [a.C]:=by
 refine en [2] func149 ?_
 repeat' first|intro _|refine .MF 4 AV.bool (λ_ _=>True) ?_ ?_|refine .v ?_|refine .z ?_ ?_|exact cl|fail
instance (n:AF):EC prog 218 [.str n] (λ_:Unit => .tup [(x5 n).1.C, .bool (x5 n).2]) λ_=>True:=⟨(),_,trivial,aD _,Id n⟩
instance (d:AM):EC prog 222 [d.C] (λ_:Unit => .slice ((wH d).map AO.C) .no) λ_=>True:=⟨(),_,trivial,aD _,MH d⟩
instance (d:AM):Z (aA AO.size (wH d)):=by
 unfold wH;split<;>exact⟨Wc⟩
instance (a:Ae)[h:Z a.size]:EC prog 282 [a.C] (λ_:Unit=>(K9 a).C) λ_=>True:=⟨(),_,trivial,aD _,aCM a Wx⟩
instance (a:Ae)[h:Z a.size]:Z (K9 a).size:=by unfold K9;split<;>exact h
instance (a:AI)[ZS a](b:A8):EC prog 221 [a.C,b.C] (λx:List AO => .slice (x.map AO.C) .no) λx=>Z (aA AO.size x):=by
 refine en [4] func221 ?_ (ha:=by simp[AV.K,aB,AI.K,AR.K,A8.K])
 exact .w
instance (a:AI)[ZS a](b:AR)[Z b.size](c:Int):EB 153 [a.C,b.C, .int .i64 c]:=by
 refine en [6] func153 ?_
 exact .j
instance (a:AI)[ZS a](b:List AO)[Z (aA AO.size b)](c:List AG)[Z (aA AG.size c)]:EB 228 [a.C, .slice (b.map AO.C) .no, .slice (c.map AG.C) .no]:=by
 refine en [6] func228 ?_
 exact .j
instance (a:AI)[ZS a](b:AR)[Z b.size]:EB 155 [a.C,b.C]:=by
 refine en [4] func155 ?_
 exact .j
instance (a:AO)[Z a.size](b:Ae)[Z b.size](c:Bool):EB 230 [a.C,b.C, .bool c]:=by
 refine en [6] func230 ?_
 repeat' first|intro _|refine AD.bx (d:=4) ?_|refine .mA ?_ ?_|refine .v ?_|refine .z ?_ ?_|exact cl|fail
instance (a:List AO)[Z (aA AO.size a)](b:AF)[Z b.length]:EC prog 231 [.slice (a.map AO.C) .no, .str b] (λx:AO=>x.C) λx=>Z x.size:=by
 refine enR [.cell 4 137] func231 ?_
 exact .w
def Iv(m:List AG):aA (λx:AG=>x.v.size) m<=aA AG.size m:=EZ (f:=λx:AG=>x.v.size) (g:=AG.size) (λx=>Xr) m
instance (m:List AG)[h:Z (aA AG.size m)]:EG prog 309 [.slice (m.map AG.C) .no] AV.str 1 (aA (λx:AG=>x.v.size) m) 4398046511104:=by
 have:=Iv m
 have:=h.le
 refine eg 4 func309 λxs Y=> ?_
 repeat' first|intro _|refine .Rn 1 AV.str (λx:AG=>x.v.size) ?_ ?_|refine .R1 1 AV.str ?_ ?_|refine .v ?_|refine .z ?_ ?_|exact cl|fail
theorem PX:∀(n:Nat) (l:List Sl),aA Sl.size l<=n->n<=1048576->EG prog 278 [.slice (l.map Sl.C) .no] AV.str 1 (aA Sl.size l) 4398046511104:=λn=>by
 induction n using Nat.strongRecOn with
 |ind n E=>
  intro l hl hn
  have b:Z (aA Sl.size l):=⟨om⟩
  have e:=λx:Sl=>x.ax
  have e1:=λx:Sl=>Iv x.args
  have a:=λx:Sl=>EZ (f:=λd:AM=>aA (λy:AG=>y.v.size) d.args) (g:=AM.size) (λd=>by have:=Iv d.args;unfold AM.size;omega) x.ao
  have c:=EZ (f:=λx:Sl=>aA (λy:AG=>y.v.size) x.args+aA (λd:AM=>aA (λy:AG=>y.v.size) d.args) x.ao+aA Sl.size x.O) (g:=Sl.size) (λx=>Zo) l
  have i:∀k (h:k<l.length),EG prog 278 [.slice ((l[k]'h).O.map Sl.C) .no] AV.str 1 (aA Sl.size (l[k]'h).O) 4398046511104:=λk h=>by
   have h1:=aN (size:=Sl.size) (List.getElem_mem h)
   have h2:=e (l[k]'h)
   exact E _ om _ (le_refl _) om
  refine eg 4 func278 λxs Y=> ?_
  repeat' first|intro _|refine .Rn 1 AV.str (λx:Sl=>aA (λy:AG=>y.v.size) x.args+aA (λd:AM=>aA (λy:AG=>y.v.size) d.args) x.ao+aA Sl.size x.O) ?_ ?_|refine .Rn 1 AV.str (λd:AM=>aA (λy:AG=>y.v.size) d.args) ?_ ?_|refine .v ?_|refine .z ?_ ?_|exact cl|fail
instance (l:List Sl)[h:Z (aA Sl.size l)]:EG prog 278 [.slice (l.map Sl.C) .no] AV.str 1 (aA Sl.size l) 4398046511104:=PX _ l (le_refl _) h.le
def aA4(d:AR)[h:Z d.size](l:List Sl):(mY d l).length<=1048576:=by have:=zK d l;have:=(inferInstance:Z d.ai.length).le;omega
def Vn{d:AR}(h:d.size<=1048576)(a:AF):aA Sl.size (cJ d a).1.O<=1048576:=by have:=Si d a;unfold Af.size at this;omega
instance (d:AR)(a:AF)[h:Z d.size]:Z (aA Sl.size (cJ d a).1.O):=⟨Vn h.le a⟩
theorem Uu(l:List AF)(hl:l.length<=4398046511104):EC prog 279 [.slice (l.map AV.str) (.own 0 1)] (λ_:Unit => .slice ((yP kJ l).map AV.str) .no) λ_=>True:=⟨(),_,trivial,AA.cons (AC.no (aD _)) (aD _),T7 l hl⟩
instance (d:AR)[h:Z d.size](l:List Sl)[k:Z (aA Sl.size l)]:EC prog 224 [d.C, .slice (l.map Sl.C) .no] (λx:List AF => .slice (x.map AV.str) .no) λ_=>True:=by
 have e1:=aA4 d l
 have e2:aA (λ_:AF=>1048576) (mY d l)<=1048576 * 1048576:=by
  have:∀r:List AF,aA (λ_:AF=>1048576) r=1048576 * r.length:=λr=>by
   induction r with
   |nil=>rfl
   |cons x r E=>simp only[aA,E,List.length_cons];omega
  rw[this];omega
 have e3:=EZ (f:=λa:AF=>aA Sl.size (cJ d a).1.O) (g:=λ_=>1048576) (λa=>Vn h.le a) (mY d l)
 have e4:=k.le
 refine en [4] func224 ?_
 repeat' first|intro _|refine bH (d:=8) ?_|refine .fz 8 ?_|refine .Rn 5 AV.str (λa:AF=>aA Sl.size (cJ d a).1.O) ?_ ?_|(refine .ce ?_ (h:=Uu _ om))|refine .v ?_|refine .z ?_ ?_|exact cl|fail
instance (a:AI)[ZS a](b:AR)[Z b.size](c:Int):EB 154 [a.C,b.C, .int .i64 c]:=by
 refine en [6] func154 ?_
 exact .j
theorem aA5:∀(n:Nat) (l:List Sl) (d:Int),aA Sl.size l<=n->n<=1048576->EB 139 [.slice (l.map Sl.C) .no, .int .i64 d]:=λn=>by
 induction n using Nat.strongRecOn with
 |ind n E=>
  intro l d hl hn
  have a:Z (aA Sl.size l):=⟨om⟩
  have b:∀k (h:k<l.length) (d:Int),EB 211 [(l[k]'h).C, .int .i64 d]:=λk h d=>by
   have h1:=aN (size:=Sl.size) (List.getElem_mem h)
   have h2:=(l[k]'h).ax
   have c:∀d:Int,EB 139 [.slice ((l[k]'h).O.map Sl.C) .no, .int .i64 d]:=λd=>E _ om _ d (le_refl _) om
   refine en [4] func211 ?_
   exact .j
  refine en [4] func139 ?_
  exact .j
instance (l:List Sl)[h:Z (aA Sl.size l)](d:Int):EB 139 [.slice (l.map Sl.C) .no, .int .i64 d]:=aA5 _ l d (le_refl _) h.le
instance (a:AR)[Z a.size]:EB 91 [a.C]:=by
 refine en [2] func91 ?_
 exact .j
structure Bw where
 l:List AM
 h:aA AM.size l<=1048576
def Bw.C(z:Bw):AV := .slice (z.l.map AM.C) .no
instance {z:Bw}:Z (aA AM.size z.l):=⟨z.h⟩
instance {P:Program}{f:FuncId}{r:List AV}{α:Type}{E:α->AV}{Q:α->Prop}{z:Bw}[h:EC P f (.slice (z.l.map AM.C) .no::r) E Q]:EC P f (z.C::r) E Q:=h
theorem Bw.K(z:Bw):z.C.K=true:=by simp[Bw.C,AV.K,b8]
instance {L:List Bw}{l:List AM}[h:Z (aA AM.size l)]:Ay (L.map Bw.C++[.slice (l.map AM.C) .no]) (L++[⟨l,h.le⟩]) Bw.C:=⟨Xb⟩
instance (s:AI)[ZS s](d:AR)[h:Z d.size]:EC prog 217 [s.C,d.C] (λx:List Bw => .slice (x.map Bw.C) .no) λ_=>True:=by
 have h1:=(inferInstance:Z d.ops.length).le
 have h2:=(inferInstance:Z d.ai.length).le
 have:=h.le
 refine en [4] func217 ?_ (hE:=λa=>by simp[AV.K,bF Bw.K])
 repeat' first|intro _|refine .ad 5 1 ?_|refine .R1 5 Bw.C ?_ ?_ (hF:=Bw.K)|refine .v ?_|refine .z ?_ ?_|exact cl|fail
instance (a:AI)[ZS a](b:AR)[Z b.size](c:Int):EB 152 [a.C,b.C, .int .i64 c]:=by
 refine en [6] func152 ?_
 exact .j
end Go.Proofs.YtdodieljpcfpcaaGreatDoor
