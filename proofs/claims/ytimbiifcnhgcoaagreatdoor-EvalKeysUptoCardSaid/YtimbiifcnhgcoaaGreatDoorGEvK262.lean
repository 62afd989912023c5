import Derived.Test.YtimbiifcnhgcoaaGreatDoorGEvK261
set_option maxRecDepth 100000
set_option maxHeartbeats 16000000
set_option linter.all false
open List (getElem_mem)
open Nat (le_refl strongRecOn)
namespace Go.Proofs.YtimbiifcnhgcoaaGreatDoor
open Go Go.Av Go.Proofs.Tryz
attribute [local irreducible] AB AD AN AI Av.AU AZ EX Int.le Int.lt Int.decLe Int.decLt Int.decEq
instance (d:AR)[h:Z d.size](s:AJ)[ZS s]:EC prog 147 [s.C,d.C] (λx:List A7 => .slice (x.map A7.C) .no) λx=>x.length<=d.size:=by
 have e1:=E6 (f:=λo:Ak=>aC Sl.size o.O) (g:=Ak.size) (λo=>Xj) d.ops
 have e2:=E6 (f:=λo:Af=>aC Sl.size o.O) (g:=Af.size) (λo=>W5) d.aj
 have e3:aC Ak.size d.ops+aC Af.size d.aj<=d.size:=XM
 have:=h.le
 refine en [4] func147 ?_ (hE:=λa=>by simp[AV.K,bH A7.K])
 repeat' first|intro _|refine .ad 5 8 ?_|refine .Rw (L:=d.ops) 5 A7.C 0 (λo=>aC Sl.size o.O) ?_ ?_ (hF:=A7.K)|refine .Rw (L:=d.aj) 5 A7.C (aC (λo:Ak=>aC Sl.size o.O) d.ops) (λo=>aC Sl.size o.O) ?_ ?_ (hF:=A7.K)|refine .v ?_|refine .z ?_ ?_|exact cl|fail
def Sx(d:AR)(a:AG):(cM d a).1.size<=d.size+4:=by
 unfold cM;cases e:iQ d a with
 |none=>show U6.size<=_;exact Nat.le_add_left 4 _
 |some f=>have:=aN (size:=Af.size) (jJ e).1;unfold AR.size;dsimp only;omega
instance (d:AR)[h:Z d.size](l:List Sl)[k:Z (aC Sl.size l)]:EC prog 213 [d.C, .slice (l.map Sl.C) .no] (λ_:Unit => .slice ((mX d l).map AV.str) .no) λ_=>True:=⟨(),_,trivial,aB _,Ok d h.le l k.le⟩
instance (a:AR)[h:Z (a.aj.length)]:EC prog 142 [a.C] (λx:List AG => .slice (x.map AV.str) .no) λx=>x.length<=a.aj.length:=by
 have:=h.le
 refine en [2] func142 ?_
 repeat' first|intro _|refine .ad 3 1 ?_|refine .R 3 AV.str (λk=>k) ?_ ?_|refine .v ?_|refine .z ?_ ?_|exact cl|fail
instance (a:List AO)[h:Z (a.length)]:EC prog 218 [.slice (a.map AO.C) .no] (λx:List AG => .slice (x.map AV.str) .no) λx=>x.length<=a.length:=by
 have:=h.le
 refine en [2] func218 ?_
 repeat' first|intro _|refine .ad 3 1 ?_|refine .R 3 AV.str (λk=>k) ?_ ?_|refine .v ?_|refine .z ?_ ?_|exact cl|fail
instance (a:List AP)[h:Z (a.length)]:EC prog 222 [.slice (a.map AP.C) .no] (λx:List AG => .slice (x.map AV.str) .no) λx=>x.length<=a.length:=by
 have:=h.le
 refine en [2] func222 ?_
 repeat' first|intro _|refine .ad 3 1 ?_|refine .R 3 AV.str (λk=>k) ?_ ?_|refine .v ?_|refine .z ?_ ?_|exact cl|fail
instance (a:AR)[h:Z (a.ops.length)]:EC prog 140 [a.C] (λx:List AG => .slice (x.map AV.str) .no) λx=>x.length<=a.ops.length:=by
 have:=h.le
 refine en [2] func140 ?_
 repeat' first|intro _|refine .ad 3 1 ?_|refine .R 3 AV.str (λk=>k) ?_ ?_|refine .v ?_|refine .z ?_ ?_|exact cl|fail
instance (a:List AG):EB 139 [.slice (a.map AV.str) .no]:=by
 refine en [2] func139 ?_
 exact .j
instance (a:List AG)(b:List AG):EB 224 [.slice (a.map AV.str) .no, .slice (b.map AV.str) .no]:=by
 refine en [4] func224 ?_
 exact .j
instance (a:AJ)[ZS a](b:AR)[Z b.size]:EB 141 [a.C,b.C]:=by
 refine en [4] func141 ?_
 exact .j
instance (a:AJ)[ZS a](b:AR)[Z b.size]:EB 143 [a.C,b.C]:=by
 refine en [4] func143 ?_
 exact .j
instance (a:AJ)[ZS a](b:AR)[Z b.size]:EB 144 [a.C,b.C]:=by
 refine en [4] func144 ?_
 exact .j
instance (a:List AP)[Z (aC AP.size a)](b:List AF)[Z (aC AF.size b)]:EB 274 [.slice (a.map AP.C) .no, .slice (b.map AF.C) .no]:=by
 refine en [4] func274 ?_
 exact .j
instance (a:List AF)[Z (aC AF.size a)]:EB 275 [.slice (a.map AF.C) .no]:=by
 refine en [2] func275 ?_
 exact .j
instance (a:List AP)[Z (aC AP.size a)](b:List AF)[Z (aC AF.size b)]:EB 276 [.slice (a.map AP.C) .no, .slice (b.map AF.C) .no]:=by
 refine en [4] func276 ?_
 exact .j
instance (a:List AP)[Z (aC AP.size a)](b:List AF)[Z (aC AF.size b)](c:Int):EB 219 [.slice (a.map AP.C) .no, .slice (b.map AF.C) .no, .int .i64 c]:=by
 refine en [6] func219 ?_
 exact .j
instance (a:AJ)[ZS a](b:AG)(c:AG):EB 215 [a.C, .str b, .str c]:=by
 refine en [6] func215 ?_
 exact .w
instance (a:AJ)[ZS a](b:AR)[Z b.size](c:A7)(d:Int):EB 148 [a.C,b.C,c.C, .int .i64 d]:=by
 refine en [8] func148 ?_ (ha:=by simp[AV.K,aA,AJ.K,AR.K,A7.K])
 exact .j
instance (a:AR)[Z a.size]:EB 146 [a.C]:=by
 refine en [2] func146 ?_
 repeat' first|intro _|refine .MF 4 AV.bool (λ_ _=>True) ?_ ?_|refine .v ?_|refine .z ?_ ?_|exact cl|fail
instance (n:AG):EC prog 217 [.str n] (λ_:Unit => .tup [(xZ n).1.C, .bool (xZ n).2]) λ_=>True:=⟨(),_,trivial,aB _,Ip n⟩
instance (d:AO):EC prog 221 [d.C] (λ_:Unit => .slice ((wF d).map AP.C) .no) λ_=>True:=⟨(),_,trivial,aB _,MS d⟩
instance (d:AO):Z (aC AP.size (wF d)):=by
 unfold wF;split<;>exact⟨Wd⟩
instance (a:Ac)[h:Z a.size]:EC prog 281 [a.C] (λ_:Unit=>(Lg a).C) λ_=>True:=⟨(),_,trivial,aB _,aC3 a W2⟩
instance (a:Ac)[h:Z a.size]:Z (Lg a).size:=by unfold Lg;split<;>exact h
instance (a:AJ)[ZS a](b:A7):EC prog 220 [a.C,b.C] (λx:List AP => .slice (x.map AP.C) .no) λx=>Z (aC AP.size x):=by
 refine en [4] func220 ?_ (ha:=by simp[AV.K,aA,AJ.K,AR.K,A7.K])
 exact .w
instance (a:AJ)[ZS a](b:AR)[Z b.size](c:Int):EB 150 [a.C,b.C, .int .i64 c]:=by
 refine en [6] func150 ?_
 exact .j
instance (a:AJ)[ZS a](b:List AP)[Z (aC AP.size b)](c:List AF)[Z (aC AF.size c)]:EB 227 [a.C, .slice (b.map AP.C) .no, .slice (c.map AF.C) .no]:=by
 refine en [6] func227 ?_
 exact .j
instance (a:AJ)[ZS a](b:AR)[Z b.size]:EB 152 [a.C,b.C]:=by
 refine en [4] func152 ?_
 exact .j
instance (a:AP)[Z a.size](b:Ac)[Z b.size](c:Bool):EB 229 [a.C,b.C, .bool c]:=by
 refine en [6] func229 ?_
 repeat' first|intro _|refine AD.bx (d:=4) ?_|refine .mA ?_ ?_|refine .v ?_|refine .z ?_ ?_|exact cl|fail
instance (a:List AP)[Z (aC AP.size a)](b:AG)[Z b.length]:EC prog 230 [.slice (a.map AP.C) .no, .str b] (λx:AP=>x.C) λx=>Z x.size:=by
 refine enR [.cell 4 125] func230 ?_
 exact .w
def IG(m:List AF):aC (λx:AF=>x.v.size) m<=aC AF.size m:=E6 (f:=λx:AF=>x.v.size) (g:=AF.size) (λx=>X5) m
instance (m:List AF)[h:Z (aC AF.size m)]:EG prog 310 [.slice (m.map AF.C) .no] AV.str 1 (aC (λx:AF=>x.v.size) m) 4398046511104:=by
 have:=IG m
 have:=h.le
 refine eg 4 func310 λxs hx=> ?_
 repeat' first|intro _|refine .Rn 1 AV.str (λx:AF=>x.v.size) ?_ ?_|refine .R1 1 AV.str ?_ ?_|refine .v ?_|refine .z ?_ ?_|exact cl|fail
theorem P7:∀(n:Nat) (l:List Sl),aC Sl.size l<=n->n<=1048576->EG prog 277 [.slice (l.map Sl.C) .no] AV.str 1 (aC Sl.size l) 4398046511104:=λn=>by
 induction n using strongRecOn with
 |ind n E=>
  intro l m hn
  have b:Z (aC Sl.size l):=⟨om⟩
  have e:=λx:Sl=>x.ay
  have e1:=λx:Sl=>IG x.args
  have a:=λx:Sl=>E6 (f:=λd:AO=>aC (λy:AF=>y.v.size) d.args) (g:=AO.size) (λd=>by have:=IG d.args;unfold AO.size;omega) x.ar
  have c:=E6 (f:=λx:Sl=>aC (λy:AF=>y.v.size) x.args+aC (λd:AO=>aC (λy:AF=>y.v.size) d.args) x.ar+aC Sl.size x.O) (g:=Sl.size) (λx=>Z0) l
  have o:∀k (h:k<l.length),EG prog 277 [.slice ((l[k]'h).O.map Sl.C) .no] AV.str 1 (aC Sl.size (l[k]'h).O) 4398046511104:=λk h=>by
   have i:=aN (size:=Sl.size) (getElem_mem h)
   have j:=e (l[k]'h)
   exact E _ om _ (le_refl _) om
  refine eg 4 func277 λxs hx=> ?_
  repeat' first|intro _|refine .Rn 1 AV.str (λx:Sl=>aC (λy:AF=>y.v.size) x.args+aC (λd:AO=>aC (λy:AF=>y.v.size) d.args) x.ar+aC Sl.size x.O) ?_ ?_|refine .Rn 1 AV.str (λd:AO=>aC (λy:AF=>y.v.size) d.args) ?_ ?_|refine .v ?_|refine .z ?_ ?_|exact cl|fail
instance (l:List Sl)[h:Z (aC Sl.size l)]:EG prog 277 [.slice (l.map Sl.C) .no] AV.str 1 (aC Sl.size l) 4398046511104:=P7 _ l (le_refl _) h.le
def aAk(d:AR)[h:Z d.size](l:List Sl):(mX d l).length<=1048576:=by have:=zM d l;have:=(inferInstance:Z d.aj.length).le;omega
def VD{d:AR}(h:d.size<=1048576)(a:AG):aC Sl.size (cM d a).1.O<=1048576:=by have:=Sx d a;unfold Af.size at this;omega
instance (d:AR)(a:AG)[h:Z d.size]:Z (aC Sl.size (cM d a).1.O):=⟨VD h.le a⟩
theorem UE(l:List AG)(a:l.length<=4398046511104):EC prog 278 [.slice (l.map AV.str) (.own 0 1)] (λ_:Unit => .slice ((yM kF l).map AV.str) .no) λ_=>True:=⟨(),_,trivial,AA.cons (AC.no (aB _)) (aB _),Uh l a⟩
instance (d:AR)[h:Z d.size](l:List Sl)[k:Z (aC Sl.size l)]:EC prog 223 [d.C, .slice (l.map Sl.C) .no] (λx:List AG => .slice (x.map AV.str) .no) λ_=>True:=by
 have e1:=aAk d l
 have e2:aC (λ_:AG=>1048576) (mX d l)<=1048576 * 1048576:=by
  have:∀r:List AG,aC (λ_:AG=>1048576) r=1048576 * r.length:=λr=>by
   induction r with
   |nil=>rfl
   |cons x r E=>simp only[aC,E,List.length_cons];omega
  rw[this];omega
 have e3:=E6 (f:=λa:AG=>aC Sl.size (cM d a).1.O) (g:=λ_=>1048576) (λa=>VD h.le a) (mX d l)
 have e4:=k.le
 refine en [4] func223 ?_
 repeat' first|intro _|refine bJ (d:=8) rfl rfl rfl rfl rfl ?_|refine .fz 8 ?_|refine .Rn 5 AV.str (λa:AG=>aC Sl.size (cM d a).1.O) ?_ ?_|(refine .ce ?_ (h:=UE _ om))|refine .v ?_|refine .z ?_ ?_|exact cl|fail
instance (a:AJ)[ZS a](b:AR)[Z b.size](c:Int):EB 151 [a.C,b.C, .int .i64 c]:=by
 refine en [6] func151 ?_
 exact .j
theorem aAl:∀(n:Nat) (l:List Sl) (d:Int),aC Sl.size l<=n->n<=1048576->EB 136 [.slice (l.map Sl.C) .no, .int .i64 d]:=λn=>by
 induction n using strongRecOn with
 |ind n E=>
  intro l d e hn
  have a:Z (aC Sl.size l):=⟨om⟩
  have f:∀k (h:k<l.length) (d:Int),EB 211 [(l[k]'h).C, .int .i64 d]:=λk h d=>by
   have b:=aN (size:=Sl.size) (getElem_mem h)
   have c:=(l[k]'h).ay
   have g:∀d:Int,EB 136 [.slice ((l[k]'h).O.map Sl.C) .no, .int .i64 d]:=λd=>E _ om _ d (le_refl _) om
   refine en [4] func211 ?_
   exact .j
  refine en [4] func136 ?_
  exact .j
instance (l:List Sl)[h:Z (aC Sl.size l)](d:Int):EB 136 [.slice (l.map Sl.C) .no, .int .i64 d]:=aAl _ l d (le_refl _) h.le
instance (a:AR)[Z a.size]:EB 85 [a.C]:=by
 refine en [2] func85 ?_
 exact .j
structure Bx where
 l:List AO
 h:aC AO.size l<=1048576
def Bx.C(z:Bx):AV := .slice (z.l.map AO.C) .no
instance {z:Bx}:Z (aC AO.size z.l):=⟨z.h⟩
instance {P:Program}{f:FuncId}{r:List AV}{α:Type}{E:α->AV}{Q:α->Prop}{z:Bx}[h:EC P f (.slice (z.l.map AO.C) .no::r) E Q]:EC P f (z.C::r) E Q:=h
theorem Bx.K(z:Bx):z.C.K=true:=by simp[Bx.C,AV.K,b9]
instance {L:List Bx}{l:List AO}[h:Z (aC AO.size l)]:Az (L.map Bx.C++[.slice (l.map AO.C) .no]) (L++[⟨l,h.le⟩]) Bx.C:=⟨Xp⟩
instance (s:AJ)[ZS s](d:AR)[h:Z d.size]:EC prog 216 [s.C,d.C] (λx:List Bx => .slice (x.map Bx.C) .no) λ_=>True:=by
 have h1:=(inferInstance:Z d.ops.length).le
 have h2:=(inferInstance:Z d.aj.length).le
 have:=h.le
 refine en [4] func216 ?_ (hE:=λa=>by simp[AV.K,bH Bx.K])
 repeat' first|intro _|refine .ad 5 1 ?_|refine .R1 5 Bx.C ?_ ?_ (hF:=Bx.K)|refine .v ?_|refine .z ?_ ?_|exact cl|fail
instance (a:AJ)[ZS a](b:AR)[Z b.size](c:Int):EB 149 [a.C,b.C, .int .i64 c]:=by
 refine en [6] func149 ?_
 exact .j
end Go.Proofs.YtimbiifcnhgcoaaGreatDoor
