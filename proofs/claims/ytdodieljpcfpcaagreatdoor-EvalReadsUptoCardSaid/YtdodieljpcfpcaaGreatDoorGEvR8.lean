/- Joined texts. -/
import Derived.Test.YtdodieljpcfpcaaGreatDoorGEvR6
set_option maxRecDepth 100000
set_option maxHeartbeats 16000000
set_option linter.all false
open List (append_assoc append_nil cons_append drop_zero find?_cons getElem_mem length_append length_cons length_map map_append map_cons take_length take_zero)
open Nat (le_refl sub_self zero_add)
open Go Go.Av Go.Proofs.YtdodieljpcfpcaaGreatDoor Go.Proofs.Tryz
variable{α:Type}{u:AF}{d:AR}{f:Af}{wr:Bool}{m:Gs}{e:Int}{A:List AG}{args:List AV}{n:Nat}{x:Sl}{H:St}{t1 t2:Tk}
namespace Go.Proofs.YtdodieljpcfpcaaGreatDoor
open Go Go.Av Go.Proofs.Tryz
attribute [local irreducible] AB AD AN AQ Av.AS AZ
def Ha{p:α->Bool}{l:List α}{k:Nat}(h:k<l.length)(hj:(l.take k).all p=true)(hp:p l[k]=true):(l.take (k+1)).all p=true:=WK
def Hb{p:α->Bool}{l:List α}{k:Nat}(h:k<l.length)(hp:p l[k]=false):l.all p=false:=WN
def sQ{β:Type}{f:β->α->β}{a:β}{l:List α}{k:Nat}(h:k<l.length):(l.take (k+1)).foldl f a=f ((l.take k).foldl f a) l[k]:=WK
abbrev aDy(xs:List AF)(n:AF):Prop:=AQ prog 109 [.slice (xs.map AV.str) (.own 0 1), .str n] ⟨[],[.len xs.length]⟩ (λe H=>e = .ret (.slice ((cH xs n).map AV.str) (.own 0 1))/\H=⟨[],[.len (cH xs n).length]⟩)
def aCt(xs:List AF)(n:AF)(Y:xs.length<=137438953472):aDy xs n:=by
 have a:=gS xs n om;refine cK [4] func109 ?_;unfold cH;by_cases c:n∈xs
 ·rw[decide_eq_true c]at a;rw[if_pos c];repeat' first|refine aH (hw:=hwk) a ?_|refine .s1 ?_|(refine .q ?_ ?_<;>intro O)|fail
  exact⟨rfl,rfl⟩
 ·rw[decide_eq_false c]at a;rw[if_neg c];repeat' first|refine aH (hw:=hwk) a ?_|refine .s1 ?_|(refine .q ?_ ?_<;>intro O)|refine bU (n:=xs.length) (length_map ..) ?_|fail
  exact⟨Xb,Y7⟩
def D1(name:AF)(l:List Ag):(l.foldl (λl x=>iS l x name) []).length<=l.length:=by
 have b:∀(l:List Ag) (a:List AF),(l.foldl (λl x=>iS l x name) a).length<=a.length+l.length:=λl=>by
  induction l with
  |nil=>intro a;simp
  |cons x l E=>
   intro a;rw[List.foldl_cons,length_cons];have h1:=E (iS a x name);have h2:(iS a x name).length<=a.length+1:=by
    unfold iS;split
    ·exact GP _ _
    ·omega
   omega
 grind
def D2(s:AI)(l:List AF):(l.foldl (kB s) []).length<=l.length:=by
 have b:∀(l:List AF) (a:List AF),(l.foldl (kB s) a).length<=a.length+l.length:=λl=>by
  induction l with
  |nil=>intro a;simp
  |cons x l E=>
   intro a;rw[List.foldl_cons,length_cons];have h1:=E (kB s a x);have h2:(kB s a x).length<=a.length+1:=by
    unfold kB;split
    ·exact GP _ _
    ·omega
   omega
 grind
def D3(s:AI)(name:AF)(hs:s.size<=1048640):AN prog 53 [s.C, .str name] (.slice ((jK s name).map AV.str) .no):=by
 have hf:=Lp s name om;have hz:=iC (name:=name) (show s.size<=68719476736 by omega);have hl:=s.len;refine pEn 4 func53 (O:=aR _) ?_;unfold jK;unfold bN at hf hz;cases i:dQ s name with
 |none=>rw[i]at hf;refine .ac ?_;exact aP rfl (AC.no (aD _))
 |some d=>
  rw[i]at hf hz;simp only at hf hz ⊢;by_cases n:d.kind=1
  ·have v:=beT n;rw[if_pos n];refine .ac ?_;exact aP rfl (AC.no (aD _))
  ·have v:=beF n;rw[if_neg n];by_cases o:d.kind=2
   ·have w:=beT o;rw[if_pos o];refine .ac ?_;refine eJ 7 false 1 rfl ?_;refine bK s.ah.length (λk=>[(31, .int .i64 k),(30, .int .i64 s.ah.length),(29, .slice (s.ah.map Ag.C) .no),(1, .str name),(7, .slice (((s.ah.take k).foldl (λl x=>iS l x name) []).map AV.str) (.own 0 1))]) (λk=>⟨[.cells [.int .i64 d.kind, .str d.name, .slice (d.faces.map AV.str) .no, .slice (d.fields.map Ah.C) .no, .slice (d.aw.map AV.str) .no, .slice (d.params.map AO.C) .no]],[.len ((s.ah.take k).foldl (λl x=>iS l x name) []).length]⟩) (λ_=>True) Z0 λk hk _=> ?_
    by_cases h1:k<s.ah.length
    ·have r:=ltT h1;have x1:=aU (f:=Ag.C) h1;have u:=lP (getElem_mem h1);have t:=s.ah[k].lens;have g:=gS s.ah[k].faces name om;have b:=sQ (f:=λl x=>iS l x name) (a:=[]) h1;have hpl:=D1 name (s.ah.take k);rw[List.length_take]at hpl;have e:=aCt ((s.ah.take k).foldl (λl x=>iS l x name) []) s.ah[k].name om;generalize (s.ah.take k).foldl (λl x=>iS l x name) []=xs at e b;by_cases m:s.ah[k].kind=1
     ·have z:=beT m;by_cases c:name∈s.ah[k].faces
      ·rw[decide_eq_true c]at g;replace b:=b.trans (show iS xs s.ah[k] name=cH xs s.ah[k].name by unfold iS;rw[if_pos ⟨m,c⟩]);repeat' first|refine .s1 ?_|(refine .q ?_ ?_<;>intro O)|refine yB 0 rfl e rfl (aR _) (aR _) (by simp[aB,AV.K]) (aD _) rfl ?_|fail
       exact⟨h1,⟨rfl,rfl,rfl,rfl,Wz,trivial⟩,WI,Wf,Wz,trivial⟩
      ·rw[decide_eq_false c]at g;replace b:=b.trans (show iS xs s.ah[k] name=xs by unfold iS;rw[if_neg (λh=>c h.2)]);refine .go ?_;exact⟨h1,⟨rfl,rfl,rfl,rfl,Wz,trivial⟩,WI,Wf,Wz,trivial⟩
     ·have z:=beF m;replace b:=b.trans (show iS xs s.ah[k] name=xs by unfold iS;rw[if_neg (λh=>m h.1)]);refine .go ?_;exact⟨h1,⟨rfl,rfl,rfl,rfl,Wz,trivial⟩,WI,Wf,Wz,trivial⟩
    ·have r:=ltF h1;obtain rfl:k=s.ah.length:=om
     rw[take_length];refine .go ?_;exact aP rfl (AC.no (aD _))
   ·have w:=beF o;rw[if_neg o];by_cases p:d.kind=3
    ·have y:=beT p;rw[if_pos p];refine .ac ?_;refine eJ 7 false 1 rfl ?_;refine bK d.aw.length (λk=>[(54, .int .i64 k),(53, .int .i64 d.aw.length),(52, .slice (d.aw.map AV.str) .no),(2, .ab s.C),(7, .slice (((d.aw.take k).foldl (kB s) []).map AV.str) (.own 0 1))]) (λk=>⟨[.cells [.int .i64 d.kind, .str d.name, .slice (d.faces.map AV.str) .no, .slice (d.fields.map Ah.C) .no, .slice (d.aw.map AV.str) .no, .slice (d.params.map AO.C) .no]],[.len ((d.aw.take k).foldl (kB s) []).length]⟩) (λ_=>True) Z0 λk hk _=> ?_
     by_cases h1:k<d.aw.length
     ·have r:=ltT h1;have x1:=aU (f:=AV.str) h1;have j:=Sx s d.aw[k] [1] om Wc;have b:=sQ (f:=kB s) (a:=[]) h1;have hpl:=D2 s (d.aw.take k);rw[List.length_take]at hpl;have e:=aCt ((d.aw.take k).foldl (kB s) []) d.aw[k] om;generalize (d.aw.take k).foldl (kB s) []=xs at e b;cases c:fJ s d.aw[k] [1] with
      |true=>
       rw[c]at j;replace b:=b.trans (show kB s xs d.aw[k]=cH xs d.aw[k] by unfold kB;rw[if_pos c]);repeat' first|refine .s1 ?_|(refine .q ?_ ?_<;>intro O)|refine yB 0 rfl e rfl (aR _) (aR _) (by simp[aB,AV.K]) (aD _) rfl ?_|fail
       exact⟨h1,⟨rfl,rfl,rfl,rfl,Wz,trivial⟩,WI,Wf,Wz,trivial⟩
      |false=>rw[c]at j;replace b:=b.trans (show kB s xs d.aw[k]=xs by unfold kB;rw[if_neg YS]);refine .go ?_;exact⟨h1,⟨rfl,rfl,rfl,rfl,Wz,trivial⟩,WI,Wf,Wz,trivial⟩
     ·have r:=ltF h1;obtain rfl:k=d.aw.length:=om
      rw[take_length];refine .go ?_;exact aP rfl (AC.no (aD _))
    ·have y:=beF p;rw[if_neg p];refine .ac ?_;exact aP rfl (AC.no (aD _))
def sR(s:AI)(name:AF)(hs:s.size<=1048640):(jK s name).length<=68719476736:=by
 have hz:=iC (name:=name) (show s.size<=68719476736 by omega);have hl:=s.len;unfold bN at hz;unfold jK;cases a:dQ s name with
 |none=>simp
 |some d=>
  rw[a]at hz;simp only at hz ⊢;split
  ·simp
  ·split
   ·have:=D1 name s.ah;omega
   ·split
    ·have:=D2 s d.aw;omega
    ·simp
def US:List Field:=[{ name := "Name",type:=9,offset:=0,embedded:=false,tag := "",pkgPath := "",byteOffset:=0 },{ name := "Lists",type:=3,offset:=1,embedded:=false,tag := "",pkgPath := "",byteOffset:=16 },{ name := "Musts",type:=3,offset:=2,embedded:=false,tag := "",pkgPath := "",byteOffset:=24 }]
def SZ:CS prog 59 US:=⟨underlying59,Wb,Wb,Wc⟩
def LC(l:List AM)(f:FuncId)(cs:List AV)(p:AM->Bool)(hl:l.length<=9223372036854775807)(a:aB cs=true)(hf:∀x∈l,AN prog f (AM.C x::cs) (.bool (p x))):
  AN prog 194 [.slice (l.map AM.C) .no, .fn (.func f) [] cs] (.int .i64 (bE p l 0)):=by
 refine pEn 4 func194 (ha:=by simp[AV.K,aB,b8,a]) ?_;refine .go ?_;refine bK (hj:=rfl) l.length (λk=>[(8, .int .i64 k),(7, .int .i64 l.length),(0, .slice (l.map AM.C) .no),(1, .fn (.func f) [] cs)]) (λ_=>⟨[],[]⟩) (λk=>bE p l 0=bE p (l.drop k) k) Z0 λk hk hp=> ?_
 by_cases h1:k<l.length
 ·have b:=ltT h1;have x1:=aU (f:=AM.C) h1;have c:=hf l[k] (getElem_mem h1);have d:=cP (p:=p) h1;repeat' first|refine .s1 ?_|(refine .q ?_ ?_<;>intro O)|fail
  ·refine aP rfl (AC.eq ?_);simp_all
  ·exact⟨h1,Z0,WX,rfl,rfl,Yg⟩
 ·have b:=ltF h1;refine .go ?_;refine aP rfl (AC.eq ?_);rw[hp,List.drop_eq_nil_of_le om,bE]
def Nm(l:List AW)(f:FuncId)(cs:List AV)(p:AW->Bool)(hl:l.length<=9223372036854775807)(a:aB cs=true)(hf:∀x∈l,AN prog f (AW.C x::cs) (.bool (p x))):
  AN prog 130 [.slice (l.map AW.C) .no, .fn (.func f) [] cs] (.int .i64 (bE p l 0)):=by
 refine pEn 4 func130 (ha:=by simp[AV.K,aB,cQ,a]) ?_;refine .go ?_;refine bK (hj:=rfl) l.length (λk=>[(8, .int .i64 k),(7, .int .i64 l.length),(0, .slice (l.map AW.C) .no),(1, .fn (.func f) [] cs)]) (λ_=>⟨[],[]⟩) (λk=>bE p l 0=bE p (l.drop k) k) Z0 λk hk hp=> ?_
 by_cases h1:k<l.length
 ·have b:=ltT h1;have x1:=aU (f:=AW.C) h1;have c:=hf l[k] (getElem_mem h1);have d:=cP (p:=p) h1;repeat' first|refine .s1 ?_|(refine .q ?_ ?_<;>intro O)|fail
  ·refine aP rfl (AC.eq ?_);simp_all
  ·exact⟨h1,Z0,WX,rfl,rfl,Yg⟩
 ·have b:=ltF h1;refine .go ?_;refine aP rfl (AC.eq ?_);rw[hp,List.drop_eq_nil_of_le om,bE]
def Hc(l:List Af)(f:FuncId)(cs:List AV)(p:Af->Bool)(hl:l.length<=9223372036854775807)(a:aB cs=true)(hf:∀x∈l,AN prog f (Af.C x::cs) (.bool (p x))):
  AN prog 104 [.slice (l.map Af.C) .no, .fn (.func f) [] cs] (.int .i64 (bE p l 0)):=by
 refine pEn 4 func104 (ha:=by simp[AV.K,aB,jX,a]) ?_;refine .go ?_;refine bK (hj:=rfl) l.length (λk=>[(8, .int .i64 k),(7, .int .i64 l.length),(0, .slice (l.map Af.C) .no),(1, .fn (.func f) [] cs)]) (λ_=>⟨[],[]⟩) (λk=>bE p l 0=bE p (l.drop k) k) Z0 λk hk hp=> ?_
 by_cases h1:k<l.length
 ·have b:=ltT h1;have x1:=aU (f:=Af.C) h1;have c:=hf l[k] (getElem_mem h1);have d:=cP (p:=p) h1;repeat' first|refine .s1 ?_|(refine .q ?_ ?_<;>intro O)|fail
  ·refine aP rfl (AC.eq ?_);simp_all
  ·exact⟨h1,Z0,WX,rfl,rfl,Yg⟩
 ·have b:=ltF h1;refine .go ?_;refine aP rfl (AC.eq ?_);rw[hp,List.drop_eq_nil_of_le om,bE]
def aAs(A:List AG)(d:AM)(he:A.length<=9223372036854775807)(e:d.args.length<=9223372036854775807):AN prog 196 [.slice (A.map AG.C) .no,d.C] (.bool (Hz A d)):=by
 have h1:=get sIf d.args e;refine pEn 4 func196 ?_;unfold Hz;generalize (bR sIf d.args)=u at *;obtain⟨v,b⟩:=u;have h2:=get v.s A he;by_cases c:v.kind=8
 ·have a:(v.kind==8)=true:=by rw[c];rfl
  simp only[if_pos c];generalize (bR v.s A)=f at *;obtain⟨w,g⟩:=f;simp only at h2;cases e1:(w.kind==1) with
  |false=>refine .ac ?_;exact aP rfl (AC.eq (by simp[e1]))
  |true=>refine .ac ?_;exact aP rfl (AC.eq (by simp[e1]))
 ·have a:=beF c;simp only[if_neg c];cases e1:(v.kind==1) with
  |false=>refine .ac ?_;exact aP rfl (AC.eq (by simp[e1]))
  |true=>refine .ac ?_;exact aP rfl (AC.eq (by simp[e1]))
def Qi(name:AF)(d:AM):AN prog 195 [d.C, .ab (.str name)] (.bool (d.name==name)):=by refine pEn 3 func195 ?_;refine .ac ?_;exact bW
def uS(A:List AG)(name:AF)(l:List AM):Bool×Bool:=match gV name l with
 |some d=>(true,Hz A d)
 |none=>(false,false)
def LD(A:List AG)(name:AF)(l:List AM)(he:A.length<=9223372036854775807)(hl:aA AM.size l<=68719476736):
  AN prog 128 [.slice (A.map AG.C) .no, .str name, .slice (l.map AM.C) .no] (.tup [.bool (uS A name l).1, .bool (uS A name l).2]):=by
 have e:=aJ (size:=AM.size) (λd=>Xq) l;have X:=LC l 195 [.ab (.str name)] (λd=>d.name==name) om rfl (λd _=>Qi name d);refine AQ.plain rfl (by simp[AV.K,aB,aT,b8]) (cK [6,7] func128 ?_);unfold uS gV;rcases eV (λd:AM=>d.name==name) l 0 with⟨a,b⟩|⟨j,hj,a,b⟩
 ·rw[a]at X;rw[b];repeat' first|refine .br ?_|refine .s1 ?_|(refine .q ?_ ?_<;>intro O)|fail
  exact cI (aG _)
 ·rw[a,zero_add]at X;rw[b];have x1:=aU (f:=AM.C) hj;have hz:=aN (size:=AM.size) (getElem_mem hj);have c:(l[j]).size=l[j].name.length+aA AG.size l[j].args+3:=rfl;have g:=aJ AG.au l[j].args;have hy:=aAs A l[j] he om;repeat' first|refine .br ?_|refine .s1 ?_|(refine .q ?_ ?_<;>intro O)|fail
  exact cI (aG _)
def S0(A:List AG)(l:List AM)(he:A.length<=9223372036854775807)(hl:aA AM.size l<=68719476736):
  AN prog 79 [.slice (A.map AG.C) .no, .slice (l.map AM.C) .no] (.bool (iV A l)):=by
 have h1:=LD A oE l he hl;have h2:=LD A fU l he hl;have e:iV A l=(!(uS A oE l).2&&(!(uS A fU l).1||(uS A fU l).2)):=by unfold iV uS;cases gV oE l<;>cases gV fU l<;>simp
 rw[e];generalize uS A oE l=u at *;generalize uS A fU l=v at *;obtain⟨a,b⟩:=u;obtain⟨c,d⟩:=v;refine pEn 4 func79 ?_;cases b<;>cases c
 all_goals
  repeat' first|refine .s1 ?_|(refine .q ?_ ?_<;>intro O)|refine aH h2 ?_|refine aH h1 ?_|fail
 all_goals exact bW
def Hd(s:AI)(u a:AF)(hs:s.size<=1048640):AN prog 82 [s.C, .str u, .str a] (.bool (k9 s u a)):=by
 have hp:=D3 s a hs;have hl:=sR s a hs;have O:=gS (jK s a) u om;refine pEn 6 func82 ?_;unfold k9;cases e1:(a==[]) with
 |true=>refine .ac ?_;exact bW
 |false=>
  cases b:(a==u) with
  |true=>refine .ac ?_;exact bW
  |false=>refine .ac ?_;exact bW
def aDz(x:Sl):AN prog 129 [x.C] (.str (jL x)):=by
 refine pEn 2 func129 ?_;unfold jL;by_cases a:x.kind=0
 ·have e1:=bnF a;rw[if_neg W5];by_cases b:x.bn=[]
  ·have c:=bnF b;rw[if_neg (by simp[b])];refine .ac ?_;exact bW
  ·have c:=bnT b;rw[if_pos b];refine .ac ?_;exact bW
 ·have e1:=bnT a;rw[if_pos a];refine .ac ?_;exact bW
end Go.Proofs.YtdodieljpcfpcaaGreatDoor
namespace Go.Av
open Go
section
variable [AK]
theorem A1.agg{cs a:List AV}(h:Al H cs a):A1 H (.agg cs) (.agg a):=λg w v b ⟨vs,e,hl,h1⟩=>⟨vs,e,h g w _ b hl,h1⟩
def A1.fn{f:Fn}{cs a:List AV}(h:Al H cs a):A1 H (.fn f [] cs) (.fn f [] a):=λg w v b ⟨vs,ws,e,h1,h2⟩=>⟨vs,ws,e,h1,h g w _ b h2⟩
def OR{i:Nat}{c d:AV}(n:H.B[i]? =some (.cells [c]))(h:A1 H c d)(O:fits false 1 c=true):A1 H (.ptr i 0) (.ab d):=λg w v k hr=>by
 obtain⟨b,hb,rfl⟩:=hr
 obtain⟨J,R,h1,h2,h3⟩:=k.ob i b _ hb n
 have hlt:b<w.heap.size:=(Array.getElem?_eq_some_iff.1 h1).1
 obtain⟨u,C,e,h4,m⟩:=h2
 have a:C=[]:=m
 subst a
 have l:u.cells = #[u]:=((nM O h4).2.2.1 rfl).1
 refine⟨b,0,u,rfl,λj x hj=>⟨hlt, ?_,h3 x ?_⟩,h g w u k h4⟩
 ·rw[l]at hj
  have f:J[j]? =some x:=by
   rw[<-Array.getElem?_toList,e]
   rw[<-Array.getElem?_toList]at hj
   exact hj
  unfold World.cell?
  rw[h1]
  simpa using f
 ·rw[l]at hj
  have Y:x∈[u]:=List.mem_of_getElem? (by rw[<-Array.getElem?_toList]at hj;exact hj)
  rw[e];exact Y
end
end Go.Av
namespace Go.Proofs.YtdodieljpcfpcaaGreatDoor
open Go Go.Av Go.Proofs.Tryz
def o0(s:AI)(d:AR)(A:List AG)(u:AF)(o:AV):List AV:=
 [.slice (s.ah.map Ag.C) .no, .str s.query, .str s.ar, .slice (d.ops.map Aj.C) .no, .slice (d.ai.map Af.C) .no, .slice (A.map AG.C) .no, .str u,o, .map 0]
def z8(i:Nat)(g:AW):AV := .agg [.str g.key, .Y (i+1) 7 g.O.length 0 g.O.length]
def cT:Nat->List AW->List AV
 |_,[]=>[]
 |i,g::l=>z8 i g::cT (i+1) l
def iX(out:List AW):List Tok := .Y (cT 0 out)::out.map λg => .Y (g.O.map Sl.C)
def nI(s:AI)(d:AR)(A:List AG)(u:AF)(met:List AF)(n:Nat):List Ob:=[.map (met.map λx=>(.str x, .bool true)), .cells (o0 s d A u (.Y 0 2 n 0 n))]
def mI(s:AI)(d:AR)(A:List AG)(u:AF)(m:Gs):St:=⟨nI s d A u m.met m.out.length,iX m.out⟩
theorem sS:∀(i:Nat) (l:List AW),(cT i l).length=l.length
 |_,[]=>rfl
 |i,g::l=>by rw[cT,length_cons,sS (i+1) l,length_cons]
theorem D4:∀(i:Nat) (a b:List AW),cT i (a++b)=cT i a++cT (i+a.length) b
 |i,[],b=>by simp[cT]
 |i,g::a,b=>by rw[cons_append,cT,D4 (i+1) a b,cT,cons_append,length_cons];congr 3;omega
theorem D5:∀(i:Nat) (l:List AW) (j:Nat) (h:j<l.length),(cT i l)[j]? =some (z8 (i+j) l[j])
 |i,g::l,0,_=>by rw[cT];rfl
 |i,g::l,j+1,h=>by
  rw[cT,List.getElem?_cons_succ,D5 (i+1) l j Wp,List.getElem_cons_succ];congr 2;omega
theorem D6:∀(i:Nat) (l:List AW) (j:Nat) (x:AW),(cT i l).set j (z8 (i+j) x)=cT i (l.set j x)
 |_,[],_,_=>by simp[cT]
 |i,g::l,0,x=>by rw[cT,List.set_cons_zero,List.set_cons_zero,cT];rfl
 |i,g::l,j+1,x=>by rw[cT,List.set_cons_succ,List.set_cons_succ,cT, <-D6 (i+1) l j x];congr 3;omega
theorem fC(l:List AW):(iX l).length=l.length+1:=by rw[iX,length_cons,length_map]
theorem D7(n:Nat):∀(i:Nat) (l:List AW) (m:Nat),i+l.length<m->aE n m (cT i l)=true
 |_,[],_,_=>by rw[cT,aE]
 |i,g::l,m,h=>by
  rw[length_cons]at h
  rw[cT,aE,D7 n (i+1) l m om,Bool.and_true]
  simp only[z8,AV.aa,aE,Bool.and_true,Bool.true_and]
  exact Nat.ble_eq_true_of_le om
def jN(n:Nat)(l:List AW):aL n (iX l).length (iX l)=true:=by
 rw[fC,iX,aL,Tok.aa,D7 n 0 l _ om,Bool.true_and];have:∀(m:Nat) (l:List AW),aL n m (l.map λg=>Tok.Y (g.O.map Sl.C))=true:=by
  intro m l;induction l with
  |nil=>rfl
  |cons g l E=>rw[map_cons,aL,Tok.aa,E,Tw];rfl
 exact this _ l
theorem OS(n m:Nat):∀l:List AF,oP n m (l.map λx=>(AV.str x,AV.bool true))=true
 |[]=>rfl
 |x::l=>by rw[map_cons,oP,OS n m l];rfl
def oO(s:AI)(d:AR)(A:List AG)(u:AF)(met:List AF)(n m:Nat)(h:0<m):aQ 2 m (nI s d A u met n)=true:=by rw[nI,aQ,aQ,aQ,Ob.aa,Ob.aa,OS];simp[o0,aE,AV.aa,h]
theorem D8{x:Sl}:∀ {l:List AW},l.find? (λg=>g.key==jL x)=none->kP x l=l++[⟨jL x,[x]⟩]
 |[],_=>rfl
 |g::l,h=>by
  rw[find?_cons]at h
  split at h
  ·cases h
  ·rename_i e
   rw[kP,if_neg Yv,D8 h];rfl
def IG:∀ {l:List AW} {j:Nat} (h:j<l.length),bE (λg:AW=>g.key==jL x) l 0=(j:Int)->kP x l=l.set j ⟨l[j].key,l[j].O++[x]⟩:=by
 have a:∀(l:List AW) (k j:Nat) (h:j<l.length),bE (λg:AW=>g.key==jL x) l k=((k+j:Nat):Int)->kP x l=l.set j ⟨l[j].key,l[j].O++[x]⟩:=by
  intro l;induction l with
  |nil=>intro k j h;simp at h
  |cons g l E=>
   intro k j h e;rw[bE]at e;by_cases c:(g.key==jL x)=true
   ·rw[if_pos c]at e;obtain rfl:j=0:=om
    rw[kP,if_pos WY];rfl
   ·rw[if_neg c]at e;rw[kP,if_neg WY];cases j with
    |zero=>exfalso;rcases eV (λg:AW=>g.key==jL x) l (k+1) with⟨h1,_⟩|⟨i,_,h1,_⟩<;>omega
    |succ j=>rw[E (k+1) j Wp (by rw[e];congr 1;omega)];rfl
 intro l j h e;exact a l 0 j h (by rw[e];congr 1;omega)
attribute [local irreducible] AB AD AN AQ Av.AS AZ
def Qj(name:AF)(g:AW):AN prog 131 [g.C, .ab (.str name)] (.bool (g.key==name)):=by refine pEn 3 func131 (ha:=by simp[AV.K,aB,AW.K]) ?_;refine .ac ?_;exact bW
def Vx{a:List AW}(hT:H.T=iX a):A1 H (.Y 0 2 a.length 0 a.length) (.slice (a.map AW.C) .no):=by
 have h0:H.T[0]? =some (.Y (cT 0 a)):=by rw[hT];rfl
 have b:∀(l:List AW) (i:Nat),(∀(j:Nat) (h:j<l.length),H.T[i+j+1]? =some (.Y (l[j].O.map Sl.C)))->Al H (cT i l) (l.map AW.C):=by
  intro l;induction l with
  |nil=>intro i _;exact Al.nil
  |cons g l E=>
   intro i h;refine Al.cons (A1.agg (Al.cons (A1.K rfl) (Al.cons ?_ Al.nil))) (E (i+1) λj hj=> ?_)
   ·have h1:=h 0 Wa;have h2:=A1.Y (z:=7) (lo:=0) (X:=g.O.length) (n:=g.O.length) h1 Wa (Al.K (aZ _));rw[drop_zero,List.take_of_length_le Wa]at h2;exact h2
   ·have h1:=h (j+1) Xl;rw[show i+(j+1)+1=i+1+j+1 by omega]at h1;exact h1
 have h2:=A1.Y (z:=2) (lo:=0) (X:=a.length) (n:=a.length) h0 (sS 0 a) (b a 0 λj hj=>by rw[hT,iX,zero_add,List.getElem?_cons_succ];simp[hj]);rw[drop_zero,List.take_of_length_le Wa]at h2;exact h2
def LE{a w:Tok}{S:List Tok}{j:Nat}(h:j<S.length):(a::S.set j w)[j+1]? =some w:=by rw[List.getElem?_cons_succ,List.getElem?_set_self h]
theorem sT(l:List α)(x y:α)(h:l.length=n):(l++[x]).set n y=l++[y]:=by subst h;simp
theorem xE(l:List α)(x:α)(h:l.length=n):(l++[x])[n]? =some x:=by subst h;simp
def aCu(s:AI)(d:AR)(A:List AG)(u:AF)(met:List AF)(a:List AW)(j:Nat)(hj:j<a.length)(x:Sl)(hl:a[j].O.length<=68719476736):
  AB prog Tryz.f80.ntmps [] (wS 4 (uB Tryz.f80))
   (fin [] (λe σ'=> e = .ret (.tup [])/\σ'.B.take 2=nI s d A u met a.length/\σ'.T=iX (a.set j ⟨a[j].key,a[j].O++[x]⟩)))
   [(3, .ab x.C),(5, .int .i64 j),(0, .ptr 1 0)] ⟨nI s d A u met a.length++[.cells [.str (jL x)]],iX a⟩:=by
 have hy:(cT 0 a)[j]? =some (z8 j a[j]):=by rw[D5 0 a j hj,zero_add]
 have hn:=sS 0 a;have hS:(iX a)[j+1]? =some (.Y (a[j].O.map Sl.C)):=by rw[iX,List.getElem?_cons_succ];simp[hj]
 have h:j<(a.map λg=>Tok.Y (g.O.map Sl.C)).length:=Xl
 have i:j+1<(iX a).length:=X2
 have c:(a[j].O.map Sl.C).length=a[j].O.length:=length_map _;have k:(j:Int)=(j:Nat):=rfl;have f:iX (a.set j ⟨a[j].key,a[j].O++[x]⟩) = .Y ((cT 0 a).set j (z8 j ⟨a[j].key,a[j].O++[x]⟩))::(a.map λg=>Tok.Y (g.O.map Sl.C)).set j (.Y (a[j].O.map Sl.C++[x.C])):=by rw[iX, <-D6,List.map_set,zero_add,map_append];rfl
 rw[f];generalize a[j]=g at *
 unfold nI o0
 repeat' first|refine OP rfl rfl rfl rfl rfl Wc Wc WQ (λb=> ?_)|refine bZ ?_|refine .s1 ?_|(refine .q ?_ ?_<;>intro O)|refine fM (hlt:=by omega) ?_|refine fF (hn:=hn) (hy:=hy) ?_|refine jH ?_|refine eI (hTk:=hS) (hb:=Wv) (hT':= gN i) c ?_|refine aX (agg:=true) (hn:=hn) (he:=hy) ?_|refine fM (j:=g.O.length) (hlt:=Wv) ?_|refine aX (agg:=true) (hTk:=LE h) (hn:=(by rw[length_append,c])) (he:=xE _ _ c) (hT':= (gN (by rw[length_cons,List.length_set];omega))) ?_|fail
 ·refine⟨rfl,rfl, ?_⟩;show _::List.set (List.set _ j _) j _=_;rw[List.set_set,sT _ _ _ c];simp only[z8,length_append];rfl
 ·refine⟨rfl,rfl, ?_⟩;simp only[z8,length_append];rfl
def xF(x:Sl):∀l:List AW,l.length<=(kP x l).length
 |[]=>by simp[kP]
 |g::l=>by
  rw[kP]
  split
  ·simp
  ·have:=xF x l
   simp only[length_cons];omega
def aAt(s:AI)(d:AR)(A:List AG)(u:AF)(m:Gs)(x:Sl)(hl:m.out.length<=68719476736)(hs:∀g∈m.out,g.O.length<=68719476736):
  AQ prog 80 [.ptr 1 0,x.C] (mI s d A u m) (λe σ'=> e = .ret (.tup [])/\σ'= mI s d A u ⟨m.met,kP x m.out⟩):=by
 obtain⟨met,a⟩:=m;simp only at hl hs;have hk:=aDz x;have X:=Nm a 131 [.ab (.str (jL x))] (λg=>g.key==jL x) om rfl (λg _=>Qj (jL x) g);have hn:=sS 0 a;refine kV (AQ.mono (o:=λe σ'=> e = .ret (.tup [])/\σ'.B.take 2=nI s d A u met (kP x a).length/\σ'.T=iX (kP x a)) ?_ λe r hh=> ?_)
 case refine_2=>
  have a0:=xF x a;refine⟨.tup [],2,r.T.length,hh.1,le_refl _, ?_,rfl, ?_, ?_,rfl, ?_⟩
  ·rw[hh.2.2,fC];show (iX a).length<=_;rw[fC];omega
  ·rw[hh.2.1,hh.2.2,fC];exact oO _ _ _ _ _ _ _ om
  ·rw[take_length,hh.2.2];exact jN _ _
  ·rw[take_length,hh.2.1,hh.2.2];rfl
 have l:∀(b:List AW) (j:Nat) (hj:j<b.length) (f:b[j].O.length<=68719476736) (e1:kP x a=b.set j ⟨b[j].key,b[j].O++[x]⟩),
   AB prog Tryz.f80.ntmps [] (wS 4 (uB Tryz.f80))
    (fin [] (λe σ'=> e = .ret (.tup [])/\σ'.B.take 2=nI s d A u met (kP x a).length/\σ'.T=iX (kP x a)))
    [(3, .ab x.C),(5, .int .i64 j),(0, .ptr 1 0)] ⟨nI s d A u met b.length++[.cells [.str (jL x)]],iX b⟩:=λb j hj f e1=>by
  have h:=aCu s d A u met b j hj x f;rw[<-e1]at h;have h2:b.length=(kP x a).length:=by rw[e1,List.length_set]
  rw[<-h2];exact h
 rcases eV (λg:AW=>g.key==jL x) a 0 with⟨n,w⟩|⟨j,hj,n,w⟩
 ·rw[n]at X;have z:decide ((-1:Int)<0)=true:=rfl;have t:(a++[AW.mk (jL x) []])[a.length]' Wa=AW.mk (jL x) []:=by simp
  have p:=l (a++[⟨jL x,[]⟩]) a.length Wa (by rw[t];simp) (by rw[t,D8 w,sT _ _ _ rfl];rfl);have hT': j5 0 (.Y ((cT 0 a++[AV.agg [.str (jL x), .slice [] .nil]]).set a.length (.agg ([AV.str (jL x), .slice [] .nil].set 1 (.Y (a.length+1) 7 0 0 0)))))
    ((Tok.Y (cT 0 a++[AV.agg [.str (jL x), .slice [] .nil]])::a.map λg=>Tok.Y (g.O.map Sl.C))++[.Y []]) some=some (iX (a++[⟨jL x,[]⟩])):=by
   rw[sT _ _ _ hn,iX,D4,zero_add,map_append];rfl
  have v:=bY (s:=[(3, .ab x.C),(5, .int .i64 a.length),(0, .ptr 1 0)]) 5 rfl (cU (z0 := .int .i64 a.length) (H:=⟨nI s d A u met (a++[AW.mk (jL x) []]).length++[.cells [.str (jL x)]],Tok.Y (cT 0 a++[AV.agg [.str (jL x), .slice [] .nil]])::a.map λg=>Tok.Y (g.O.map Sl.C)⟩)
   (k:=0) (i:=a.length) (c:=1) (y := .Y (a.length+1) 7 0 0 0) rfl (xE _ _ hn) rfl (kE rfl (by rw[oM];simp) (oN _ _ _)) rfl hT') (AB.weaken p (s':= (5, .int .i64 a.length)::[(3, .ab x.C),(5, .int .i64 a.length),(0, .ptr 1 0)]) (by exact Z0))
  rw[length_append]at v;refine cK [] func80 ?_;unfold mI nI o0
  repeat' first|refine .br ?_|(refine AB.weaken v ?_;exact Z0)|refine bZ ?_|refine .s1 ?_|(refine .q ?_ ?_<;>intro O)|refine xO rfl X (Al.cons (Vx rfl) (Al.cons (A1.fn (Al.cons (OR rfl (A1.K rfl) rfl) Al.nil)) Al.nil)) rfl ?_|refine .vl ?_|refine jH ?_|refine eI (hb:=Wv) hn ?_|fail
 ·rw[n,zero_add]at X;have z:decide ((j:Int)<0)=false:=decide_eq_false om;have p:=l a j hj (hs _ (getElem_mem hj)) (IG hj (by rw[n,zero_add]));refine cK [] func80 ?_;unfold mI nI o0
  repeat' first|refine .br ?_|(refine AB.weaken p ?_;exact Z0)|refine bZ ?_|refine .s1 ?_|(refine .q ?_ ?_<;>intro O)|refine xO rfl X (Al.cons (Vx rfl) (Al.cons (A1.fn (Al.cons (OR rfl (A1.K rfl) rfl) Al.nil)) Al.nil)) rfl ?_|fail
theorem IH(s:AI)(d:AR)(A:List AG)(u:AF)(n:Nat):∀(a b:List Sl) (g:Gs),fV s d A u n (a++b) g=fV s d A u n b (fV s d A u n a g)
 |[],b,g=>by rw[List.nil_append,fP]
 |x::a,b,g=>by rw[cons_append,gG,IH s d A u n a b,gG]
def Nn(s:AI)(d:AR)(A:List AG)(u:AF)(n:Nat){l:List Sl}{k:Nat}(h:k<l.length)(g:Gs):
  fV s d A u n (l.take (k+1)) g=jS s d A u n l[k] (fV s d A u n (l.take k) g):=by rw[List.take_succ_eq_append_getElem h,IH,gG,fP]
def gD(d:AR)(met:List AF):List Af:=d.ai.filter λf=>decide (f.name∉met)
def Dm(out:List AW):Nat:=aA (λg:AW=>g.O.length+1) out
def xG(tot:List AW->Nat)(d:AR)(g:Gs):Nat:=tot g.out+aA (λf:Af=>aA Sl.size f.O) (gD d g.met)
def qJ(d:AR)(g:Gs):Nat:=xG Dm d g
def rC{α:Type}{p q:α->Bool}(w:α->Nat)(a:∀x,q x=true->p x=true):∀(l:List α),aA w (l.filter q)<=aA w (l.filter p)
 |[]=>le_refl _
 |y::l=>by have E:=rC w a l;cases b:q y<;>cases hp:p y<;>simp_all[aA]<;>omega
def Ca{α:Type}{p q:α->Bool}(w:α->Nat)(a:∀x,q x=true->p x=true){f:α}(hp:p f=true)(b:q f=false):∀(l:List α),f∈l->aA w (l.filter q)+w f<=aA w (l.filter p)
 |y::l,h=>by
  rcases List.mem_cons.1 h with rfl|h
  ·have:=rC w a l;simp only[List.filter_cons,hp,b,if_true,aA];grind
  ·have E:=Ca w a hp b l h;cases d:q y<;>cases c:p y<;>simp_all[aA]<;>omega
theorem Fk(l:List α):aA (λ_=>1) l=l.length:=by
 induction l with
 |nil=>rfl
 |cons x l E=>rw[aA,E,length_cons];omega
def yH(d:AR)(met:List AF)(nm:AF)(x:Af)(h:decide (x.name∉met++[nm])=true):decide (x.name∉met)=true:=WN
def No(d:AR)(met:List AF)(nm:AF):(gD d (met++[nm])).length<=(gD d met).length:=by rw[<-Fk, <-Fk];exact rC _ (yH d met nm) d.ai
def OT(d:AR)(met:List AF)(nm:AF)(w:Af->Nat):aA w (gD d (met++[nm]))<=aA w (gD d met):=rC _ (yH d met nm) d.ai
def D9(d:AR)(met:List AF)(hf:f∈d.ai)(hn:f.name∉met):(gD d (met++[f.name])).length+1<=(gD d met).length:=by rw[<-Fk, <-Fk];exact Ca (λ_=>1) (yH d met f.name) (by simpa using hn) Wa d.ai hf
def uT(d:AR)(met:List AF)(hf:f∈d.ai)(hn:f.name∉met)(w:Af->Nat):aA w (gD d (met++[f.name]))+w f<=aA w (gD d met):=
 Ca w (yH d met f.name) (by simpa using hn) Wa d.ai hf
def jO{nm:AF}(h:iT d nm=some f):f∈d.ai/\f.name=nm:=⟨List.mem_of_find?_eq_some h,by simpa using List.find?_some h⟩
def LF(x:Sl):∀l:List AW,Dm (kP x l)<=Dm l+2
 |[]=>by simp[kP,Dm,aA]
 |g::l=>by
  have E:=LF x l;rw[kP];unfold Dm at E ⊢;split
  ·simp only[aA,length_append,length_cons,List.length_nil];omega
  ·simp only[aA];omega
def Bi(tot:List AW->Nat)(s:AI)(d:AR)(A:List AG)(u:AF)(n:Nat)(l:List Sl)(g:Gs):Prop:=
 xG tot d (fV s d A u n l g)<=xG tot d g+aA Sl.size l/\(gD d (fV s d A u n l g).met).length<=(gD d g.met).length
def S1(a:List AW->Nat)(c:∀x l,a (kP x l)<=a l+x.size)(s:AI)(d:AR)(A:List AG)(u:AF)(n N:Nat)(j:∀m,n=m+1->∀l g,Bi a s d A u m l g)(E:∀l g,aA Sl.size l<=N->Bi a s d A u n l g)(x:Sl)(w:aA Sl.size x.O<=N)(g:Gs):
  xG a d (jS s d A u n x g)<=xG a d g+x.size/\(gD d (jS s d A u n x g).met).length<=(gD d g.met).length:=by
 have Y:=x.ax;unfold jS;have h:=No d g.met x.name;have hw:=OT d g.met x.name (λf:Af=>aA Sl.size f.O);have hk:=c x g.out;by_cases v:iV A x.ao=false
 ·simp_all
 rw[if_neg v];by_cases k:x.kind=0
 ·rw[if_pos k];exact⟨XB,le_refl _⟩
 rw[if_neg k];by_cases o:x.kind=1
 ·rw[if_pos o];by_cases p:x.name∈g.met
  ·simp_all
  rw[if_neg p];cases hf:iT d x.name with
  |none=>exact⟨XB,h⟩
  |some f=>
   obtain⟨y,b⟩:=jO hf;dsimp only;by_cases q:k9 s u f.on=true
   ·rw[if_pos q];cases n with
    |zero=>exact⟨XB,h⟩
    |succ m=>obtain⟨h3,h4⟩:=j m rfl f.O ⟨g.met++[x.name],g.out⟩;have i:=uT d g.met y (by rw[b];exact p) (λf:Af=>aA Sl.size f.O);rw[b]at i;refine⟨?_,by dsimp only at h4;dsimp only;omega⟩;have e:xG a d ⟨g.met++[x.name],g.out⟩=a g.out+aA (λf:Af=>aA Sl.size f.O) (gD d (g.met++[x.name])):=rfl;have z:xG a d g=a g.out+aA (λf:Af=>aA Sl.size f.O) (gD d g.met):=rfl;grind
   ·rw[if_neg q];exact⟨XB,h⟩
 rw[if_neg o];by_cases r:x.kind=2
 ·rw[if_pos r];by_cases t:k9 s u x.on=true
  ·rw[if_pos t];obtain⟨h3,h4⟩:=E x.O g w;exact⟨om,h4⟩
  ·rw[if_neg t];exact⟨om,le_refl _⟩
 ·rw[if_neg r];exact⟨om,le_refl _⟩
def Fl(a:List AW->Nat)(b:∀x l,a (kP x l)<=a l+x.size)(s:AI)(d:AR)(A:List AG)(u:AF)(n:Nat)(c:∀m,n=m+1->∀l g,Bi a s d A u m l g):∀(N:Nat) (l:List Sl) (g:Gs),aA Sl.size l<=N->Bi a s d A u n l g
 |_,[],g,_=>by unfold Bi;rw[fP];exact⟨om,le_refl _⟩
 |0,x::l,g,h=>by rw[aA]at h;have:=x.au;omega
 |N+1,x::l,g,h=>by rw[aA]at h;have Y:=x.ax;obtain⟨h1,h2⟩:=Fl a b s d A u n c N l (jS s d A u n x g) (by have:=x.au;omega);obtain⟨h3,h4⟩:=S1 a b s d A u n N c (λl g h=>Fl a b s d A u n c N l g h) x om g;unfold Bi;rw[gG,aA];omega
def Ea(a:List AW->Nat)(b:∀x l,a (kP x l)<=a l+x.size)(s:AI)(d:AR)(A:List AG)(u:AF):∀(n:Nat) (l:List Sl) (g:Gs),Bi a s d A u n l g
 |0,l,g=>Fl a b s d A u 0 (λm h=>absurd h om) _ l g (le_refl _)
 |n+1,l,g=>Fl a b s d A u (n+1) (λm h l g=>(Nat.succ.inj h)▸Ea a b s d A u n l g) _ l g (le_refl _)
def LG(s:AI)(d:AR)(A:List AG)(u:AF)(n:Nat)(l:List Sl)(g:Gs):qJ d (fV s d A u n l g)<=qJ d g+aA Sl.size l/\(gD d (fV s d A u n l g).met).length<=(gD d g.met).length:=
 Ea Dm (λx l=>Nat.le_trans (LF x l) (by have:=x.ax;omega)) s d A u n l g
def He(out:List AW):Nat:=aA (λg:AW=>aA Sl.size g.O) out
theorem LH{α:Type}(f:α->Nat)(x:α):∀l:List α,aA f (l++[x])=aA f l+f x
 |[]=>by simp[aA]
 |y::l=>by rw[cons_append,aA,aA,LH f x l];omega
def II(x:Sl):∀l:List AW,He (kP x l)<=He l+x.size
 |[]=>by simp[kP,He,aA]
 |g::l=>by
  have E:=II x l;rw[kP];unfold He at E ⊢;split
  ·simp only[aA,LH];omega
  ·simp only[aA];omega
def Hf(s:AI)(d:AR)(A:List AG)(u:AF)(l:List Sl):He (bG s d A u l)<=aA Sl.size l+aA (λf:Af=>aA Sl.size f.O) d.ai:=by obtain⟨h1,_⟩:=Ea He II s d A u d.ai.length l ⟨[],[]⟩;unfold xG at h1;rw[show gD d ([]:List AF)=d.ai from List.filter_eq_self.2 Wa]at h1;have:He ([]:List AW)=0:=rfl;unfold bG;grind
def CC(Q:Sl->Prop)(out:List AW):Prop:=∀g∈out,g.O≠[]/\∀x∈g.O,Q x
def Hg{Q:Sl->Prop}{x:Sl}(Y:Q x):∀ {l:List AW},CC Q l->CC Q (kP x l)
 |[],_=>λg b=>by obtain rfl:=List.mem_singleton.1 b;simp_all
 |g::l,h=>by
  have b:=h g Wa;have E:=Hg Y (l:=l) λg' a=>h g' W5
  rw[kP];split
  ·intro g' a;rcases List.mem_cons.1 a with rfl|a
   ·exact⟨Wa,λy hy=>by
     rcases List.mem_append.1 hy with hy|hy
     ·exact b.2 y hy
     ·obtain rfl:=List.mem_singleton.1 hy;exact Y⟩
   ·exact h g' W5
  ·intro g' a;rcases List.mem_cons.1 a with rfl|a
   ·exact b
   ·exact E g' a
def S2(s:AI)(d:AR)(A:List AG)(u:AF)(Q:Sl->Prop)(hQ:∀x,Q x->∀y∈x.O,Q y)(hF:∀f∈d.ai,∀y∈f.O,Q y):∀(n N:Nat) (l:List Sl) (g:Gs),aA Sl.size l<=N->(∀x∈l,Q x)->CC Q g.out->CC Q (fV s d A u n l g).out:=by
 intro n;induction n with
 |zero=>
  intro N;induction N with
  |zero=>intro l g h hl a;cases l with
   |nil=>rw[fP];exact a
   |cons x l=>rw[aA]at h;have:=x.au;omega
  |succ N E=>intro l g h hl a;cases l with
   |nil=>rw[fP];exact a
   |cons x l=>
    rw[aA]at h;have Y:=x.ax;rw[gG];refine E l _ om (λy hy=>hl y (by simp[hy])) ?_;have h1:=Hg (hl x Wa) a;have h2:=E x.O g om (hQ x (hl x Wa)) a;unfold jS;repeat' split
    all_goals first|exact a|exact h1|exact h2|(exfalso;omega)
 |succ n b=>
  intro N;induction N with
  |zero=>intro l g h hl a;cases l with
   |nil=>rw[fP];exact a
   |cons x l=>rw[aA]at h;have:=x.au;omega
  |succ N E=>intro l g h hl a;cases l with
   |nil=>rw[fP];exact a
   |cons x l=>
    rw[aA]at h;have Y:=x.ax;rw[gG];refine E l _ om (λy hy=>hl y (by simp[hy])) ?_;have h1:=Hg (hl x Wa) a;have h2:=E x.O g om (hQ x (hl x Wa)) a;unfold jS;by_cases c:iV A x.ao=false
    ·rw[if_pos c];exact a
    rw[if_neg c];by_cases e:x.kind=0
    ·rw[if_pos e];exact h1
    rw[if_neg e];by_cases i:x.kind=1
    ·rw[if_pos i];by_cases j:x.name∈g.met
     ·rw[if_pos j];exact a
     rw[if_neg j];cases hf:iT d x.name with
     |none=>exact a
     |some f=>
      dsimp only;split
      ·exact b _ f.O ⟨g.met++[x.name],g.out⟩ (le_refl _) (hF f (jO hf).1) a
      ·exact a
    rw[if_neg i];split
    ·split
     ·exact h2
     ·exact a
    ·exact a
def Np(s:AI)(d:AR)(A:List AG)(u:AF)(Q:Sl->Prop)(hQ:∀x,Q x->∀y∈x.O,Q y)(hF:∀f∈d.ai,∀y∈f.O,Q y)(l:List Sl)(hl:∀x∈l,Q x):CC Q (bG s d A u l):=
 S2 s d A u Q hQ hF _ _ l ⟨[],[]⟩ (le_refl _) hl (λg a=>by cases a)
def LI(d:AR)(g:Gs):g.out.length<=qJ d g/\∀x∈g.out,x.O.length<=qJ d g:=by have h1:=aJ (size:=λg:AW=>g.O.length+1) (λ_=>om) g.out;refine⟨by unfold qJ xG Dm;omega,λx Y=> ?_⟩;have:=aN (size:=λg:AW=>g.O.length+1) Y;unfold qJ xG Dm;omega
def UT:Af:=⟨[],[],[],[]⟩
def cJ(d:AR)(name:AF):Af×Bool:=match iT d name with
 |some f=>(f,true)
 |none=>(UT,false)
def IJ:AC (.agg [.str [], .str [], .slice [] t1, .slice [] t2]) UT.C:=
 AC.agg (AA.cons (aG _) (AA.cons (aG _) (AA.cons (AC.no (aD _)) (AA.cons (AC.no (aD _)) (aD _)))))
def aAu(name:AF)(f:Af):AN prog 173 [f.C, .ab (.str name)] (.bool (f.name==name)):=by refine pEn 3 func173 ?_;refine .ac ?_;exact bW
def Vy(d:AR)(name:AF)(c:d.ai.length<=68719476736):AN prog 107 [d.C, .str name] (.tup [(cJ d name).1.C, .bool (cJ d name).2]):=by
 have X:=Hc d.ai 173 [.ab (.str name)] (λf=>f.name==name) om rfl (λf _=>aAu name f);refine pER [.cell 4 129, .tmp 5] func107 ?_;unfold cJ iT;rcases eV (λf:Af=>f.name==name) d.ai 0 with⟨a,b⟩|⟨j,hj,a,b⟩
 ·rw[a]at X;rw[b];refine .ac ?_;exact aI rfl (AC.tup (AA.cons IJ (aD _)))
 ·rw[a,zero_add]at X;rw[b];have x1:=aU (f:=Af.C) hj;refine .ac ?_;exact aO
def LJ:∀l:List AF,xN (l.map λx=>(AV.str x,AV.bool true))=true
 |[]=>rfl
 |x::l=>by rw[map_cons,xN];exact LJ l
theorem LK(k:AF):∀l:List AF,(vT k (l.map λx=>(AV.str x,AV.bool true))).getD (.bool false) = .bool (decide (k∈l))
 |[]=>by simp[vT]
 |x::l=>by
  rw[map_cons,vT];by_cases e:x=k
  ·simp_all
  ·rw[if_neg e,LK k l];grind
theorem OU{k:AF}:∀ {l:List AF},k∉l->Cf k (.bool true) (l.map λx=>(AV.str x,AV.bool true))=(l++[k]).map λx=>(AV.str x,AV.bool true)
 |[],_=>rfl
 |x::l,h=>by
  have h1:x≠k:=λe=>h (by simp[e])
  rw[map_cons,Cf,if_neg h1,OU (l:=l) (λh2=>h (by simp[h2]))];rfl
def LL{s:AI}{f:FuncId}{R:Gs}(hl:m.out.length<=R.out.length)
  (h:AQ prog f args (mI s d A u m) (λe σ'=> e = .ret (.tup [])/\σ'.B.take 2=nI s d A u R.met R.out.length/\σ'.T=iX R.out)):
  AQ prog f args (mI s d A u m) (λe σ'=> e = .ret (.tup [])/\σ'= mI s d A u R):=by
 refine kV (AQ.mono h λe a hh=>⟨.tup [],2,a.T.length,hh.1,le_refl _, ?_,rfl, ?_, ?_,rfl, ?_⟩)
 ·rw[hh.2.2,fC];show (iX m.out).length<=_;rw[fC];omega
 ·rw[hh.2.1,hh.2.2,fC];exact oO _ _ _ _ _ _ _ om
 ·rw[take_length,hh.2.2];exact jN _ _
 ·rw[take_length,hh.2.1,hh.2.2];rfl
def UU(s:AI)(d:AR)(A:List AG)(u:AF)(hs:s.size<=1048576)(y:d.ai.length<=1048576)(m R:Gs)(name:AF)(n:m.out.length<=R.out.length)
  (ha:name∈m.met->R=m) (hb:name∉m.met->(∀f,iT d name=some f->k9 s u f.on=false)->R=⟨m.met++[name],m.out⟩)
  (O:name∉m.met->∀f,iT d name=some f->k9 s u f.on=true->AQ prog 35 [.ptr 1 0, .slice (f.O.map Sl.C) .no] (mI s d A u ⟨m.met++[name],m.out⟩) (λe σ'=> e = .ret (.tup [])/\σ'= mI s d A u R)):
  AQ prog 81 [.ptr 1 0, .str name] (mI s d A u m) (λe σ'=> e = .ret (.tup [])/\σ'= mI s d A u R):=by
 have hf:=Vy d name om;have g:=LK name m.met;have b:=LJ m.met;have o:name∉m.met->∀(c:Ob) (B1:List Ob),List.set (.map (m.met.map λx=>(AV.str x,AV.bool true))::c::B1) 0 (.map (Cf name (.bool true) (m.met.map λx=>(AV.str x,AV.bool true)))) = .map ((m.met++[name]).map λx=>(AV.str x,AV.bool true))::c::B1:=λh c B1=>by rw[OU h];rfl
 refine LL n (cK [] func81 ?_);unfold cJ at hf;by_cases j:name∈m.met
 ·rw[decide_eq_true j]at g;rw[ha j];unfold mI nI o0
  repeat' first|refine .s1 ?_|(refine .q ?_ ?_<;>intro O)|refine bZ ?_|refine Cg underlying122 underlying9 rfl rfl rfl rfl b g ?_|fail
  exact⟨rfl,rfl,rfl⟩
 rw[decide_eq_false j]at g;have a:=o j;cases i:iT d name with
 |none=>
  rw[i]at hf;rw[hb j (λf hf=>by rw[i]at hf;cases hf)];unfold mI nI o0
  repeat' first|refine .s1 ?_|(refine .q ?_ ?_<;>intro O)|refine bZ ?_|refine Cg underlying122 underlying9 rfl rfl rfl rfl b g ?_|refine vU underlying122 underlying9 rfl rfl rfl rfl b (a _ _) ?_|fail
  exact⟨rfl,rfl,rfl⟩
 |some f=>
  rw[i]at hf;dsimp only at hf;have k:=Hd s u f.on om;cases p:k9 s u f.on with
  |false=>
   rw[p]at k;rw[hb j (λz l=>by rw[i]at l;cases l;exact p)];unfold mI nI o0
   repeat' first|refine .s1 ?_|(refine .q ?_ ?_<;>intro O)|refine bZ ?_|refine Cg underlying122 underlying9 rfl rfl rfl rfl b g ?_|refine vU underlying122 underlying9 rfl rfl rfl rfl b (a _ _) ?_|fail
   exact⟨rfl,rfl,rfl⟩
  |true=>
   rw[p]at k;have ht:=O j f i p;have r:(iX m.out).length<=(iX R.out).length:=by rw[fC,fC];omega
   have t:=oO s d A u (m.met++[name]) m.out.length (iX m.out).length X2;have v:=oO s d A u R.met R.out.length (iX R.out).length X2;have w:aE 2 (iX m.out).length [.ptr 1 0, .slice (f.O.map Sl.C) .no]=true:=Yb
   unfold mI at ht ⊢;unfold nI o0
   repeat' first|refine .s1 ?_|(refine .q ?_ ?_<;>intro O)|refine bZ ?_|refine Cg underlying122 underlying9 rfl rfl rfl rfl b g ?_|refine vU underlying122 underlying9 rfl rfl rfl rfl b (a _ _) ?_|refine dC ht r t (jN _ _) v (jN _ _) w ?_|fail
   exact⟨rfl,rfl,rfl⟩
def Bg(s:AI)(d:AR)(A:List AG)(u:AF)(n:Nat)(l:List Sl)(m:Gs):Prop:=
 (gD d m.met).length<=n->qJ d m+aA Sl.size l<=68719476736->
  AQ prog 35 [.ptr 1 0, .slice (l.map Sl.C) .no] (mI s d A u m) (λe σ'=> e = .ret (.tup [])/\σ'= mI s d A u (fV s d A u n l m))
def Dn(s:AI)(d:AR)(A:List AG)(u:AF):∀(n:Nat) (N:Nat) (l:List Sl) (g:Gs),aA Sl.size l<=N->g.out.length<=(fV s d A u n l g).out.length:=by
 intro n;induction n with
 |zero=>
  intro N;induction N with
  |zero=>intro l g h;cases l with
   |nil=>rw[fP];exact le_refl _
   |cons x l=>rw[aA]at h;have:=x.au;omega
  |succ N E=>intro l g h;cases l with
   |nil=>rw[fP];exact le_refl _
   |cons x l=>
    rw[aA]at h;have Y:=x.ax;rw[gG];refine Nat.le_trans ?_ (E l _ om);have h1:=xF x g.out;have h2:=E x.O g om;unfold jS;repeat' split
    all_goals first|exact le_refl _|exact h1|exact h2|(exfalso;omega)
 |succ n a=>
  intro N;induction N with
  |zero=>intro l g h;cases l with
   |nil=>rw[fP];exact le_refl _
   |cons x l=>rw[aA]at h;have:=x.au;omega
  |succ N E=>intro l g h;cases l with
   |nil=>rw[fP];exact le_refl _
   |cons x l=>
    rw[aA]at h;have Y:=x.ax;rw[gG];refine Nat.le_trans ?_ (E l _ om);have h1:=xF x g.out;have h2:=E x.O g om;have h3:=λf:Af=>a _ f.O ⟨g.met++[x.name],g.out⟩ (le_refl _)
    unfold jS;by_cases b:iV A x.ao=false
    ·rw[if_pos b];exact le_refl _
    rw[if_neg b];by_cases c:x.kind=0
    ·rw[if_pos c];exact h1
    rw[if_neg c];by_cases e:x.kind=1
    ·rw[if_pos e];by_cases i:x.name∈g.met
     ·rw[if_pos i];exact le_refl _
     rw[if_neg i];cases iT d x.name with
     |none=>exact le_refl _
     |some f=>
      dsimp only;split
      ·exact h3 f
      ·exact le_refl _
    rw[if_neg e];split
    ·split
     ·exact h2
     ·exact le_refl _
    ·exact le_refl _
def Qk{s:AI}(hk:x.kind=1)(hh:iV A x.ao=true)(h:x.name∈m.met):jS s d A u n x m=m:=by grind[jS]
def Nq{s:AI}(hk:x.kind=1)(hh:iV A x.ao=true)(h:x.name∉m.met)(hf:∀f,iT d x.name=some f->k9 s u f.on=false):
  jS s d A u n x m=⟨m.met++[x.name],m.out⟩:=by grind[jS]
theorem Ns{s:AI}(hk:x.kind=1)(hh:iV A x.ao=true)(h:x.name∉m.met)(hf:iT d x.name=some f)(ha:k9 s u f.on=true):
  jS s d A u (n+1) x m=fV s d A u n f.O ⟨m.met++[x.name],m.out⟩:=by grind[jS]
def Nt(s:AI)(d:AR)(A:List AG)(u:AF)(hs:s.size<=1048576)(g:d.ai.length<=1048576)(n:Nat)(i:∀k,n=k+1->∀l m,Bg s d A u k l m)
  (x:Sl) (m:Gs) (q:(gD d m.met).length<=n) (hp:qJ d m+x.size<=68719476736) (hk:x.kind=1) (hh:iV A x.ao=true):
  AQ prog 81 [.ptr 1 0, .str x.name] (mI s d A u m) (λe σ'=> e = .ret (.tup [])/\σ'= mI s d A u (jS s d A u n x m)):=by
 have b:m.out.length<=(jS s d A u n x m).out.length:=by
  have:=Dn s d A u n (aA Sl.size [x]) [x] m (le_refl _)
  rwa [gG,fP]at this
 refine UU s d A u hs g m _ x.name b (λh=>Qk hk hh h) (λh hf=>Nq hk hh h hf) (λh f hf c=> ?_);obtain⟨j,a⟩:=jO hf;have h1:=D9 d m.met j (by rw[a];exact h);have h2:=uT d m.met j (by rw[a];exact h) (λf:Af=>aA Sl.size f.O);rw[a]at h1 h2;have o:qJ d m=Dm m.out+aA (λf:Af=>aA Sl.size f.O) (gD d m.met):=rfl;have p:qJ d ⟨m.met++[x.name],m.out⟩=Dm m.out+aA (λf:Af=>aA Sl.size f.O) (gD d (m.met++[x.name])):=rfl;cases n with
 |zero=>omega
 |succ k=>rw[Ns hk hh h hf c];exact i k rfl f.O ⟨m.met++[x.name],m.out⟩ Wl om
def Nu(s:AI)(d:AR)(A:List AG)(u:AF)(hs:s.size<=1048576)(z:d.ai.length<=1048576)(he:A.length<=1048576)(n:Nat)(a3:∀k,n=k+1->∀l m,Bg s d A u k l m):
  ∀(N:Nat) (l:List Sl) (m:Gs),aA Sl.size l<=N->Bg s d A u n l m
 |N,l,m,hN=>λhu hp=>by
  have aj:=aJ Sl.au l;refine LL (Dn s d A u n _ l m (le_refl _)) (cK [] func35 ?_);refine .go ?_;change AB _ _ _ _ _ _ _;refine FL (λn' s' H=>∃k:Nat,n'= l.length-k/\k<=l.length/\H=mI s d A u (fV s d A u n (l.take k) m)/\s'= [(8, .int .i64 k),(7, .int .i64 l.length),(6, .slice (l.map Sl.C) .no),(0, .ptr 1 0)])
   (s0:=[(8, .int .i64 (0:Nat)),(7, .int .i64 l.length),(6, .slice (l.map Sl.C) .no),(0, .ptr 1 0)]) Z0 ⟨0,rfl,Nat.zero_le _,by rw[take_zero,fP],rfl⟩ ?_
  rintro n' s' H ⟨k,rfl,hk,rfl,rfl⟩;by_cases h1:k<l.length
  ·have d1:=ltT h1
   have x1:=aU (f:=Sl.C) h1;have o:=Nn s d A u n h1 m;obtain⟨p1,p2⟩:=LG s d A u n (l.take k) m;have al:=gO (f:=Sl.size) h1;have ak:=fO Sl.size l (k+1);have a1:=Dn s d A u n _ [l[k]] (fV s d A u n (l.take k) m) (le_refl _);rw[gG,fP, <-o]at a1;generalize aa:fV s d A u n (l.take k) m=st at *;generalize a6:fV s d A u n (l.take (k+1)) m=R at *;have am:=l[k].ax;have ai:aA Sl.size l[k].O<N:=om
   have a7:Bg s d A u n l[k].O st:=Nu s d A u hs z he n a3 (N-1) l[k].O st om;have t:=Nt s d A u hs z n a3 l[k] st om om;have ag:=aJ (size:=AM.size) (λd=>Xq) l[k].ao;generalize l[k]=x at *;have a0:=S0 A x.ao om om;obtain⟨o1,o2⟩:=LI d st;have a:=aAt s d A u st x om (λg hg=>by have:=o2 g hg;omega);have j:=Hd s u x.on om;have e:(iX st.out).length<=(iX R.out).length:=by rw[fC,fC];omega
   have p:=oO s d A u st.met st.out.length (iX st.out).length X2;have h:=oO s d A u R.met R.out.length (iX R.out).length X2;have fin:∀(B1:List Ob) (s1:AE),Av.Sub [(8, .int .i64 ((k+1:Nat):Int)),(7, .int .i64 l.length),(6, .slice (l.map Sl.C) .no),(0, .ptr 1 0)] s1->
     ∃m', m'< l.length-k/\∃s2 nB mT,(mI s d A u st).B.length<=nB/\(mI s d A u st).T.length<=mT/\Av.Sub s2 s1/\aM nB mT s2=true/\aQ nB mT ((nI s d A u R.met R.out.length++B1).take nB)=true/\aL nB mT ((iX R.out).take mT)=true/\
      ∃k': Nat,m'= l.length-k'/\ k'<= l.length/\(⟨(nI s d A u R.met R.out.length++B1).take nB,(iX R.out).take mT⟩:St)=mI s d A u (fV s d A u n (l.take k') m)/\s2=[(8, .int .i64 k'),(7, .int .i64 l.length),(6, .slice (l.map Sl.C) .no),(0, .ptr 1 0)]:=λB1 s1 a2=>by
    refine⟨l.length-(k+1),om,_,2,(iX R.out).length,le_refl _,e,a2,Wg,h,by rw[take_length];exact jN _ _,k+1,rfl,om, ?_,rfl⟩;rw[take_length,a6];rfl
   cases i:iV A x.ao with
   |false=>
    rw[i]at a0;have c:R=st:=by rw[o];unfold jS;rw[if_pos i]
    subst c;unfold mI nI o0;repeat' first|refine .s1 ?_|(refine .q ?_ ?_<;>intro O)|refine bZ ?_|fail
    exact fin _ _ Z0
   |true=>
    rw[i]at a0;by_cases v:x.kind=0
    ·have e1:(x.kind==0)=true:=by rw[v];rfl
     have c:R=⟨st.met,kP x st.out⟩:=by rw[o];unfold jS;rw[if_neg (by simp[i]),if_pos v]
     rw[<-c]at a;have b:aE 2 (iX st.out).length [.ptr 1 0,x.C]=true:=Yb
     unfold mI at a ⊢;unfold nI o0;repeat' first|refine .s1 ?_|(refine .q ?_ ?_<;>intro O)|refine bZ ?_|refine dC a e p (jN _ _) h (jN _ _) b ?_|fail
     exact fin _ _ Z0
    have e1:=beF v
    by_cases w:x.kind=1
    ·have e2:(x.kind==1)=true:=by rw[w];rfl
     have r:=t w i;rw[<-o]at r;have b:aE 2 (iX st.out).length [.ptr 1 0, .str x.name]=true:=Yb
     unfold mI at r ⊢;unfold nI o0;repeat' first|refine .s1 ?_|(refine .q ?_ ?_<;>intro O)|refine bZ ?_|refine dC r e p (jN _ _) h (jN _ _) b ?_|fail
     exact fin _ _ Z0
    have e2:=beF w
    by_cases y:x.kind=2
    ·have e3:(x.kind==2)=true:=by rw[y];rfl
     cases c4:k9 s u x.on with
     |true=>
      rw[c4]at j;have c:R=fV s d A u n x.O st:=by rw[o];unfold jS;rw[if_neg (by simp[i]),if_neg v,if_neg w,if_pos y,if_pos c4]
      have ht:=a7 om om;rw[<-c, <-x.bb]at ht;have b:aE 2 (iX st.out).length [.ptr 1 0, .slice x.sv .no]=true:=Yb
      unfold mI at ht ⊢;unfold nI o0;repeat' first|refine .s1 ?_|(refine .q ?_ ?_<;>intro O)|refine bZ ?_|refine dC ht e p (jN _ _) h (jN _ _) b ?_|fail
      exact fin _ _ Z0
     |false=>
      rw[c4]at j;have c:R=st:=by rw[o];unfold jS;rw[if_neg (by simp[i]),if_neg v,if_neg w,if_pos y,if_neg (by simp[c4])]
      subst c;unfold mI nI o0;repeat' first|refine .s1 ?_|(refine .q ?_ ?_<;>intro O)|refine bZ ?_|fail
      exact fin _ _ Z0
    ·have e3:=beF y
     have c:R=st:=by rw[o];unfold jS;rw[if_neg (by simp[i]),if_neg v,if_neg w,if_neg y]
     subst c;unfold mI nI o0;repeat' first|refine .s1 ?_|(refine .q ?_ ?_<;>intro O)|refine bZ ?_|fail
     exact fin _ _ Z0
  ·have d1:=ltF h1
   obtain rfl:k=l.length:=om
   rw[take_length];unfold mI nI o0;refine .go ?_;exact⟨rfl,rfl,rfl⟩
termination_by N=>N
def LM(s:AI)(d:AR)(A:List AG)(u:AF)(hs:s.size<=1048576)(a:d.ai.length<=1048576)(he:A.length<=1048576):∀(n:Nat) (l:List Sl) (m:Gs),Bg s d A u n l m
 |0,l,m=>Nu s d A u hs a he 0 (λk h=>om) _ l m (le_refl _)
 |n+1,l,m=>Nu s d A u hs a he (n+1) (λk h l m=>by obtain rfl:n=k:=om;exact LM s d A u hs a he n l m) _ l m (le_refl _)
def OV(B:List Ob)(v:AV):∀(done C:List AW),
  AJ ⟨B, .Y (done.map AW.C++cT done.length C)::(done.map (λg=>Tok.len (g.O.length+1))++C.map λg=>Tok.Y (g.O.map Sl.C))⟩ v
   ⟨B, .Y ((done++C).map AW.C)::(done++C).map (λg=>Tok.len (g.O.length+1))⟩ v
 |done,[]=>by
  rw[cT,List.map_nil,append_nil,append_nil,append_nil]
  exact eU _ _
 |done,g::C=>by
  have E:=OV B v (done++[g]) C
  refine AJ.trans ?_ (by rw[append_assoc]at E;exact E)
  have a:(done.map AW.C).length=done.length:=length_map _
  have b:(done.map (λg=>Tok.len (g.O.length+1))).length=done.length:=length_map _
  have Y:(done.map AW.C++cT done.length (g::C))[done.length]? =some (z8 done.length g):=by
   rw[List.getElem?_append_right om,a,sub_self,cT];rfl
  have ht:(Tok.Y (done.map AW.C++cT done.length (g::C))::(done.map (λg=>Tok.len (g.O.length+1))++(g::C).map λg=>Tok.Y (g.O.map Sl.C)))[done.length+1]? =some (.Y (g.O.map Sl.C)):=by
   rw[List.getElem?_cons_succ,List.getElem?_append_right om,b,sub_self];rfl
  have d:=b6 (H:=⟨B,Tok.Y (done.map AW.C++cT done.length (g::C))::(done.map (λg=>Tok.len (g.O.length+1))++(g::C).map λg=>Tok.Y (g.O.map Sl.C))⟩)
   (k:=done.length+1) (z:=7) (n:=g.O.length) (lo:=0) (X:=g.O.length) ht (length_map _) (gN Wa)
  rw[drop_zero,List.take_of_length_le Wa]at d
  have e:=cU (z0:=v) (k:=0) (i:=done.length) (c:=1) rfl Y rfl d rfl (gN Wa)
  have e1:∀(n:Nat) (y:AV),(done.map AW.C++cT n (g::C)).set done.length y=done.map AW.C++(y::cT (n+1) C):=λn y=>by
   rw[List.set_append,if_neg om,a,sub_self,cT];rfl
  have f:∀(y:Tok),(done.map (λg=>Tok.len (g.O.length+1))++(g::C).map λg=>Tok.Y (g.O.map Sl.C)).set done.length y=done.map (λg=>Tok.len (g.O.length+1))++(y::C.map λg=>Tok.Y (g.O.map Sl.C)):=λy=>by
   rw[List.set_append,if_neg om,b,sub_self]
   rfl
  rw[List.set_cons_succ,f,List.set_cons_zero,e1]at e
  rw[map_append,map_append,append_assoc,append_assoc,length_append]
  exact e
def OW(s:AI)(d:AR)(A:List AG)(u:AF)(l:List Sl)(hs:s.size<=1048576)(o:aA (λf:Af=>aA Sl.size f.O) d.ai+aA Sl.size l<=68719476736)(i:d.ai.length<=1048576)(he:A.length<=1048576):
  AN prog 10 [s.C,d.C, .slice (A.map AG.C) .no, .str u, .slice (l.map Sl.C) .no] (.slice ((bG s d A u l).map AW.C) .no):=by
 have c:=LM s d A u hs i he d.ai.length l ⟨[],[]⟩ (List.length_filter_le _ _) (by
  have:qJ d ⟨[],[]⟩=aA (λf:Af=>aA Sl.size f.O) d.ai:=by unfold qJ xG;rw[show gD d []=d.ai from List.filter_eq_self.2 Wa];simp[Dm,aA]
  omega)
 unfold bG;have b:(iX ([]:List AW)).length<=(iX (fV s d A u d.ai.length l ⟨[],[]⟩).out).length:=by rw[fC,fC];simp
 generalize fV s d A u d.ai.length l ⟨[],[]⟩=R at *
 have e:=oO s d A u [] 0 (iX []).length X2;have h:=oO s d A u R.met R.out.length (iX R.out).length X2;have m:aE 2 (iX []).length [.ptr 1 0, .slice (l.map Sl.C) .no]=true:=Yb
 unfold mI at c;have j:=OV (nI s d A u R.met R.out.length++[]) (.Y 0 2 R.out.length 0 R.out.length) [] R.out;have a:=b6 (H:=⟨nI s d A u R.met R.out.length++[], .Y (R.out.map AW.C)::R.out.map (λg=>Tok.len (g.O.length+1))⟩) (k:=0) (z:=2) (n:=R.out.length) (lo:=0) (X:=R.out.length) rfl (length_map _) rfl;rw[drop_zero,List.take_of_length_le Wa]at a;refine jI WM YE (cK [10] func10 ?_)
 repeat' first|refine AD.bx (v := .agg [_,_,_,_,_,_,_,_, .map 0]) ?_|refine .br ?_|refine f8 1 7 rfl rfl (kE (z:=2) rfl rfl rfl) rfl ?_|refine .s1 ?_|(refine .q ?_ ?_<;>intro O)|refine O6 rfl rfl ?_|refine bZ ?_|refine dC (B:=[]) c b e (jN _ _) h (jN _ _) m ?_|fail
 exact⟨_,_,rfl,AJ.trans j a⟩
def S3(l:List Sl)(hl:aA Sl.size l<=68719476736):AN prog 66 [.slice (l.map Sl.C) .no] (.slice ((bM l).map Sl.C) .no):=by
 have g:=aJ Sl.au l;have b:∀k,k<=l.length->(bM (l.take k)).length<=aA Sl.size (l.take k):=λk _=>by
  generalize l.take k=q;induction q with
  |nil=>simp[bM,aA]
  |cons x q E=>
   have h1:=aJ Sl.au x.O;have h2:=x.ax;have h3:bM (x::q)=x.O++bM q:=by simp[bM]
   rw[h3,length_append,aA];omega
 refine pEn 2 func66 ?_;refine .go ?_;change AB _ _ _ _ _ _ _;refine eJ 3 true 7 rfl ?_;refine bK l.length (λk=>[(8, .int .i64 k),(7, .int .i64 l.length),(6, .slice (l.map Sl.C) .no),(3, .slice ((bM (l.take k)).map Sl.C) (.own 0 7))]) (λk=>⟨[],[.len (bM (l.take k)).length]⟩) (λ_=>True) Z0 λk hk _=> ?_
 by_cases h1:k<l.length
 ·have d:=ltT h1;have x1:=aU (f:=Sl.C) h1;have hb:bM (l.take (k+1))=bM (l.take k)++l[k].O:=by rw[List.take_succ_eq_append_getElem h1];unfold bM;rw[List.flatMap_append,List.flatMap_cons,List.flatMap_nil,append_nil]
  have e:=b k om;have j:=fO Sl.size l k;have m:=aN (size:=Sl.size) (getElem_mem h1);have i:=aJ Sl.au l[k].O;have h:=l[k].ax;have a:=l[k].cj;have c:=l[k].bb;generalize l[k]=x at *
  repeat' first|refine .s1 ?_|(refine .q ?_ ?_<;>intro O)|refine bU (n:=(bM (l.take k)).length) (hf:=by rw[c];exact FT _) (hb:=by rw[a];dsimp only;omega) (hb':= by rw[a];omega) (length_map _) ?_|fail
  refine⟨h1,⟨rfl,rfl,rfl, ?_,trivial⟩,WI,WC, ?_,trivial⟩
  ·rw[hb,map_append, <-c];rfl
  ·rw[hb,length_append, <-a];rfl
 ·have d:=ltF h1;obtain rfl:k=l.length:=om
  rw[take_length];refine .go ?_;exact aP rfl (AC.no (aD _))
def mkE(s:AI)(wr within:Bool)(A:List AG):AV := .agg [.slice (s.ah.map Ag.C) .no, .str s.query, .str s.ar, .bool wr, .bool within, .slice (A.map AG.C) .no]
theorem eA(s:AI)(wr within:Bool)(A:List AG):(mkE s wr within A).K=true:=by simp[mkE,AV.K,aB,dS,aT]
def VE.C(x:AH×Int):AV := .tup [x.1.C, .int .i64 x.2]
theorem VE.K(x:AH×Int):(VE.C x).K=true:=by simp[VE.C,AV.K,aB,AH.K]
def bP:AC (.tup [.agg [.int .i64 0, .int .i64 0, .str [], .slice [] t1, .slice [] t2], .int .i64 e]) (VE.C (bO,e)):=AC.tup (AA.cons cE (aD _))
theorem kH(name:AF):∀A:List AG,bR name A=match oF A name with|some x=>(x,true)|none=>(bO,false)
 |[]=>rfl
 |m::l=>by
  have E:=kH name l
  unfold oF at E ⊢
  rw[bR,find?_cons]
  cases c:m.name==name with
  |true=>simp
  |false=>simp only[Bool.false_eq_true,if_false];exact E
def S4(s:AI)(wr within:Bool)(A:List AG)(v:AH)(he:A.length<=9223372036854775807):AN prog 292 [mkE s wr within A,v.C] (.bool (fX wr A v)):=by
 have c:=get v.s A he;rw[kH]at c;refine pEn 4 func292 (ha:=by simp[AV.K,aB,eA,AH.K]) ?_;unfold fX;cases wr with
 |false=>refine .ac ?_;exact bW
 |true=>
  by_cases b:v.kind=8
  ·have e:=bnF b;have a:(v.kind==8)=true:=by simp[b]
   rw[a];cases d:oF A v.s with
   |none=>rw[d]at c;refine .ac ?_;exact bW
   |some x=>rw[d]at c;refine .ac ?_;exact bW
  ·have e:=bnT b;have a:(v.kind==8)=false:=by simp[b]
   rw[a];refine .ac ?_;exact bW
def UV(name:AF)(v:AH)(h0 : -9223372036854775808<=v.n)(h1:v.n<=9223372036854775807):AN prog 332 [.str name,v.C] (VE.C (oU name v)):=by
 have X:=Iy v.n h0 h1;have ht:=Hv (Lib.itoa v.n);refine pER [.cell 4 43, .tmp 5] func332 (O:=VE.K _) ?_;unfold oU;have w:∀ {b c d e:Bool},True:=trivial;by_cases f:v.kind=2
 ·have x:=beT f;have u:(v.kind==1)=false:=by simp[f]
  have t:(v.kind==4)=false:=by simp[f]
  by_cases i:name=C8
  ·have j:(name==[73,110,116])=true:=by rw[i];rfl
   have m:(name==[73,68])=false:=YB
   by_cases hr:v.n < -2147483648
   ·have y:=decide_eq_true hr;rw[if_pos ⟨i,f, .inl hr⟩];refine .ac ?_;exact aI rfl bP
   ·have y:=decide_eq_false hr;by_cases g:2147483647<v.n
    ·have z:=decide_eq_true g;rw[if_pos ⟨i,f, .inr g⟩];refine .ac ?_;exact aI rfl bP
    ·have z:=decide_eq_false g;rw[if_neg (λh=>h.2.2.elim hr g),if_neg (λh=>by rw[i]at h;exact absurd h.1 Wc),if_pos (.inl ⟨i,f⟩)];refine .ac ?_;exact aO
  ·have j:(name==[73,110,116])=false:=by simpa [C8]using i
   rw[if_neg (λh=>i h.1)];by_cases a:name=sID
   ·have k:(name==[73,68])=true:=by rw[a];rfl
    rw[if_pos ⟨a,f⟩];refine .ac ?_;exact aO
   ·have k:(name==[73,68])=false:=by simpa [sID]using a
    rw[if_neg (λh=>a h.1),if_neg (by rintro (h|h|h)<;>first|exact i h.1|omega)];cases b4:(name==[66,111,111,108,101,97,110])<;>cases p:(name==[83,116,114,105,110,103])
    all_goals
     refine .ac ?_;exact aI rfl bP
 ·have x:=beF f;rw[if_neg (λh=>f h.2.1),if_neg (λh=>f h.2)];by_cases q:v.kind=1
  ·have u:=beT q;have t:(v.kind==4)=false:=by simp[q]
   by_cases o:name=iB
   ·have j:(name==[73,110,116])=false:=by rw[o];rfl
    have m:(name==[66,111,111,108,101,97,110])=true:=by rw[o];rfl
    have k:(name==[73,68])=false:=by rw[o];rfl
    rw[if_pos (.inr (.inl ⟨o,q⟩))];refine .ac ?_;exact aO
   ·have m:(name==[66,111,111,108,101,97,110])=false:=by simpa [iB]using o
    rw[if_neg (by rintro (h|h|h)<;>first|exact o h.1|omega)];cases j:(name==[73,110,116])<;>cases k:(name==[73,68])<;>cases p:(name==[83,116,114,105,110,103])
    all_goals
     refine .ac ?_;exact aI rfl bP
  ·have u:=beF q;by_cases r:v.kind=4
   ·have t:=beT r;by_cases l:name=cW
    ·have j:(name==[73,110,116])=false:=by rw[l];rfl
     have m:(name==[66,111,111,108,101,97,110])=false:=by rw[l];rfl
     have k:(name==[73,68])=false:=by rw[l];rfl
     have p:(name==[83,116,114,105,110,103])=true:=by rw[l];rfl
     rw[if_pos (.inr (.inr ⟨.inl l,r⟩))];refine .ac ?_;exact aO
    ·have p:(name==[83,116,114,105,110,103])=false:=by simpa [cW]using l
     by_cases a:name=sID
     ·have j:(name==[73,110,116])=false:=by rw[a];rfl
      have m:(name==[66,111,111,108,101,97,110])=false:=WD
      have k:(name==[73,68])=true:=WD
      rw[if_pos (.inr (.inr ⟨.inr a,r⟩))];refine .ac ?_;exact aO
     ·have k:(name==[73,68])=false:=by simpa [sID]using a
      rw[if_neg (by rintro (h|h|h)<;>first|exact h.1.elim l a|omega)];cases j:(name==[73,110,116])<;>cases m:(name==[66,111,111,108,101,97,110])
      all_goals
       refine .ac ?_;exact aI rfl bP
   ·have t:=beF r;rw[if_neg om];cases j:(name==[73,110,116])<;>cases m:(name==[66,111,111,108,101,97,110])<;>cases k:(name==[73,68])<;>cases p:(name==[83,116,114,105,110,103])
    all_goals
     refine .ac ?_;exact aI rfl bP
def aCv(s:AI)(wr within:Bool)(A:List AG)(d:Ag)(v:AH)(b:d.aw.length<=9223372036854775807):AN prog 333 [mkE s wr within A,d.C,v.C] (VE.C (uI wr d v.kind v.s)):=by
 have O:=gS d.aw v.s b;have ht:=Hv v.s;refine pER [.cell 6 43, .tmp 7] func333 (O:=VE.K _) (ha:=by simp[AV.K,aB,eA,Ag.K,AH.K]) ?_;unfold uI;by_cases a:v.s∈d.aw
 ·rw[decide_eq_true a]at O;cases wr with
  |true=>
   by_cases k:v.kind=5
   ·have q:=bnF k;rw[if_pos ⟨by rw[if_pos rfl];exact k,a⟩];refine .ac ?_;exact aO
   ·have q:=bnT k;rw[if_neg (λh=>k (by have:=h.1;rwa [if_pos rfl]at this))];refine .ac ?_;exact aI rfl bP
  |false=>
   by_cases k:v.kind=4
   ·have q:=bnF k;rw[if_pos ⟨by rw[if_neg Wc];exact k,a⟩];refine .ac ?_;exact aO
   ·have q:=bnT k;rw[if_neg (λh=>k (by have:=h.1;rwa [if_neg Wc]at this))];refine .ac ?_;exact aI rfl bP
 ·rw[decide_eq_false a]at O;rw[if_neg (λh=>a h.2)];cases wr with
  |true=>
   cases q:(v.kind != 5)
   all_goals
    refine .ac ?_;exact aI rfl bP
  |false=>
   cases q:(v.kind != 4)
   all_goals
    refine .ac ?_;exact aI rfl bP
theorem uU(s:AI)(wr:Bool)(A:List AG)(dfl:AO->VE)(nm:AF):∀m:List AG,zW (mkM s wr A dfl m) nm=(m.find? λx=>x.name==nm).map λx=>(x.name,x.v,λt=>qC s wr A dfl t x.v)
 |[]=>by rw[mkM];rfl
 | .mk n v::m=>by
  have E:=uU s wr A dfl nm m
  unfold zW at E ⊢
  rw[mkM,find?_cons,find?_cons]
  show (match n==nm with|true=>_|false=>_)=Option.map _ (match n==nm with|true=>_|false=>_)
  cases n==nm with
  |true=>rfl
  |false=>exact E
def LN(s:AI)(within:Bool)(dfl:AO->VE)(p:AO):AH×Bool×Int:=
 if p.has=true/\(within=false\/eC s p.t.name=true) then ((dfl p).1,true,(dfl p).2) else if isT p.t=true then (bO,false,9) else (bO,false,0)
theorem Hh{s:AI}{within:Bool}{g:List AG}{dfl D:AO->VE}{p:AO}(h:oF g p.name=none):oY s wr within A D (mkM s wr A dfl g) p=LN s within D p:=by unfold oY LN;rw[uU];unfold oF at h;rw[Option.map_eq_none_iff]at h;rw[h];rfl
theorem Hi{s:AI}{within:Bool}{g:List AG}{dfl D:AO->VE}{p:AO}{x:AH}(h:oF g p.name=some x):oY s wr within A D (mkM s wr A dfl g) p=if fX wr A x=true then ((qC s wr A dfl p.t x).1,true,(qC s wr A dfl p.t x).2) else LN s within D p:=by
 unfold oY LN;rw[uU];unfold oF at h;rw[Option.map_eq_some_iff]at h;obtain⟨m,h1,rfl⟩:=h;rw[h1];simp only[Option.map_some,Option.bind_some];by_cases c:fX wr A m.v=true
 ·rw[if_pos c,if_pos c]
 ·rw[if_neg c,if_neg c]
def M3.C(x:AH×Bool×Int):AV := .tup [x.1.C, .bool x.2.1, .int .i64 x.2.2]
theorem M3.K(x:AH×Bool×Int):(M3.C x).K=true:=by simp[M3.C,AV.K,aB,AH.K]
def yI{b:Bool}:AC (.tup [.agg [.int .i64 0, .int .i64 0, .str [], .slice [] t1, .slice [] t2], .bool b, .int .i64 e]) (M3.C (bO,b,e)):=AC.tup (AA.cons cE (aD _))
def Do(s:AI)(t:Tk):AC (.agg [.slice (s.ah.map Ag.C) .no, .str s.query, .str s.ar, .bool true, .bool false, .slice [] t]) (mkE s true false []):=
 AC.agg (AA.cons (aG _) (AA.cons (aG _) (AA.cons (aG _) (AA.cons (aG _) (AA.cons (aG _) (AA.cons (AC.no (aD _)) (aD _)))))))
def OX(s:AI)(hs:s.size<=68719476736)(wr within:Bool)(A g:List AG)(dfl D:AO->VE)(p:AO)(he:A.length<=68719476736)(w:g.length<=68719476736)(hp:p.t.name.length<=68719476736)
  (u:∀x∈g,AN prog 293 [mkE s wr within A,p.t.C,x.v.C] (VE.C (qC s wr A dfl p.t x.v)))
  (k:p.has=true->(within=false\/eC s p.t.name=true)->AN prog 293 [mkE s true false [],p.t.C,p.d.C] (VE.C (D p))):
  AN prog 245 [mkE s wr within A,p.C, .slice (g.map AG.C) .no] (M3.C (oY s wr within A D (mkM s wr A dfl g) p)):=by
 have o:=get p.name g om;have b:=Sy s p.t.name hs;have X:=wIs p.t om;rw[kH]at o;refine pER [.cell 6 43, .tmp 7, .tmp 8] func245 (O:=M3.K _) (ha:=by simp[AV.K,aB,eA,AO.K,aT]) ?_;cases h:oF g p.name with
 |none=>
  rw[Hh h];rw[h]at o;unfold LN;cases i:p.has with
  |false=>
   rw[if_neg Wa];cases f:isT p.t<;>rw[f]at X
   all_goals
    refine .ac ?_;exact aI rfl yI
  |true=>
   cases within with
   |false=>
    rw[if_pos ⟨rfl, .inl rfl⟩];have a:=k i (.inl rfl);generalize D p=r at a;obtain⟨n,l⟩:=r;unfold VE.C at a;simp only at a
    repeat' first|refine .br ?_|refine .s1 ?_|(refine .q ?_ ?_<;>intro O)|refine aH (hw:=AA.cons (Do s _) (aD _)) a ?_|fail
    exact aO
   |true=>
    cases e:eC s p.t.name with
    |true=>
     rw[e]at b;rw[if_pos ⟨rfl, .inr rfl⟩];have a:=k i (.inr e);generalize D p=r at a;obtain⟨n,l⟩:=r;unfold VE.C at a;simp only at a
     repeat' first|refine .br ?_|refine .s1 ?_|(refine .q ?_ ?_<;>intro O)|refine aH (hw:=AA.cons (Do s _) (aD _)) a ?_|fail
     exact aO
    |false=>
     rw[e]at b;rw[if_neg Wa];cases f:isT p.t<;>rw[f]at X
     all_goals
      refine .ac ?_;exact aI rfl yI
 |some x=>
  rw[Hi h];rw[h]at o;have j:=S4 s wr within A x om;cases c:fX wr A x with
  |true=>
   rw[c]at j;rw[if_pos rfl];have Y:∃m∈g,m.v=x:=by unfold oF at h;rw[Option.map_eq_some_iff]at h;obtain⟨m,h1,h2⟩:=h;exact⟨m,List.mem_of_find?_eq_some h1,h2⟩
   obtain⟨m,y,rfl⟩:=Y;have ha:=u m y;generalize qC s wr A dfl p.t m.v=r at ha;obtain⟨n,l⟩:=r;unfold VE.C at ha;simp only at ha;refine .ac ?_;exact aO
  |false=>
   rw[c]at j;rw[if_neg Wc];unfold LN;cases i:p.has with
   |false=>
    rw[if_neg Wa];cases f:isT p.t<;>rw[f]at X
    all_goals
     refine .ac ?_;exact aI rfl yI
   |true=>
    cases within with
    |false=>
     rw[if_pos ⟨rfl, .inl rfl⟩];have a:=k i (.inl rfl);generalize D p=r at a;obtain⟨n,l⟩:=r;unfold VE.C at a;simp only at a
     repeat' first|refine .br ?_|refine .s1 ?_|(refine .q ?_ ?_<;>intro O)|refine aH (hw:=AA.cons (Do s _) (aD _)) a ?_|fail
     exact aO
    |true=>
     cases e:eC s p.t.name with
     |true=>
      rw[e]at b;rw[if_pos ⟨rfl, .inr rfl⟩];have a:=k i (.inr e);generalize D p=r at a;obtain⟨n,l⟩:=r;unfold VE.C at a;simp only at a
      repeat' first|refine .br ?_|refine .s1 ?_|(refine .q ?_ ?_<;>intro O)|refine aH (hw:=AA.cons (Do s _) (aD _)) a ?_|fail
      exact aO
     |false=>
      rw[e]at b;rw[if_neg Wa];cases f:isT p.t<;>rw[f]at X
      all_goals
       refine .ac ?_;exact aI rfl yI
abbrev R3:=AH×Bool×Int
def gP(R:AO->R3):List AO->List AG×Int
 |[]=>([],0)
 |p::ps=>if (R p).2.2≠0 then ([],(R p).2.2) else if (gP R ps).2≠0 then ([],(gP R ps).2) else (if (R p).2.1=true then .mk p.name (R p).1::(gP R ps).1 else (gP R ps).1,0)
theorem sU(s:AI)(wr within:Bool)(A:List AG)(dfl:AO->VE)(a:List MF):∀ps:List AO,lA s wr within A dfl a ps=gP (oY s wr within A dfl a) ps
 |[]=>rfl
 |p::ps=>by
  have E:=sU s wr within A dfl a ps
  rw[lA,gP,E]
def dZ(R:AO->R3):List AO->List AG
 |[]=>[]
 |p::ps=>(if (R p).2.1=true then [.mk p.name (R p).1] else [])++dZ R ps
theorem pN(R:AO->R3):∀a b:List AO,dZ R (a++b)=dZ R a++dZ R b
 |[],b=>rfl
 |p::a,b=>by rw[cons_append,dZ,dZ,pN R a b,append_assoc]
def sV(R:AO->R3):∀a:List AO,(dZ R a).length<=a.length
 |[]=>le_refl _
 |p::a=>by
  have:=sV R a
  rw[dZ,length_append,length_cons]
  split<;>simp<;>omega
theorem Ql(R:AO->R3):∀l,(gP R l).2≠0->(gP R l).1=[]
 |[],_=>rfl
 |p::l,h=>by
  rw[gP]at h ⊢
  by_cases c:(R p).2.2≠0
  ·rw[if_pos c]
  ·rw[if_neg c]at h ⊢
   by_cases d:(gP R l).2≠0
   ·rw[if_pos d]
   ·rw[if_neg d]at h;exact absurd rfl h
def vB(R:AO->R3)(l:List AO)(k:Nat):Prop:=
 gP R l=if (gP R (l.drop k)).2≠0 then ([],(gP R (l.drop k)).2) else (dZ R (l.take k)++(gP R (l.drop k)).1,0)
def uV(R:AO->R3)(l:List AO):vB R l 0:=by
 unfold vB;rw[drop_zero,take_zero,dZ,List.nil_append];by_cases h:(gP R l).2≠0
 ·rw[if_pos h, <-Ql R l h]
 ·rw[if_neg h];have a:(gP R l).2=0:=by simpa using h
  rw[<-a]
section
variable {R:AO->R3} {l:List AO} {k:Nat} (h:k<l.length) (hj:vB R l k)
include h hj
theorem yJ(he:(R l[k]).2.2≠0):gP R l=([],(R l[k]).2.2):=by
 unfold vB at hj;have e:gP R (l.drop k)=([],(R l[k]).2.2):=by rw[List.drop_eq_getElem_cons h,gP,if_pos he]
 rw[hj,e,if_pos he]
theorem uW(he:(R l[k]).2.2=0):vB R l (k+1):=by
 unfold vB at hj ⊢;have e:gP R (l.drop k)=if (gP R (l.drop (k+1))).2≠0 then ([],(gP R (l.drop (k+1))).2) else (if (R l[k]).2.1=true then .mk l[k].name (R l[k]).1::(gP R (l.drop (k+1))).1 else (gP R (l.drop (k+1))).1,0):=by rw[List.drop_eq_getElem_cons h,gP,if_neg (by rw[he];simp)]
 rw[hj,e,List.take_succ_eq_append_getElem h,pN];generalize gP R (l.drop (k+1))=q;obtain⟨d,a⟩:=q;by_cases c:a=0
 ·subst c;cases b:(R l[k]).2.1<;>simp[dZ,b]
 ·simp[c]
end
theorem yK{R:AO->R3}{l:List AO}(hj:vB R l l.length):gP R l=(dZ R l,0):=by unfold vB at hj;rw[List.drop_length,take_length,gP,if_neg Wa,append_nil]at hj;exact hj
def n9{t1 t2:Nat}{s:AE}{a b r:AV}(h1:lk? s t1=some a)(h2:lk? s t2=some b)(hw:AC (.tup [a,b]) r):∃c,Av.ret (gK s [t1,t2]) = .ret c/\AC c r:=
 ⟨_,rfl,Wq⟩
def LP(s:AI)(wr within:Bool)(A g:List AG)(ps:List AO)(R:AO->R3)(t:ps.length<=68719476736)
  (o:∀p∈ps,AN prog 245 [mkE s wr within A,p.C, .slice (g.map AG.C) .no] (M3.C (R p))):
  AN prog 180 [mkE s wr within A, .slice (ps.map AO.C) .no, .slice (g.map AG.C) .no] (.tup [.slice ((gP R ps).1.map AG.C) .no, .int .i64 (gP R ps).2]):=by
 refine AQ.plain XK (by simp[AV.K,aB,eA,b9,aT]) (cK [6,7] func180 ?_);refine .ac ?_;refine eJ 8 true 6 rfl ?_;refine bK (hj:=uV R ps) ps.length (λk=>[(16, .int .i64 k),(15, .int .i64 ps.length),(14, .slice (ps.map AO.C) .no),(2, .slice (g.map AG.C) .no),(3, .ab (mkE s wr within A)),(8, .slice ((dZ R (ps.take k)).map AG.C) (.own 0 6))]) (λk=>⟨[],[.len (dZ R (ps.take k)).length]⟩) (vB R ps) Z0 λk hk hj=> ?_
 by_cases h1:k<ps.length
 ·have l:=ltT h1;have x1:=aU (f:=AO.C) h1;have e:=o ps[k] (getElem_mem h1);have h:=yJ h1 hj;have i:=uW h1 hj;have d:=sV R (ps.take k);rw[List.length_take]at d;have a:dZ R (ps.take (k+1))=dZ R (ps.take k)++(if (R ps[k]).2.1=true then [.mk ps[k].name (R ps[k]).1] else []):=by rw[List.take_succ_eq_append_getElem h1,pN,dZ,dZ,append_nil]
  generalize R ps[k]=r at e h i a;obtain⟨u,rb,j⟩:=r;unfold M3.C at e;simp only at e h i a;by_cases c:j=0
  ·subst c;have b:=i rfl;cases rb with
   |true=>
    rw[if_pos rfl]at a
    repeat' first|refine .s1 ?_|(refine .q ?_ ?_<;>intro O)|refine bU (n:=(dZ R (ps.take k)).length) (length_map ..) ?_|fail
    exact⟨h1,⟨rfl,rfl,rfl,rfl,rfl,by rw[a,map_append];rfl,trivial⟩,Xz,Wf,by rw[a,length_append];rfl,b⟩
   |false=>rw[if_neg Wc,append_nil]at a;refine .go ?_;exact⟨h1,⟨rfl,rfl,rfl,rfl,rfl,WD,trivial⟩,Xz,Wf,WD,b⟩
  ·have m:(j != 0)=true:=by simpa using c
   rw[h c];refine .go ?_;exact n9 rfl rfl (AC.tup (AA.cons (AC.no (aD _)) (aD _)))
 ·have l:=ltF h1;obtain rfl:k=ps.length:=om
  rw[yK hj];refine .go ?_;refine n9 rfl rfl (AC.tup (AA.cons (AC.no (AA.eq ?_)) (aD _)));rw[take_length]
def gQ(wr:Bool)(A m:List AG)(ps:List AO)(x:AG):Bool:=(sD ps x.name).isNone&&(match oF m x.name with|some y=>fX wr A y|none=>false)
theorem Hj(s:AI)(wr:Bool)(A:List AG)(dfl:AO->VE)(m:List AG)(ps:List AO):Fg wr A (mkM s wr A dfl m) ps=m.any (gQ wr A m ps):=by
 unfold Fg gQ;have a:∀l:List AG,(mkM s wr A dfl l).any (λf=>(sD ps f.1).isNone&&(match zW (mkM s wr A dfl m) f.1 with|some g=>fX wr A g.2.1|none=>false))=l.any (λx=>(sD ps x.name).isNone&&(match oF m x.name with|some y=>fX wr A y|none=>false)):=by
  intro l;induction l with
  |nil=>rw[mkM];rfl
  |cons x l E=>
   obtain⟨n,v⟩:=x;rw[mkM,List.any_cons,List.any_cons,E]
   congr 1
   show ((sD ps n).isNone&&_)=((sD ps n).isNone&&_)
   congr 1
   show (match zW (mkM s wr A dfl m) n with|some g=>fX wr A g.2.1|none=>false)=(match oF m n with|some y=>fX wr A y|none=>false);rw[uU];unfold oF;cases m.find? (λx=>x.name==n)<;>rfl
 exact a m
def LQ{m:List AG}{x:AG}(h:x∈m):∃y,oF m x.name=some y:=by
 unfold oF;cases e:m.find? (λz=>z.name==x.name) with
 |none=>have:=List.find?_eq_none.1 e x h;simp at this
 |some z=>exact⟨z.v,rfl⟩
def EU{l:List AG}:AC (.agg [.int .i64 7, .int .i64 0, .str [], .slice [] t1, .slice (l.map AG.C) t2]) (AH.mk 7 0 [] [] l).C:=by unfold AH.C;rw[AH.bf,sC];exact AC.agg (AA.cons (aG _) (AA.cons (aG _) (AA.cons (aG _) (AA.cons (AC.no (aD _)) (AA.cons (AC.no (aD _)) (aD _))))))
def aAv(s:AI)(wr within:Bool)(A:List AG)(d:Ag)(v:AH)(r:List AG×Int)(he:A.length<=68719476736)(hv:v.size<=68719476736)(z:d.params.length<=68719476736)
  (w:AN prog 180 [mkE s wr true A, .slice (d.params.map AO.C) .no, .slice v.mv .no] (.tup [.slice (r.1.map AG.C) .no, .int .i64 r.2])):
  AN prog 334 [mkE s wr within A,d.C,v.C] (VE.C (if v.kind=7 then (if v.m.any (gQ wr A v.m d.params)=true then (bO,6) else if r.2≠0 then (bO,r.2) else (.mk 7 0 [] [] r.1,0)) else (bO,7))):=by
 have x:=v.b3;refine pER [.cell 6 43, .tmp 7] func334 (O:=VE.K _) (ha:=by simp[AV.K,aB,eA,Ag.K,AH.K]) ?_;by_cases j:v.kind=7
 ·have q7:=bnF j;rw[if_pos j]
  repeat' first|refine AD.br (d:=4) ?_|refine AD.br (d:=5) ?_|refine .s1 ?_|(refine .q ?_ ?_<;>intro O)|fail
  refine bK (hj:=by rw[take_zero];rfl) v.m.length (λk=>[(23, .int .i64 k),(22, .int .i64 v.mv.length),(21, .slice v.mv .no),(3, .ptr 0 0),(4, .ab d.C),(5, .ab v.C),(6, .ptr 1 0)]) (λ_=>⟨[.cells [.slice (s.ah.map Ag.C) .no, .str s.query, .str s.ar, .bool wr, .bool within, .slice (A.map AG.C) .no], .cells fI],[]⟩) (λk=>(v.m.take k).any (gQ wr A v.m d.params)=false) Z0 λk hk hj=> ?_
  by_cases h1:k<v.m.length
  ·have t:decide ((k:Int)<(v.mv.length:Int))=true:=by rw[v.bl];simp[h1]
   have x1:=xU h1;have e:=getElem_mem h1;have f:=Sz d.params v.m[k].name om;have n:=get v.m[k].name v.m om;rw[kH, <-v.bf]at n;obtain⟨y,hy⟩:=LQ e;rw[hy]at n;have h:=S4 s wr within A y om;have a:gQ wr A v.m d.params v.m[k]=((sD d.params v.m[k].name).isNone&&fX wr A y):=by unfold gQ;rw[hy]
   have i:(v.m.take (k+1)).any (gQ wr A v.m d.params)=gQ wr A v.m d.params v.m[k]:=Yc
   cases b:sD d.params v.m[k].name with
   |none=>
    have e1:p7 d.params v.m[k].name=(In,false):=by rw[p7,b]
    rw[e1]at f;rw[b]at a;cases c:fX wr A y with
    |true=>rw[c]at h a;have g:v.m.any (gQ wr A v.m d.params)=true:=List.any_eq_true.2 ⟨_,e,a⟩;rw[if_pos g];refine .go ?_;exact aI rfl bP
    |false=>rw[c]at h a;refine .go ?_;exact⟨h1,Z0,Xz,Ww,rfl,i.trans a⟩
   |some p=>
    have e1:p7 d.params v.m[k].name=(p,true):=by rw[p7,b]
    rw[e1]at f;rw[b]at a;refine .go ?_;exact⟨h1,Z0,Xz,Ww,rfl,i.trans a⟩
  ·have t:decide ((k:Int)<(v.mv.length:Int))=false:=by rw[v.bl];simp;omega
   obtain rfl:k=v.m.length:=om
   rw[take_length]at hj;rw[if_neg (by rw[hj];decide)];obtain⟨rl,o⟩:=r;simp only at w ⊢;by_cases l:o=0
   ·subst l;rw[if_neg Wa];refine .go ?_;exact aI rfl (AC.tup (AA.cons EU (aD _)))
   ·have u:(o != 0)=true:=by simpa using l
    rw[if_pos l];refine .go ?_;exact aI rfl bP
 ·have q7:=bnT j;rw[if_neg j];refine .ac ?_;exact aI rfl bP
def lR(a:AH->Bool)(F:AH->AH×Int):List AH->List AH×Int
 |[]=>([],0)
 |x::l=>if a x=true then ([],7) else if (F x).2≠0 then ([],(F x).2) else if (lR a F l).2≠0 then ([],(lR a F l).2) else ((F x).1::(lR a F l).1,0)
theorem JY(s:AI)(wr:Bool)(A:List AG)(dfl:AO->VE)(t:Ae):∀l:List AH,mkL s wr A dfl l t=lR (λx=>gW wr t x.kind) (λx=>mkV s wr A dfl x t) l
 |[]=>by rw[mkL,lR]
 |v::l=>by rw[mkL,lR,JY s wr A dfl t l]
def HC(a:AH->Bool)(F:AH->AH×Int)(l:List AH)(k:Nat):Prop:=
 lR a F l=if (lR a F (l.drop k)).2≠0 then ([],(lR a F (l.drop k)).2) else ((l.take k).map (λx=>(F x).1)++(lR a F (l.drop k)).1,0)
theorem S5(a:AH->Bool)(F:AH->AH×Int):∀l,(lR a F l).2≠0->(lR a F l).1=[]
 |[],_=>rfl
 |x::l,h=>by rw[lR]at h ⊢;grind
def Eb(a:AH->Bool)(F:AH->AH×Int)(l:List AH):HC a F l 0:=by
 unfold HC;rw[drop_zero,take_zero,List.map_nil,List.nil_append];by_cases h:(lR a F l).2≠0
 ·rw[if_pos h, <-S5 a F l h]
 ·grind
section
variable {a:AH->Bool} {F:AH->AH×Int} {l:List AH} {k:Nat} (h:k<l.length) (hj:HC a F l k)
include h hj
theorem S6(b:a l[k]=true):lR a F l=([],7):=by rw[hj,List.drop_eq_getElem_cons h,lR,if_pos b];rfl
theorem Hk(b:a l[k]=false)(he:(F l[k]).2≠0):lR a F l=([],(F l[k]).2):=by
 have e:lR a F (l.drop k)=([],(F l[k]).2):=by rw[List.drop_eq_getElem_cons h,lR,if_neg (by rw[b];decide),if_pos he]
 rw[hj,e,if_pos he]
theorem Ec(b:a l[k]=false)(he:(F l[k]).2=0):HC a F l (k+1):=by
 unfold HC at hj ⊢;have e:lR a F (l.drop k)=if (lR a F (l.drop (k+1))).2≠0 then ([],(lR a F (l.drop (k+1))).2) else ((F l[k]).1::(lR a F (l.drop (k+1))).1,0):=by rw[List.drop_eq_getElem_cons h,lR,if_neg (by rw[b];decide),if_neg (by rw[he];simp)]
 rw[hj,e,List.take_succ_eq_append_getElem h,map_append];grind
end
def Hl{a:AH->Bool}{F:AH->AH×Int}{l:List AH}(hj:HC a F l l.length):lR a F l=(l.map (λx=>(F x).1),0):=by unfold HC at hj;rw[List.drop_length,take_length,lR,if_neg Wa,append_nil]at hj;exact hj
def kL(a:AH->Bool)(F:AH->AH×Int)(l:List AH):AH×Int:=if (lR a F l).2≠0 then (bO,(lR a F l).2) else (.mk 6 0 [] (lR a F l).1 [],0)
def nF{l:List AH}{n:Int}{str:AF}:AC (.agg [.int .i64 6, .int .i64 n, .str str, .slice (l.map AH.C) t1, .slice [] t2]) (AH.mk 6 n str l []).C:=by unfold AH.C;rw[AH.b0,wQ];exact AC.agg (AA.cons (aG _) (AA.cons (aG _) (AA.cons (aG _) (AA.cons (AC.no (aD _)) (AA.cons (AC.no (aD _)) (aD _))))))
theorem pO{a n:Nat}:∀(xs ys:List AV),aE a n (xs++ys)=(aE a n xs&&aE a n ys)
 |[],ys=>by simp[aE]
 |x::xs,ys=>by rw[cons_append,aE,aE,pO xs ys,Bool.and_assoc]
theorem Cb(a n k:Nat)(l:List AH)(F:AH->AH×Int):aE a n (List.take k (List.map (AH.C∘λx=>(F x).1) l))=true:=by rw[<-List.map_map, <-List.map_take];exact QR a n _
def Hm{t:Ae}{k:Int}(h:gW wr t k=false):decide (0<t.ak)=false\/(decide (0<t.ak)=true/\(k != 6)=false)\/(decide (0<t.ak)=true/\(k != 6)=true/\(k != 0)=false)\/(decide (0<t.ak)=true/\(k != 6)=true/\(k != 0)=true/\wr=true/\(k==8)=true):=by grind[gW]
def aAw(s:AI)(wr within:Bool)(A:List AG)(t:Ae)(v:AH)(F:AH->AH×Int)(m:v.kind=6)(hv:v.size<=68719476736)
  (hF:∀x∈v.l,AN prog 315 [mkE s wr within A,t.C,x.C] (VE.C (F x))):
  AN prog 331 [mkE s wr within A,t.C,v.C] (VE.C (kL (λx=>gW wr t x.kind) F v.l)):=by
 have q6:=beT m;have a7:(v.kind != 6)=false:=by simp[m]
 have w:=v.bu;refine pER [.cell 6 43, .tmp 7] func331 (O:=VE.K _) (ha:=by simp[AV.K,aB,eA,Ae.K,AH.K]) ?_;refine .ac ?_;refine lI 1 3 true 5 ?_;refine bK (hj:=Eb _ _ _) v.l.length (λk=>[(24, .int .i64 k),(23, .int .i64 v.lv.length),(22, .slice v.lv .no),(3, .ab (mkE s wr within A)),(4, .ab t.C),(5, .ab v.C),(6, .ptr 0 0),(9, .ptr 1 0)]) (λk=>⟨[.cells fI, .cells [.int .i64 6, .int .i64 0, .str [], .slice (((v.l.take k).map (λx=>(F x).1)).map AH.C) (.own 0 5), .slice [] .nil]],[.len k]⟩) (HC (λx=>gW wr t x.kind) F v.l) Z0 λk hk hj=> ?_
 by_cases h1:k<v.l.length
 ·have u:decide ((k:Int)<(v.lv.length:Int))=true:=by rw[v.ba];simp[h1]
  have x1:=lK h1;have O:=hF v.l[k] (getElem_mem h1);have jo:=S6 h1 hj;have y:=Hk h1 hj;have z:=Ec h1 hj;have g:((v.l.take k).map (λx=>(F x).1)).length=k:=X6
  have b:(((v.l.take k).map (λx=>(F x).1)).map AH.C).length=k:=Zk
  have d:(v.l.take (k+1)).map (λx=>(F x).1)=(v.l.take k).map (λx=>(F x).1)++[(F v.l[k]).1]:=Wt
  cases o:gW wr t v.l[k].kind with
  |true=>
   have e:=jo o;unfold gW at o;simp only[Bool.and_eq_true,decide_eq_true_eq,Bool.not_eq_true']at o;obtain⟨o1,o2,o3,o4⟩:=o;have e1:=decide_eq_true o1;cases wr with
   |true=>
    have j:(v.l[k].kind==8)=false:=by simpa using o4
    have p:(!(v.l[k].kind==8))=true:=YA
    refine .go ?_;refine aI rfl ?_;unfold kL;rw[e];exact bP
   |false=>refine .go ?_;refine aI rfl ?_;unfold kL;rw[e];exact bP
  |false=>
   by_cases a:(F v.l[k]).2=0
   ·have i:=z o a;generalize hr:F v.l[k]=r at O a d;obtain⟨rv,re⟩:=r;simp only at a d;subst a;unfold VE.C at O;simp only at O;rcases Hm o with a1|⟨a1,a2⟩|⟨a1,a2,a3⟩|⟨a1,a2,a3,rfl,a4⟩
    all_goals
      try (have h:(!(v.l[k].kind==8))=false:=by (rw[a4];rfl))
      (repeat' first|refine .s1 ?_|(refine .q ?_ ?_<;>intro O)|refine bU (n:=k) b ?_|fail
       exact⟨h1,Z0,Xz,Xs,by rw[d,map_append];rfl,i⟩)
   ·have e:=y o a;have f:((F v.l[k]).2 != 0)=true:=by simpa using a
    have c:kL (λx=>gW wr t x.kind) F v.l=(bO,(F v.l[k]).2):=by unfold kL;rw[e];simp only;rw[if_pos a]
    rw[c];generalize F v.l[k]=r at O a f;obtain⟨rv,re⟩:=r;simp only at a f;unfold VE.C at O;simp only at O;rcases Hm o with a1|⟨a1,a2⟩|⟨a1,a2,a3⟩|⟨a1,a2,a3,rfl,a4⟩
    all_goals
      try (have h:(!(v.l[k].kind==8))=false:=by (rw[a4];rfl))
      (refine .go ?_
       exact aI rfl bP)
 ·have u:decide ((k:Int)<(v.lv.length:Int))=false:=by rw[v.ba];simp;omega
  obtain rfl:k=v.l.length:=om
  have e:=Hl hj;have c:kL (λx=>gW wr t x.kind) F v.l=(.mk 6 0 [] (v.l.map λx=>(F x).1) [],0):=by unfold kL;rw[e];rfl
  rw[c];refine .go ?_;refine aI rfl ?_;rw[take_length];exact AC.tup (AA.cons nF (aD _))
def aAx(s:AI)(wr within:Bool)(A:List AG)(t:Ae)(v:AH)(r:AH×Int)(c:v.kind≠6)
  (hF:AN prog 315 [mkE s wr within A,t.C,v.C] (VE.C r)):
  AN prog 331 [mkE s wr within A,t.C,v.C] (VE.C (if r.2≠0 then (bO,r.2) else (.mk 6 0 [] [r.1] [],0))):=by
 have h:=beF c;have f:(v.kind != 6)=true:=by simp[c]
 obtain⟨g,d⟩:=r;unfold VE.C at hF;simp only at hF ⊢;refine pER [.cell 6 43, .tmp 7] func331 (O:=VE.K _) (ha:=by simp[AV.K,aB,eA,Ae.K,AH.K]) ?_;by_cases a:d=0
 ·subst a;rw[if_neg Wa];refine .ac ?_;refine lI 1 3 true 5 ?_;refine bK 1 (λk=>[(24, .int .i64 k),(23, .int .i64 1),(22, .slice [v.C] .full),(3, .ab (mkE s wr within A)),(4, .ab t.C),(5, .ab v.C),(6, .ptr 0 0),(9, .ptr 1 0)]) (λk=>⟨[.cells fI, .cells [.int .i64 6, .int .i64 0, .str [], .slice ((List.replicate k g).map AH.C) (.own 0 5), .slice [] .nil]],[.len k]⟩) (λ_=>True) Z0 λk hk _=> ?_
  by_cases h1:k<1
  ·obtain rfl:k=0:=om
   have x1:[v.C][0]? =some v.C:=rfl
   repeat' first|refine .s1 ?_|(refine .q ?_ ?_<;>intro O)|refine bU (n:=0) rfl ?_|fail
   exact⟨h1,Z0,by simp[aM,AV.aa,aE,aF,eA],Ww,rfl,trivial⟩
  ·obtain rfl:k=1:=om
   refine .go ?_;exact aI rfl (AC.tup (AA.cons nF (aD _)))
 ·have e:(d != 0)=true:=by simpa using a
  rw[if_pos a];refine .ac ?_;refine bK (hj:=rfl) 1 (λk=>[(24, .int .i64 k),(23, .int .i64 1),(22, .slice [v.C] .full),(3, .ab (mkE s wr within A)),(4, .ab t.C),(5, .ab v.C),(6, .ptr 0 0),(9, .ptr 1 0)]) (λk=>⟨[.cells fI, .cells [.int .i64 6, .int .i64 0, .str [], .slice [] .nil, .slice [] .nil]],[]⟩) (λk=>k=0) Z0 λk hk b=> ?_
  subst b;have x1:[v.C][0]? =some v.C:=rfl;refine .go ?_;exact aI rfl bP
end Go.Proofs.YtdodieljpcfpcaaGreatDoor
