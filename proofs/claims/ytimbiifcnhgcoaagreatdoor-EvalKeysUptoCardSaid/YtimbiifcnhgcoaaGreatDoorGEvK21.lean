/- Joined texts. -/
import Derived.Laws.BytesString
import Derived.Lib.ItoaMem
import Derived.Lib.ItoaLen
import Derived.Test.YtimbiifcnhgcoaaGreatDoorGEvK19
set_option maxRecDepth 100000
set_option maxHeartbeats 16000000
set_option linter.all false
open List (append_nil getElem_mem length_map map_append take_append_drop take_length take_succ_eq_append_getElem take_zero)
open Nat (le_refl)
open Bool (and_eq_true)
open Go Go.Av Go.Proofs.YtimbiifcnhgcoaaGreatDoor Go.Proofs.Tryz
variable{name:AG}{m:List AF}{n:Nat}
namespace Go.Proofs.YtimbiifcnhgcoaaGreatDoor
open Go Go.Av Go.Proofs.Tryz
attribute [local irreducible] AB AD AN AI Av.AU AZ
def aA2(d:AR)(c:d.size<=1048576):∀(b S:Nat) (l:List Sl),aC Sl.size l<=S->S<=1048576->0<b->b<=41->AN prog 35 [d.C, .slice (l.map Sl.C) .no, .int .i64 ((b:Int)-1)] (.int .i64 (eF d b l 0))
 |b,S,l,hl,hS,hb,a0=>by
  have a5:=aJ Sl.au l
  obtain⟨_,a2,_⟩:=uB c
  refine pEn 6 func35 ?_
  refine .ae ?_
  refine fX l Sl.C (λk=>[(8, .int .i64 k),(7, .int .i64 (eF d b (l.take k) 0)),(1, .slice (l.map Sl.C) .no),(2, .int .i64 ((b:Int)-1)),(3, .ac d.C)]) (λ_=>⟨[],[]⟩) (λ_=>True) trivial (λk j q x1 _=> ?_) (λq _=> ?_) (hs:=⟨rfl,by rw[take_zero,mY];rfl,rfl,rfl,rfl,trivial⟩)
  ·have a4:=qO c b S (l.take k) 0 (by have:=fK Sl.size l k;omega)
   have a:eF d b (l.take (k+1)) 0=eF d b [l[k]] (eF d b (l.take k) 0):=by rw[take_succ_eq_append_getElem j,C5]
   rw[mK,mY,mY]at a
   have e:¬eF d b (l.take k) 0<b->eF d b l 0=eF d b (l.take k) 0:=λh=>by
    rw[show eF d b l 0=eF d b (l.drop k) (eF d b (l.take k) 0) by rw[<-C5,take_append_drop],List.drop_eq_getElem_cons j,mK,if_neg h]
   have hz:=aN (size:=Sl.size) (getElem_mem j)
   have a6:=l[k].ay
   have a3:=K4 d l[k].name om
   have o:eF d b (l.take k) 0<b->AN prog 35 [d.C, .slice l[k].sv .no, .int .i64 ((b:Int)-1-(eF d b (l.take k) 0:Int))] (.int .i64 (eF d (b-eF d b (l.take k) 0) l[k].O 0)):=λh=>by
    have:=aA2 d c (b-eF d b (l.take k) 0) (S-1) l[k].O om om om om
    rwa [l[k].bc,show (b:Int)-1-(eF d b (l.take k) 0:Int)=((b-eF d b (l.take k) 0:Nat):Int)-1 by omega]
   have y:=qO c (b-eF d b (l.take k) 0) (aC Sl.size l[k].O) l[k].O 0 (le_refl _)
   generalize eF d b (l.take k) 0=n at *
   generalize v:eF d (b-n) l[k].O 0=A at *
   have m:n+1+A<b->AN prog 35 [d.C, .slice ((cM d l[k].name).1.O.map Sl.C) .no, .int .i64 ((b:Int)-1-((n+1+A:Nat):Int))] (.int .i64 (eF d (b-(n+1+A)) (cM d l[k].name).1.O 0)):=λh=>by
    have:=aA2 d c (b-(n+1+A)) 1048576 (cM d l[k].name).1.O (r8 c _) om om om
    rwa [show (b:Int)-1-((n+1+A:Nat):Int)=((b-(n+1+A):Nat):Int)-1 by omega]
   have z:=qO c (b-(n+1+A)) 1048576 (cM d l[k].name).1.O 0 (r8 c _)
   generalize eF d (b-(n+1+A)) (cM d l[k].name).1.O 0=B at *
   generalize l[k]=x at *
   by_cases g:n<b
   ·have e1:decide ((n:Int)<=(b:Int)-1)=true:=decide_eq_true om
    have o:=o g
    rw[if_pos g]at a
    have p:(n:Int)+1+(A:Int)=((n+1+A:Nat):Int):=om
    by_cases f:x.kind=1
    ·have t:(x.kind==1)=true:=by simp[f]
     by_cases i:n+1+A<b
     ·have m:=m i
      rw[if_pos ⟨f,i⟩]at a
      have u:decide ((n:Int)+1+(A:Int)<=(b:Int)-1)=true:=decide_eq_true om
      rw[<-p]at m
      repeat' first|refine tF (r:=(b:Int)-1-(n:Int)) rfl rfl om om ?_|refine tF (r:=(b:Int)-1-((n:Int)+1+(A:Int))) rfl rfl om om ?_|refine .s1 ?_|fail
      exact nz trivial (hs:=⟨rfl,congrArg (AV.int .i64) Zs,rfl,rfl,rfl,trivial⟩)
     ·rw[if_neg (λh=>i h.2)]at a
      have u:decide ((n:Int)+1+(A:Int)<=(b:Int)-1)=false:=decide_eq_false om
      repeat' first|refine tF (r:=(b:Int)-1-(n:Int)) rfl rfl om om ?_|refine .s1 ?_|fail
      exact nz trivial (hs:=⟨rfl,congrArg (AV.int .i64) Zs,rfl,rfl,rfl,trivial⟩)
    ·have t:(x.kind==1)=false:=by simp[f]
     rw[if_neg (λh=>f h.1)]at a
     repeat' first|refine tF (r:=(b:Int)-1-(n:Int)) rfl rfl om om ?_|refine .s1 ?_|fail
     exact nz trivial (hs:=⟨rfl,congrArg (AV.int .i64) Zs,rfl,rfl,rfl,trivial⟩)
   ·have e1:decide ((n:Int)<=(b:Int)-1)=false:=decide_eq_false om
    rw[e g]
    exact .wc
  ·rw[take_length]
   exact .wc
termination_by b S=>(b,S)
decreasing_by
 ·rcases Nat.eq_zero_or_pos (eF d b (l.take k) 0) with h0|h0
  ·rw[h0,Nat.sub_zero];apply Prod.Lex.right;have:=l[k].au;omega
  ·apply Prod.Lex.left;omega
 ·apply Prod.Lex.left;omega
def x6:AA [AV.agg [.int .i64 0, .int .i64 0, .str [], .slice [] .nil, .slice (m.map AF.C) .no]] [(AH.mk 0 0 [] [] m).C]:=by refine AA.cons ?_ (aB _);unfold AH.C;rw[sA,AH.bh];exact AC.agg (AA.cons (aG _) (AA.cons (aG _) (AA.cons (aG _) (AA.cons (AC.no (aB _)) (aB _)))))
def JG(l:List AO)(h:aC AO.size l<=1048576):AN prog 80 [.slice (l.map AO.C) .no] (.int .i64 (gF l)):=by
 have g:=aJ AO.au l;have c:=pR l;refine pEn 2 func80 ?_;refine .go ?_;refine fX l AO.C (λk=>[(4, .int .i64 k),(3, .int .i64 (gF (l.take k))),(0, .slice (l.map AO.C) .no)]) (λ_=>⟨[],[]⟩) (λ_=>True) trivial (λk a d x1 _=> ?_) (λ_ _=> ?_)
 ·have f:=aN (size:=AO.size) (getElem_mem a);have h3:l[k].size=l[k].name.length+aC AF.size l[k].args+3:=rfl;have hz:=Cb (.mk 0 0 [] [] l[k].args) WR;have e:szV (.mk 0 0 [] [] l[k].args)=1+szM l[k].args:=by rw[szV,szL];simp only[List.length_nil]
  have b:=x6 (m:=l[k].args);have ht:gF (l.take (k+1))=gF (l.take k)+(1+l[k].name.length+(1+szM l[k].args)):=gK a;have i:gF (l.take (k+1))<=gF l:=fK _ l (k+1);repeat' first|refine .br ?_|refine aH rfl hz b ?_|refine .s1 ?_|(refine .q ?_ ?_<;>intro O)|fail
  exact nz trivial (hs:=⟨rfl,congrArg (AV.int .i64) WE,rfl,trivial⟩)
 ·rw[take_length];exact .wc
def gO:List Sl->Nat
 |[]=>0
 | .mk k a nm ar di on se::l=>(1+nm.length+a.length+on.length+(1+szM ar)+gF di+gO se)+gO l
termination_by l=>fN l
decreasing_by
 all_goals simp_wf
 all_goals simp only[fN,Sl.size]
 all_goals omega
theorem qP(x:Sl)(l:List Sl):gO (x::l)=(1+x.name.length+x.bm.length+x.on.length+(1+szM x.args)+gF x.ar+gO x.O)+gO l:=by cases x;rw[gO];rfl
theorem GI:∀a b:List Sl,gO (a++b)=gO a+gO b
 |[],b=>by rw[gO,Nat.zero_add];rfl
 |x::a,b=>by rw[List.cons_append,qP,qP,GI a b];omega
def sC:∀(N:Nat) (l:List Sl),aC Sl.size l<=N->gO l<=aC Sl.size l
 |N,[],h=>by rw[gO];omega
 |0,x::l,h=>by rw[aC]at h;have:=x.au;omega
 |N+1,x::l,h=>by rw[aC]at h ⊢;have a:=x.ay;have h3:=sC N x.O om;have h4:=sC N l om;have b:=pR x.ar;have c:=Fp x.args;rw[qP];omega
def JH:∀(N:Nat) (l:List Sl),aC Sl.size l<=N->N<=1048576->AN prog 81 [.slice (l.map Sl.C) .no] (.int .i64 (gO l))
 |N,l,h,j=>by
  have n:=aJ Sl.au l;refine pEn 2 func81 ?_;refine .go ?_;refine fX l Sl.C (λk=>[(4, .int .i64 k),(3, .int .i64 (gO (l.take k))),(0, .slice (l.map Sl.C) .no)]) (λ_=>⟨[],[]⟩) (λ_=>True) trivial (λk a g x1 _=> ?_) (λ_ _=> ?_) (hs:=⟨rfl,by rw[take_zero,gO];rfl,rfl,trivial⟩)
  ·have i:=aN (size:=Sl.size) (getElem_mem a);have h3:=l[k].ay;have d:=sC _ (l.take (k+1)) (le_refl _);have e:=fK Sl.size l (k+1);have ht:gO (l.take (k+1))=gO (l.take k)+(1+l[k].name.length+l[k].bm.length+l[k].on.length+(1+szM l[k].args)+gF l[k].ar+gO l[k].O):=by rw[take_succ_eq_append_getElem a,GI,qP,gO,Nat.add_zero]
   have o:=JG l[k].ar om;have f:=JH (N-1) l[k].O om om;rw[<-l[k].bc]at f;have hz:=Cb (.mk 0 0 [] [] l[k].args) WR;have c:szV (.mk 0 0 [] [] l[k].args)=1+szM l[k].args:=XU
   rw[c]at hz;have b:=x6 (m:=l[k].args)
   repeat' first|refine .br ?_|refine aH rfl hz b ?_|refine .s1 ?_|(refine .q ?_ ?_<;>intro O)|fail
   exact nz trivial (hs:=⟨rfl,congrArg (AV.int .i64) WE,rfl,trivial⟩)
  ·rw[take_length];exact .wc
termination_by N=>N
decreasing_by have:=(l[k]).au;omega
def EU(p:AP):Nat:=1+szV p.d+p.name.length
def Db(o:Ak):Nat:=1+gF o.ar+gO o.O+o.name.length+aC EU o.vars
def GJ(f:Af):Nat:=1+gF f.ar+gO f.O+f.name.length
def JI(d:AR):Bool:=decide (((aC Db d.ops+aC GJ d.aj:Nat):Int)<=3200)
def Ut(d:AR)(u:d.size<=1048576):AN prog 34 [d.C] (.bool (JI d)):=by
 obtain⟨h0,h2,h3,h4,_⟩:=uB u;have v:d.size=aC Ak.size d.ops+aC Af.size d.aj+3:=rfl;have t:∀l:List AP,aC EU l<=aC AP.size l:=λl=>nC (λp=>by have:=Hm p.d;unfold EU AP.size;omega) l
 have m:∀l:List Ak,aC Db l<=aC Ak.size l:=λl=>nC (λo=>by have:=t o.vars;have:=pR o.ar;have:=sC _ o.O (le_refl _);unfold Db Ak.size;omega) l
 have hF:∀l:List Af,aC GJ l<=aC Af.size l:=λl=>nC (λo=>by have:=pR o.ar;have:=sC _ o.O (le_refl _);unfold GJ Af.size;omega) l
 have r:=m d.ops;have i:=hF d.aj;refine pEn 2 func34 ?_;refine .ae ?_;refine fX d.ops Ak.C (λk=>[(4, .int .i64 k),(3, .int .i64 (aC Db (d.ops.take k))),(1, .ac d.C)]) (λ_=>⟨[],[]⟩) (λ_=>True) trivial (λk a h x1 _=> ?_) (λ_ _=> ?_)
 ·have b:=getElem_mem a;have hx:=h3 _ b;have f:d.ops[k].size=d.ops[k].name.length+aC AP.size d.ops[k].vars+aC AO.size d.ops[k].ar+aC Sl.size d.ops[k].O+6:=rfl;have y:=aJ AP.au d.ops[k].vars;have q1:=JG d.ops[k].ar om;have q2:=JH 1048576 d.ops[k].O om (le_refl _);have ht:aC Db (d.ops.take (k+1))=aC Db (d.ops.take k)+(1+gF d.ops[k].ar+gO d.ops[k].O+d.ops[k].name.length+aC EU d.ops[k].vars):=gK a;have c:=fK Db d.ops (k+1);have e:=λj=>fK EU d.ops[k].vars j
  generalize aC Db (d.ops.take k)=n at *;repeat' first|refine .br ?_|refine .s1 ?_|(refine .q ?_ ?_<;>intro O)|fail
  refine fX d.ops[k].vars AP.C (λj=>[(5, .int .i64 j),(3, .int .i64 ((n+1+gF d.ops[k].ar+gO d.ops[k].O+d.ops[k].name.length+aC EU (d.ops[k].vars.take j):Nat):Int)),(4, .int .i64 k),(1, .ac d.C)]) (λ_=>⟨[],[]⟩) (λ_=>True) trivial (λj g d2 x2 _=> ?_) (λ_ _=> ?_) (hs:=⟨rfl,congrArg (AV.int .i64) (by rw[take_zero,aC];omega),rfl,rfl,trivial⟩)
  ·have hz:=aN (size:=AP.size) (getElem_mem g);have z:=d.ops[k].vars[j].lens;have q3:=Cb d.ops[k].vars[j].d om;have w:aC EU (d.ops[k].vars.take (j+1))=aC EU (d.ops[k].vars.take j)+(1+szV d.ops[k].vars[j].d+d.ops[k].vars[j].name.length):=gK g;have x:=e (j+1);repeat' first|refine .br ?_|refine .s1 ?_|(refine .q ?_ ?_<;>intro O)|fail
   exact nz trivial (hs:=⟨rfl,congrArg (AV.int .i64) (by rw[w];omega),rfl,rfl,trivial⟩)
  ·rw[take_length];refine .go ?_;exact nz trivial (hs:=⟨rfl,congrArg (AV.int .i64) WE,rfl,trivial⟩)
 ·rw[take_length];refine .go ?_;refine fX d.aj Af.C (λk=>[(6, .int .i64 k),(3, .int .i64 ((aC Db d.ops+aC GJ (d.aj.take k):Nat):Int)),(1, .ac d.C)]) (λ_=>⟨[],[]⟩) (λ_=>True) trivial (λk a h x1 _=> ?_) (λ_ _=> ?_) (hs:=⟨rfl,congrArg (AV.int .i64) (by rw[take_zero,aC];rfl),rfl,trivial⟩)
  ·have b:=getElem_mem a;have hx:=h4 _ b;have f:d.aj[k].size=d.aj[k].name.length+d.aj[k].on.length+aC AO.size d.aj[k].ar+aC Sl.size d.aj[k].O+4:=rfl;have q1:=JG d.aj[k].ar om;have q2:=JH 1048576 d.aj[k].O om (le_refl _);have ht:aC GJ (d.aj.take (k+1))=aC GJ (d.aj.take k)+(1+gF d.aj[k].ar+gO d.aj[k].O+d.aj[k].name.length):=gK a;have c:=fK GJ d.aj (k+1);repeat' first|refine .br ?_|refine .s1 ?_|(refine .q ?_ ?_<;>intro O)|fail
   exact nz trivial (hs:=⟨rfl,congrArg (AV.int .i64) WE,rfl,trivial⟩)
  ·rw[take_length];exact .wc
def sD(s:AJ)(d:AR):Bool:=rG s&&(JI d&&decide (dS d (d.ops.map Ak.O++d.aj.map Af.O) 0<=40))
def lJ(r:Row):Nat:=1+r.key.length+r.aw.length+(1+szM r.aq)
def mM(t:AY):Nat:=1+t.name.length+aC lJ t.ag
def wR(l:List AY):Bool:=decide (((aC mM l:Nat):Int)<=4000)
def Oy:∀m:List AF,m.length<=szM m
 |[]=>Nat.zero_le _
 | .mk n v::m=>by
  have:=Oy m
  have:1<=szV v:=by cases v;rw[szV];omega
  rw[szM,List.length_cons];omega
def aA3(r:Row)(hz:aC AF.size r.aq<=1048576)(h:r.key.length+r.aw.length<=68719476736):AN prog 36 [r.C] (.int .i64 (lJ r)):=by
 have hz:=Cb (.mk 0 0 [] [] r.aq) WR;have b:szV (.mk 0 0 [] [] r.aq)=1+szM r.aq:=XU
 have hs:=Fp r.aq;rw[b]at hz;have a:=x6 (m:=r.aq);refine pEn 2 func36 ?_ (ha:=by simp[aA,Row.K])
 repeat' first|refine .br ?_|refine aH rfl hz a ?_|refine .s1 ?_|(refine .q ?_ ?_<;>intro O)|fail
 refine aP rfl (AC.eq (congrArg (AV.int .i64) ?_));unfold lJ;omega
def Sb(l:List AY)(hz:aC mM l<=68719476736)(hr:∀t∈l,∀r∈t.ag,aC AF.size r.aq<=1048576):AN prog 11 [Tbls.C l] (.bool (wR l)):=by
 have v:=aJ (size:=mM) (λt=>by unfold mM;omega) l;refine pEn 2 func11 ?_ (ha:=by simp[aA,Tbls.K]);refine .ae ?_;refine fX l AY.C (λk=>[(4, .int .i64 k),(3, .int .i64 (aC mM (l.take k))),(0,Tbls.C l)]) (λ_=>⟨[],[]⟩) (λ_=>True) trivial (λk d p x1 _=> ?_) (λ_ _=> ?_)
 ·have e:=getElem_mem d;have hx:=aN (size:=mM) e;have m:mM l[k]=1+l[k].name.length+aC lJ l[k].ag:=rfl;have g:=aJ (size:=lJ) (λt=>by unfold lJ;omega) l[k].ag;have ht:aC mM (l.take (k+1))=aC mM (l.take k)+(1+l[k].name.length+aC lJ l[k].ag):=gK d;have f:=fK mM l (k+1);have c:=λj=>fK lJ l[k].ag j
  have b:=hr l[k] e;generalize aC mM (l.take k)=n at *
  repeat' first|refine .br ?_|refine .s1 ?_|(refine .q ?_ ?_<;>intro O)|fail
  refine fX l[k].ag Row.C (λj=>[(5, .int .i64 j),(3, .int .i64 ((n+1+l[k].name.length+aC lJ (l[k].ag.take j):Nat):Int)),(4, .int .i64 k),(0,Tbls.C l)]) (λ_=>⟨[],[]⟩) (λ_=>True) trivial (λj a u x _=> ?_) (λ_ _=> ?_) (hs:=⟨rfl,congrArg (AV.int .i64) (by rw[take_zero,aC];omega),rfl,rfl,trivial⟩)
  ·have hz:=aN (size:=lJ) (getElem_mem a);have o:lJ l[k].ag[j]=1+l[k].ag[j].key.length+l[k].ag[j].aw.length+(1+szM l[k].ag[j].aq):=rfl;have w:=aA3 l[k].ag[j] (b _ (getElem_mem a)) om;have h:aC lJ (l[k].ag.take (j+1))=aC lJ (l[k].ag.take j)+lJ l[k].ag[j]:=gK a;have i:=c (j+1)
   repeat' first|refine .br ?_|refine .s1 ?_|(refine .q ?_ ?_<;>intro O)|fail
   exact nz trivial (hs:=⟨rfl,congrArg (AV.int .i64) (by rw[h];omega),rfl,rfl,trivial⟩) (hb:=by show aM 0 0 _=true;simp[aM,AV.ab,aF,Tbls.K])
  ·rw[take_length];refine .go ?_;exact nz trivial (hs:=⟨rfl,congrArg (AV.int .i64) WE,rfl,trivial⟩) (hb:=by show aM 0 0 _=true;simp[aM,AV.ab,aF,Tbls.K])
 ·rw[take_length];exact .wc
def Sc{l:List AY}(h:aC AY.size l<=n):∀t∈l,∀r∈t.ag,aC AF.size r.aq<=n:=λt ht r hr=>by
 have a:=aN (size:=AY.size) ht
 have b:t.size=t.name.length+aC Row.size t.ag+2:=rfl
 have h3:=aN (size:=Row.size) hr
 have h4:r.size=r.key.length+r.aw.length+aC AF.size r.aq+4:=rfl
 omega
def Sd(l:List AY):aC mM l<=aC AY.size l:=
 nC (λt=>by
  have:aC lJ t.ag<=aC Row.size t.ag:=nC (λr=>by have:=Fp r.aq;unfold lJ Row.size;omega) _
  unfold mM AY.size;omega) l
def PV{l:List AY}(h:wR l=true)(c:∀t∈l,∀r∈t.ag,Bv r):BV 4000 l:=by
 unfold wR at h;rw[decide_eq_true_eq]at h;have h0:aC mM l<=4000:=om
 have e:=aJ (size:=mM) (λt=>by unfold mM;omega) l;refine⟨⟨om,λt ht=> ?_,λt ht r hr=> ?_⟩,c⟩
 ·have a:=aN (size:=mM) ht;have b:mM t=1+t.name.length+aC lJ t.ag:=rfl;have h3:=aJ (size:=lJ) (λt=>by unfold lJ;omega) t.ag;omega
 ·have a:=aN (size:=mM) ht;have b:mM t=1+t.name.length+aC lJ t.ag:=rfl;have h3:=aN (size:=lJ) hr;have h4:lJ r=1+r.key.length+r.aw.length+(1+szM r.aq):=rfl;have d:=Oy r.aq;omega
def Uu{s:AJ}(h:rG s=true)(u name:AG):(aK s u name).1.params.length<=4000:=by
 unfold rG at h;rw[decide_eq_true_eq]at h;unfold aK;cases hf:jW s u name with
 |none=>exact Nat.zero_le _
 |some f=>
  dsimp only;unfold jW at hf;split at hf
  ·cases hf;exact Nat.zero_le _
  ·split at hf
   ·have b:=List.mem_of_find?_eq_some hf;unfold bN dW at b;split at b
    ·rename_i c a;split at a
     ·cases a;cases b
     ·have e:sR c<=IS s:=aN (size:=sR) (List.mem_of_find?_eq_some a);have g:1+f.name.length+mD f.params+gF f.ar<=rF c.fields:=aN (size:=λf:Ag=>1+f.name.length+mD f.params+gF f.ar) b;have h3:f.params.length<=mD f.params:=aJ (size:=λp:AP=>1+p.name.length+szV p.d) (λp=>om) _;unfold sR at e;omega
    ·cases b
   ·cases hf
def B9(k:Nat)(L:List AY):Prop:=BV (4000+2001 * min k 410) L
def Iw{s:AJ}{d:AR}{A:List AF}(hx:Am s d A)(j:rG s=true){u:AG}(O:∀name,Ap s (aK s u name).1.t.name):BI s A u B9:=by
 have a:∀g:AT,(Gd s A u g).1.length<=4000:=λg=>by have o:=tQ s true false A (kX s) (mkM s true A (cY s) (hdS g).args) (aK s u (hdS g).name).1.params;have e:=Uu j u (hdS g).name;unfold Gd dU;omega
 refine⟨λk L h=> ?_,λk m L h i=>BV.mono h om,O,λk L g h _ _ _ hk=>⟨_,h.a8, ?_⟩,λk L g h n hz _ hk=> ?_⟩
 ·have:=h.mono (B':= 1048576) om;exact⟨this.a8,this.bl⟩
 ·have:=a g;omega
 ·obtain⟨f,b⟩:=Cq hx u (hdS g) n hz;have:=(Fa (c:=PD s A u g) h (λm l=>(b m l).2)).2;refine this.mono ?_;have e:(PD s A u g).args.length<=4000:=a g;omega
theorem zP{s:AJ}(h:dW s []=none)(name:AG):(aK s [] name).1=uZ:=by
 have a:bN s []=(yQ,false):=by unfold bN;rw[h]
 have h3:g8 s []=false:=by unfold g8 eP;rw[a];rfl
 unfold aK jW;rw[if_neg (by rw[h3];simp),a];rfl
def Se(s:AJ)(u:AG):(ofB s u uZ).1.how≠3:=by
 unfold ofB;split
 ·decide
 ·decide
def Ix{s:AJ}(h:BH s):Be s s.av/\Bk s s.av:=by
 by_cases a:s.av=[]
 ·have hn:=h.nil;rw[a];refine⟨⟨λname=> ?_, ?_⟩,λname _ _=>zP hn name⟩
  ·rw[zP hn];exact J3 hn
  ·rw[zP hn];exact Se s []
 ·exact J4 h a
def zQ{s:AJ}{d:AR}{A:List AF}(hx:Am s d A)(a:rG s=true)(h:BH s)(o:Ak):BI s A (aW s o) B9:=by
 refine Iw hx a λname=> ?_
 unfold aW;split
 ·exact(Ix h).1.calm name
 ·exact(oN h _ (D0 h) name).1
theorem l6(d:AR):∀(a b:List (List Sl)) (n:Nat),dS d (a++b) n=dS d b (dS d a n)
 |[],b,n=>rfl
 |l::a,b,n=>by
  rw[List.cons_append,dS,dS]
  split
  ·exact l6 d a b _
  ·rename_i h
   cases b with
   |nil=>rfl
   |cons z b=>rw[dS,if_neg h]
theorem wS(d:AR)(h:¬n<=40):∀r:List (List Sl),dS d r n=n
 |[]=>rfl
 |l::r=>by rw[dS,if_neg h]
def Vu{d:AR}(a:d.size<=1048576){l:List Sl}(b:aC Sl.size l<=1048576):AN prog 35 [d.C, .slice (l.map Sl.C) .no, .int .i64 40] (.int .i64 (eF d 41 l 0))/\eF d 41 l 0<=68719476736:=
 ⟨aA2 d a 41 1048576 l b (le_refl _) om om,by have:=qO a 41 1048576 l 0 b;omega⟩
def Sf(s:AJ)(d:AR)(hs:s.size<=1048576)(e:d.size<=1048576):AN prog 10 [s.C,d.C] (.bool (sD s d)):=by
 obtain⟨h0,u,h3,h4,_⟩:=uB e;have v:=aBH s om;have w:=Ut d e;refine pEn 4 func10 ?_;unfold sD;generalize rG s=t at *
 generalize JI d=r at *
 repeat' first|refine .br ?_|refine .s1 ?_|(refine .q ?_ ?_<;>intro O)|fail
 all_goals try first|exact qA|fail
 all_goals
  have c:(t&&r)=true:=Xu
  simp only[and_eq_true]at c;rw[c.1,c.2,Bool.true_and,Bool.true_and];refine fX d.ops Ak.C (λk=>[(6, .int .i64 k),(5, .int .i64 (dS d ((d.ops.take k).map Ak.O) 0)),(3, .ac d.C)]) (λ_=>_) (λ_=>True) trivial (λk f i x1 _=> ?_) (λg _=> ?_)
  ·obtain⟨o,p⟩:=Vu e (K5 e (getElem_mem f));have ht:dS d ((d.ops.take (k+1)).map Ak.O) 0=dS d [d.ops[k].O] (dS d ((d.ops.take k).map Ak.O) 0):=by rw[K6 f,l6]
   have a:¬dS d ((d.ops.take k).map Ak.O) 0<=40->dS d (d.ops.map Ak.O++d.aj.map Af.O) 0=dS d ((d.ops.take k).map Ak.O) 0:=λh=>by rw[l6, <-take_append_drop k d.ops,map_append,take_append_drop,l6,wS d h,wS d h]
   rw[dS,dS]at ht;generalize dS d ((d.ops.take k).map Ak.O) 0=n at *
   by_cases b:n<=40
   ·have e1:decide ((n:Int)<=40)=true:=decide_eq_true om;rw[if_pos b]at ht;refine .go ?_;exact nz trivial (hs:=⟨rfl,congrArg (AV.int .i64) WE,rfl,trivial⟩)
   ·have e1:decide ((n:Int)<=40)=false:=decide_eq_false om;rw[a b,decide_eq_false b];refine .go ?_;refine mW ([]:List Af) Af.C (λ_=>true) (λj=>[(7, .int .i64 j),(5, .int .i64 n),(3, .ac d.C)]) (λj h _ _ _ _=>absurd h Wb) (λ_ _=> ?_);exact .wc
  ·rw[take_length,l6];generalize dS d (d.ops.map Ak.O) 0=n0 at *
   refine .go ?_;refine fX d.aj Af.C (λk=>[(7, .int .i64 k),(5, .int .i64 (dS d ((d.aj.take k).map Af.O) n0)),(3, .ac d.C)]) (λ_=>_) (λ_=>True) trivial (λk f i x1 _=> ?_) (λg _=> ?_)
   ·obtain⟨o,p⟩:=Vu e (C3 e (getElem_mem f));have ht:dS d ((d.aj.take (k+1)).map Af.O) n0=dS d [d.aj[k].O] (dS d ((d.aj.take k).map Af.O) n0):=by rw[K6 f,l6]
    have a:¬dS d ((d.aj.take k).map Af.O) n0<=40->dS d (d.aj.map Af.O) n0=dS d ((d.aj.take k).map Af.O) n0:=λh=>by rw[<-take_append_drop k d.aj,map_append,take_append_drop,l6,wS d h]
    rw[dS,dS]at ht;generalize dS d ((d.aj.take k).map Af.O) n0=n at *
    by_cases b:n<=40
    ·have e1:decide ((n:Int)<=40)=true:=decide_eq_true om;rw[if_pos b]at ht;refine .go ?_;exact nz trivial (hs:=⟨rfl,congrArg (AV.int .i64) WE,rfl,trivial⟩)
    ·have e1:decide ((n:Int)<=40)=false:=decide_eq_false om;rw[a b,decide_eq_false b];exact .wc
   ·rw[take_length];have l:∀m:Nat,decide ((m:Int)<=40)=decide (m<=40):=λm=>by rw[decide_eq_decide];omega
    refine .go ?_;exact aP rfl (AC.eq (congrArg AV.bool (l _)))
def Lh{s:AJ}{d:AR}(h:sD s d=true):CQ d:=by
 unfold sD at h;simp only[and_eq_true,decide_eq_true_eq]at h;have:=ES d _ 0 h.2.2;refine⟨λo c=> ?_,λf hf=> ?_⟩
 ·obtain⟨m,a,b⟩:=this o.O (by simp only[List.mem_append,List.mem_map];exact .inl ⟨o,c,rfl⟩);exact⟨m,a,om⟩
 ·obtain⟨m,a,b⟩:=this f.O (by simp only[List.mem_append,List.mem_map];exact .inr ⟨f,hf,rfl⟩);exact⟨m,a,om⟩
end Go.Proofs.YtimbiifcnhgcoaaGreatDoor
namespace Go.Av
open Go
section
variable [AL]
variable {P:Program} [Lay P] {A:Array Oper} {G:Bool} {K:AX->AE->St->Prop} {C:List Oper} {I:List Aj} {s:AE} {H:St}
variable {d:Tmp} {R:TypeId} {D:String} {S:Array Edge}
theorem GK:∀(ns:List Int) (b:ByteArray),ns.foldl (λr n=>r.push (UInt8.ofNat n.toNat)) b=⟨(b.data.toList++ns.map λn=>UInt8.ofNat n.toNat).toArray⟩
 |[],b=>by cases b;simp
 |n::ns,b=>by rw[List.foldl_cons,GK ns];simp_all
def JJ{x y:Operand}{T U:TypeId}{k:IntKind}{m n r:Int}(hx:ev? s x=some (.int k m))(a:ev? s y=some (.int k n))(hr:k.wrap (m+n)=r)(b:AD P A G K C (.pure::I) ((d, .int k r)::s) H):
  AD P A G K (⟨some d, .binOp .add T x y U,R,D,S,none⟩::C) I s H:=Kl hx a (by rw[hr];exact b)
def Oz{x:Operand}{T U:TypeId}{ns:List Int}{tk:Tk}{ys:List UInt8}{f tE tU:TI}(hT:ty? P T=some f)(hk:f.kind = .slice)(hE:ty? P f.elem=some tE)(z:tE.kind = .int .u8)(hU:ty? P U=some tU)(a1:tU.kind = .string)
  (hx:ev? s x=some (.slice (ns.map (AV.int .u8)) tk)) (hy:ns.map (λn=>UInt8.ofNat n.toNat)=ys)
  (k:AD P A G K C (.pure::I) ((d, .str ys)::s) H):AD P A G K (⟨some d, .convert T U x,R,D,S,none⟩::C) I s H:=
 bU rfl (eY λg w a ho=>by
  obtain⟨p,cap,sz,Vs,e,c1,c2,c3,aj,c5,c6⟩:=op1 hx We ho
  obtain⟨_,dd,_,t1,t2,t3,t4,_⟩:=(eH hT).ex
  have hd:∃e,dd = .slice e:=Wk
  obtain⟨i,rfl⟩:=hd
  have a0:i=f.elem:=t4
  subst a0
  obtain⟨_,d2,_,_,e2,e3,_⟩:=(eH hE).ex
  have u:=Ki (e3.trans z)
  subst u
  obtain⟨_,d3,_,_,u2,u3,_⟩:=(eH hU).ex
  have y:=Er (u3.trans a1)
  subst y
  have t:Vs=ns.map (Value.int .u8):=by
   have ab:∀(c:List Int) (Us:List Value),AM g w (c.map (AV.int .u8)) Us->Us=c.map (Value.int .u8):=by
    intro c
    induction c with
    |nil=>intro Us h;exact h
    |cons m c E=>
     rintro Us ⟨v,r,rfl,l,o⟩
     rw[E r o,show v = .int .u8 m from l];rfl
   grind
  subst t
  refine⟨.string ⟨ys.toArray⟩, ?_,rfl⟩
  have b:(Go.Conv.bytesToString (.slice p (ns.map (Value.int .u8)).length cap)).run P w = .ok (.string ⟨ys.toArray⟩) w:=by
   cases p with
   |none=>
    have:=(c5 rfl).1
    have hn:ns=[]:=by simpa using this
    subst hn
    subst hy
    simp[Go.Conv.bytesToString];rfl
   |some q=>
    obtain⟨hs,hm⟩:=c6 q rfl
    have hl:(loadCells q (ns.map (Value.int .u8)).length).run P w = .ok (ns.map (Value.int .u8)).toArray w:=by
     refine run_loadCells_list w q (ns.map (Value.int .u8)) (λj v hj=> ?_)
     obtain⟨l,o⟩:=hm j v hj
     rw[List.getElem?_map]at hj
     obtain⟨n,hn,rfl⟩:=Option.map_eq_some_iff.1 hj
     have hz:sz=1:=by rw[<-l];rfl
     obtain⟨_,h3,_⟩:=o 0 (.int .u8 n) rfl
     have hq:q.spot=none:=hs.resolve_right (by intro e0;rw[List.map_eq_nil_iff]at e0;subst e0;simp at hn)
     rw[hz]at h3
     obtain⟨qb,qo,qs⟩:=q
     simp only at hq h3
     subst hq
     rw[show (⟨qb,qo,none⟩:Addr).add j=⟨qb,qo+j * 1+0,none⟩ by unfold Addr.add;split<;>simp_all]
     exact h3
    rw[run_bytesToString w q _ cap ns hl,GK,hy]
    rfl
  have O:=run_convert_bytes_string (P:=P) w T U f.elem p (ns.map (Value.int .u8)).length cap t2 e2 u2
  rw[b,length_map]at O
  rw[length_map]at e
  simp[execOp,e,O,Result.andThen]) k
end
end Go.Av
namespace Go.Proofs.YtimbiifcnhgcoaaGreatDoor
open Go Go.Av Go.Proofs.Tryz
attribute [local irreducible] AB AD AN AI Av.AU AZ
def Li(a:Nat):UInt8:=UInt8.ofNat (48+a % 10)
def PW(n m:Int)(out:AG):Prop:=(if m=0 then [] else Lib.decDigits m.natAbs)++out=Lib.decDigits n.natAbs
def PX{n m:Int}{a:AG}(b:m≠0)(h:PW n m a):PW n (m.tdiv 10) (Li m.natAbs::a):=by
 unfold PW at h ⊢;rw[if_neg b]at h;rw[<-h];have ht:(m.tdiv 10).natAbs=m.natAbs/10:=by rw[Int.natAbs_tdiv];rfl
 by_cases c:m.natAbs<10
 ·have h0:m.tdiv 10=0:=by have:(m.tdiv 10).natAbs=0:=WE;omega
  rw[if_pos h0,Lib.decDigits_one c];unfold Li;grind
 ·have h0:m.tdiv 10≠0:=by have:(m.tdiv 10).natAbs≠0:=WE;omega
  rw[if_neg h0,ht];conv=>rhs;rw[Lib.decDigits,dif_neg c]
  rw[List.append_assoc];rfl
def Sg(m:Int):(if m.tmod 10<0 then 0-m.tmod 10 else m.tmod 10)=(m.natAbs % 10:Nat):=WZ
def Sh(n:Int)(h0 : -9223372036854775808<=n)(r:n<=9223372036854775807):AN prog 287 [.int .i64 n] (.str (Lib.itoa n)):=by
 refine AI.plain rfl rfl (aS [2] func287 ?_);by_cases e:n=0
 ·subst e;refine .go ?_;refine aP rfl (AC.eq (congrArg AV.str ?_));show _=Lib.itoa ((0:Nat):Int);rw[Lib.itoa_nonneg,Lib.decDigits_one Wd];rfl
 ·have t:(n==0)=false:=by simp[e]
  refine .go ?_;refine AB.loop (λz s H=>∃(m:Int) (a:AG),z=m.natAbs/\m.natAbs<=n.natAbs/\PW n m a/\H=⟨[],[]⟩/\s=[(0, .int .i64 n),(3, .str a),(4, .int .i64 m)])
   (s0:=[(0, .int .i64 n),(3, .str []),(4, .int .i64 n)]) Z9 ⟨n,[],rfl,le_refl _,by unfold PW;rw[if_neg e,append_nil],rfl,rfl⟩ ?_
  rintro z s H ⟨m,a,rfl,hm,hj,rfl,rfl⟩;have ht:(m.tdiv 10).natAbs=m.natAbs/10:=by rw[Int.natAbs_tdiv];rfl
  have b:=Sg m;have l:a.length<=20:=by
   have h3:a.length<=(Lib.decDigits n.natAbs).length:=by rw[<-hj,List.length_append];omega
   rw[Lib.decDigits_length]at h3;exact Nat.le_trans h3 (Lib.nDigits_le20 _ om)
  by_cases f:m=0
  ·subst f;have g:a=Lib.decDigits n.natAbs:=by unfold PW at hj;rwa [if_pos rfl,List.nil_append]at hj
   by_cases d:n<0
   ·have o:decide (n<0)=true:=decide_eq_true d;repeat' first|refine .s1 ?_|(refine .q ?_ ?_<;>intro O)|refine QQ rfl rfl X1 ?_|fail
    refine aP rfl (AC.eq (congrArg AV.str ?_));unfold Lib.itoa;rw[if_pos d,g];rfl
   ·have o:decide (n<0)=false:=decide_eq_false d;refine .go ?_;refine aP rfl (AC.eq (congrArg AV.str ?_));unfold Lib.itoa;rw[if_neg d,g,show n.natAbs=n.toNat by omega]
  ·have u:(m != 0)=true:=by simp[f]
   have h:=PX f hj;have k:IntKind.i64.wrap (m.tdiv 10)=m.tdiv 10:=IntWalk.i64_in _ om;have j:IntKind.u8.wrap ((48+m.natAbs % 10:Nat):Int)=((48+m.natAbs % 10:Nat):Int):=by show ((48+m.natAbs % 10:Nat):Int) % 256=_;omega
   by_cases c:m.tmod 10<0
   ·have i:decide (m.tmod 10<0)=true:=decide_eq_true c;rw[if_pos c]at b;have p:IntKind.i64.wrap (0-m.tmod 10)=((m.natAbs % 10:Nat):Int):=by rw[b];exact IntWalk.i64_in _ om
    repeat' first|refine JJ rfl rfl wa ?_|refine .s1 ?_|(refine .q ?_ ?_<;>intro O)|refine Kh rfl rfl Wd rfl ?_|refine Vp rfl p ?_|refine JJ rfl rfl wa ?_|refine gC rfl rfl rfl rfl j ?_|refine Oz (ns:=[((48+m.natAbs % 10:Nat):Int)]) rfl rfl rfl rfl rfl rfl rfl (show _=[Li m.natAbs] from rfl) ?_|refine QQ rfl rfl X1 ?_|refine NP rfl rfl Wd k ?_|fail
    exact⟨(m.tdiv 10).natAbs,om,[(0, .int .i64 n),(3, .str (Li m.natAbs::a)),(4, .int .i64 (m.tdiv 10))],Z9,rfl,rfl,m.tdiv 10,Li m.natAbs::a,rfl,om,h,rfl,rfl⟩
   ·have i:decide (m.tmod 10<0)=false:=decide_eq_false c;rw[if_neg c]at b;rw[b]at i;repeat' first|refine JJ rfl rfl wa ?_|refine .s1 ?_|(refine .q ?_ ?_<;>intro O)|refine Kh rfl rfl Wd b ?_|refine JJ rfl rfl wa ?_|refine gC rfl rfl rfl rfl j ?_|refine Oz (ns:=[((48+m.natAbs % 10:Nat):Int)]) rfl rfl rfl rfl rfl rfl rfl (show _=[Li m.natAbs] from rfl) ?_|refine QQ rfl rfl X1 ?_|refine NP rfl rfl Wd k ?_|fail
    exact⟨(m.tdiv 10).natAbs,om,[(0, .int .i64 n),(3, .str (Li m.natAbs::a)),(4, .int .i64 (m.tdiv 10))],Z9,rfl,rfl,m.tdiv 10,Li m.natAbs::a,rfl,om,h,rfl,rfl⟩
def OA(n:AG):AN prog 164 [.str n] (iF n).C:=by refine AI.plain (AH.K _) rfl (cE [.cell 2 43] func164 ?_);refine .go ?_;exact aI rfl cF
def MY(n:AG):((n==[73,110,116])=true/\(n==[83,116,114,105,110,103])=false/\(n==[66,111,111,108,101,97,110])=false/\(n==[73,68])=false/\n=C9)\/
  ((n==[73,110,116])=false/\(n==[83,116,114,105,110,103])=true/\(n==[66,111,111,108,101,97,110])=false/\(n==[73,68])=false/\n=dC)\/
  ((n==[73,110,116])=false/\(n==[83,116,114,105,110,103])=false/\(n==[66,111,111,108,101,97,110])=true/\(n==[73,68])=false/\n=g7)\/
  ((n==[73,110,116])=false/\(n==[83,116,114,105,110,103])=false/\(n==[66,111,111,108,101,97,110])=false/\(n==[73,68])=true/\n=sID)\/
  ((n==[73,110,116])=false/\(n==[83,116,114,105,110,103])=false/\(n==[66,111,111,108,101,97,110])=false/\(n==[73,68])=false/\n≠C9/\n≠dC/\n≠g7/\n≠sID):=by
 by_cases a:n=C9
 ·subst a;exact .inl ⟨rfl,rfl,rfl,rfl,rfl⟩
 by_cases b:n=dC
 ·subst b;exact .inr (.inl ⟨rfl,rfl,rfl,rfl,rfl⟩)
 by_cases h3:n=g7
 ·subst h3;exact .inr (.inr (.inl ⟨rfl,rfl,rfl,rfl,rfl⟩))
 by_cases h4:n=sID
 ·subst h4;exact .inr (.inr (.inr (.inl ⟨rfl,rfl,rfl,rfl,rfl⟩)))
 exact .inr (.inr (.inr (.inr ⟨by simpa [C9]using a,by simpa [dC]using b,by simpa [g7]using h3,by simpa [sID]using h4,a,b,h3,h4⟩)))
def MZ(k:Int):((k==2)=true/\(k==1)=false/\(k==4)=false/\k=2)\/((k==2)=false/\(k==1)=true/\(k==4)=false/\k=1)\/((k==2)=false/\(k==1)=false/\(k==4)=true/\k=4)\/((k==2)=false/\(k==1)=false/\(k==4)=false/\k≠2/\k≠1/\k≠4):=by
 by_cases b:k=2
 ·subst b;exact .inl ⟨rfl,rfl,rfl,rfl⟩
 by_cases a:k=1
 ·subst a;exact .inr (.inl ⟨rfl,rfl,rfl,rfl⟩)
 by_cases h4:k=4
 ·subst h4;exact .inr (.inr (.inl ⟨rfl,rfl,rfl,rfl⟩))
 exact .inr (.inr (.inr ⟨X9,Ww,by simp[h4],b,a,h4⟩))
theorem Si(name:AG)(v:AH):oX name v=(if ((name==[73,110,116])&&((v.kind==2)&&(decide (v.n < -2147483648)||decide (2147483647<v.n))))=true then (bP,8)
  else if ((name==[73,68])&&(v.kind==2))=true then (iF (Lib.itoa v.n),0)
  else if (((name==[73,110,116])&&(v.kind==2))||(((name==[66,111,111,108,101,97,110])&&(v.kind==1))||(((name==[83,116,114,105,110,103])||(name==[73,68]))&&(v.kind==4))))=true then (v,0) else (bP,7)):=by unfold oX;simp only[and_eq_true,Bool.or_eq_true,beq_iff_eq,decide_eq_true_eq];rfl
def PY(name:AG)(v:AH)(h0 : -9223372036854775808<=v.n)(k:v.n<=9223372036854775807):AN prog 235 [.str name,v.C] (VE.C (oX name v)):=by
 have X:=Sh v.n h0 k;have ht:=OA (Lib.itoa v.n);refine AI.plain (VE.K _) W3 (cE [.cell 4 43, .tmp 5] func235 ?_);rw[Si];rcases MY name with⟨c,d,a,b,_⟩|⟨c,d,a,b,_⟩|⟨c,d,a,b,_⟩|⟨c,d,a,b,_⟩|⟨c,d,a,b,_⟩<;>rcases MZ v.kind with⟨g,f,h,_⟩|⟨g,f,h,_⟩|⟨g,f,h,_⟩|⟨g,f,h,_⟩<;>rw[c,d,a,b,g,f,h]
 ·by_cases hr:v.n < -2147483648
  ·have i:decide (v.n < -2147483648)=true:=decide_eq_true hr;rw[i];refine .ae ?_;exact aI rfl bQ
  ·have i:decide (v.n < -2147483648)=false:=decide_eq_false hr;by_cases e:2147483647<v.n
   ·have j:decide (2147483647<v.n)=true:=decide_eq_true e;rw[i,j];refine .ae ?_;exact aI rfl bQ
   ·have j:decide (2147483647<v.n)=false:=decide_eq_false e;rw[i,j];refine .ae ?_;exact aO
 all_goals
  refine .ae ?_
  first|exact aI rfl bQ|exact aO
def aA4(name:AG)(m A:List AF)(a:Bool)(y:AH)(e:oI m name=some y)(g:m.length<=68719476736)(he:A.length<=68719476736):AN prog 288 [.str name, .slice (m.map AF.C) .no, .bool a, .slice (A.map AF.C) .no] (.bool (!fS a A y)):=by
 have d:=wH name m om;rw[kC,e]at d;have b:=wH y.s A om;rw[kC]at b;refine AI.plain rfl W6 (aS [8] func288 ?_);unfold fS;cases c:oI A y.s with
 |none=>
  rw[c]at b;cases a<;>cases f:(y.kind==8)
  all_goals
   refine .go ?_;exact bY
 |some z=>
  rw[c]at b;cases a<;>cases f:(y.kind==8)
  all_goals
   refine .go ?_;exact bY
def JK(r:R3):R3:=(r.1,r.2.1&&decide (r.2.2=0),r.2.2)
theorem Dc(b:AH)(a:Int):M3.C (JK (b,true,a)) = .tup [b.C, .bool (a==0), .int .i64 a]:=by
 unfold M3.C JK;have c:(a==0)=decide (a=0):=Yb
 simp only[Bool.true_and,c]
def M0(s:AJ)(a within hb:Bool)(A g:List AF)(dfl D:AP->VE)(p:AP)(he:A.length<=68719476736)(a9:g.length<=68719476736)(hp:p.t.name.length<=68719476736)(o:hb=(p.has&&(!within||dT s p.t.name)))
  (hL:a=true->∀x∈g,AN prog 87 [s.C,p.t.C,x.v.C, .slice (A.map AF.C) .no] (VE.C (qG s a A dfl p.t x.v)))
  (hI:a=false->∀x∈g,AN prog 88 [s.C,p.t.C,x.v.C] (VE.C (qG s a A dfl p.t x.v)))
  (hD:p.has=true->(within=false\/dT s p.t.name=true)->AN prog 87 [s.C,p.t.C,p.d.C, .slice [] .no] (VE.C (D p))):
  AN prog 40 [s.C,p.t.C,(bT p.name g).1.C, .bool (bT p.name g).2, .bool hb,p.d.C, .bool a, .slice (A.map AF.C) .no] (M3.C (JK (o8 s a within A D (mkM s a A dfl g) p))):=by
 have X:=rIs p.t om;have a2:aA [s.C,p.t.C,(bT p.name g).1.C, .bool (bT p.name g).2, .bool hb,p.d.C, .bool a, .slice (A.map AF.C) .no]=true:=Wx
 have n:hb=true->p.has=true/\(within=false\/dT s p.t.name=true):=λh=>by rw[o]at h;simp only[and_eq_true,Bool.or_eq_true,Bool.not_eq_true']at h;exact h
 have l:hb=false->¬(p.has=true/\(within=false\/dT s p.t.name=true)):=λh h2=>by
  have:(p.has&&(!within||dT s p.t.name))=true:=by simp only[and_eq_true,Bool.or_eq_true,Bool.not_eq_true'];exact h2
  rw[<-o,h]at this;cases this
 refine AI.plain (M3.K _) a2 (cE [.cell 16 43, .tmp 17, .tmp 18] func40 ?_);rw[kC];have i:∀ {K:Prop},True:=λ{K}=>trivial
 cases u:oI g p.name with
 |none=>
  rw[Hu u];unfold LY;cases b:hb with
  |true=>
   obtain⟨j,k⟩:=n b;rw[if_pos ⟨j,k⟩];have c:=hD j k;generalize D p=r at c;obtain⟨z,w⟩:=r;unfold VE.C at c;simp only at c;rw[Dc]
   repeat' first|refine .br ?_|refine .s1 ?_|(refine .q ?_ ?_<;>intro O)|refine aH rfl c (AA.cons (aG _) (AA.cons (aG _) (AA.cons (aG _) (AA.cons (AC.no (aB _)) (aB _))))) ?_|fail
   exact aO
  |false=>
   rw[if_neg (l b)];cases b4:isT p.t<;>rw[b4]at X
   all_goals
    refine .ae ?_;exact aI rfl yG
 |some x=>
  rw[Hv u];have hx:∃m∈g,m.v=x:=by unfold oI at u;rw[Option.map_eq_some_iff]at u;obtain⟨m,h1,h2⟩:=u;exact⟨m,List.mem_of_find?_eq_some h1,h2⟩
  obtain⟨m,hm,rfl⟩:=hx;have f:=wH m.v.s A om;rw[kC]at f;cases a with
  |false=>
   have ht:fS false A m.v=true:=by unfold fS;simp
   rw[if_pos ht];have ha:=hI rfl m hm;generalize qG s false A dfl p.t m.v=r at ha;obtain⟨z,w⟩:=r;unfold VE.C at ha;simp only at ha;rw[Dc];refine .ae ?_;exact aO
  |true=>
   have ha:=hL rfl m hm;cases k8:(m.v.kind==8) with
   |false=>
    have ht:fS true A m.v=true:=by unfold fS;rw[k8];rfl
    rw[if_pos ht];generalize qG s true A dfl p.t m.v=r at ha;obtain⟨z,w⟩:=r;unfold VE.C at ha;simp only at ha;rw[Dc];refine .ae ?_;exact aO
   |true=>
    cases e:oI A m.v.s with
    |some y=>
     have ht:fS true A m.v=true:=by unfold fS;rw[k8,e];rfl
     rw[if_pos ht];rw[e]at f;generalize qG s true A dfl p.t m.v=r at ha;obtain⟨z,w⟩:=r;unfold VE.C at ha;simp only at ha;rw[Dc];refine .ae ?_;exact aO
    |none=>
     have ht:fS true A m.v=false:=by unfold fS;rw[k8,e];rfl
     rw[if_neg (by rw[ht];decide)];rw[e]at f;unfold LY;cases b:hb with
     |true=>
      obtain⟨j,k⟩:=n b;rw[if_pos ⟨j,k⟩];have c:=hD j k;generalize D p=r at c;obtain⟨z,w⟩:=r;unfold VE.C at c;simp only at c;rw[Dc]
      repeat' first|refine .br ?_|refine .s1 ?_|(refine .q ?_ ?_<;>intro O)|refine aH rfl c (AA.cons (aG _) (AA.cons (aG _) (AA.cons (aG _) (AA.cons (AC.no (aB _)) (aB _))))) ?_|fail
      exact aO
     |false=>
      rw[if_neg (l b)];cases b4:isT p.t<;>rw[b4]at X
      all_goals
       refine .ae ?_;exact aI rfl yG
def Uv(s:AJ)(hs:s.size<=1048576)(b:Bool)(A m:List AF)(ps:List AP)(R:AP->R3)(he:A.length<=68719476736)(hm:m.length<=68719476736)(a5:ps.length<=68719476736)
  (hG:∀p∈ps,AN prog 40 [s.C,p.t.C,(bT p.name m).1.C, .bool (bT p.name m).2, .bool (p.has&&dT s p.t.name),p.d.C, .bool b, .slice (A.map AF.C) .no] (M3.C (JK (R p)))):
  AN prog 236 [s.C, .slice (ps.map AP.C) .no, .slice (m.map AF.C) .no, .bool b, .slice (A.map AF.C) .no] (VE.C (if m.any (gM b A m ps)=true then (bP,6) else if (gL R ps).2≠0 then (bP,(gL R ps).2) else (.mk 7 0 [] [] (gL R ps).1,0))):=by
 refine AI.plain (VE.K _) Xo (cE [.cell 10 43, .tmp 11] func236 ?_);refine .ae ?_;refine bK m.length (λk=>[(12, .int .i64 k),(1, .slice (ps.map AP.C) .no),(2, .slice (m.map AF.C) .no),(3, .bool b),(4, .slice (A.map AF.C) .no),(5, .ac s.C),(10, .ptr 0 0)])
  (λ_=>⟨[.cells fF],[]⟩) (λk=>(m.take k).any (gM b A m ps)=false) Z9 rfl (by rw[take_zero];rfl) λk hk hj=> ?_
 by_cases x:k<m.length
 ·have d1:decide ((k:Int)<(m.length:Int))=true:=by simp[x]
  have x1:=aV (f:=AF.C) x;have u:=getElem_mem x;have v:=Oi ps m[k].name a5;obtain⟨y,hy⟩:=L0 u;have l:=aA4 m[k].name m A b y hy hm he;have g:gM b A m ps m[k]=((sB ps m[k].name).isNone&&fS b A y):=by unfold gM;rw[hy]
  have a:(m.take (k+1)).any (gM b A m ps)=gM b A m ps m[k]:=by rw[take_succ_eq_append_getElem x,List.any_append,hj];simp
  cases o:sB ps m[k].name with
  |none=>
   have e1:qC ps m[k].name=(Iv,false):=by rw[qC,o]
   rw[e1]at v;rw[o]at g;cases c:fS b A y with
   |true=>rw[c]at l g;have z:m.any (gM b A m ps)=true:=List.any_eq_true.2 ⟨_,u,g⟩;rw[if_pos z];refine .go ?_;exact aI rfl bQ
   |false=>rw[c]at l g;refine .go ?_;exact⟨x,Z9,Wj,W1,rfl,a.trans g⟩
  |some p=>
   have e1:qC ps m[k].name=(p,true):=by rw[qC,o]
   rw[e1]at v;rw[o]at g;refine .go ?_;exact⟨x,Z9,Wj,W1,rfl,a.trans g⟩
 ·have d1:decide ((k:Int)<(m.length:Int))=false:=by simp;omega
  obtain rfl:k=m.length:=om
  rw[take_length]at hj;rw[if_neg (by rw[hj];decide)];refine .go ?_;refine lC 1 4 true 6 rfl rfl rfl rfl rfl rfl rfl rfl ?_;refine bK ps.length (λk=>[(16, .int .i64 k),(1, .slice (ps.map AP.C) .no),(2, .slice (m.map AF.C) .no),(3, .bool b),(4, .slice (A.map AF.C) .no),(5, .ac s.C),(10, .ptr 0 0),(15, .ptr 1 0)])
   (λk=>⟨[.cells fF, .cells [.int .i64 7, .int .i64 0, .str [], .slice [] .nil, .slice ((d6 R (ps.take k)).map AF.C) (.own 0 6)]],[.len (d6 R (ps.take k)).length]⟩) (vD R ps)
   Z9 rfl (uW R ps) λk hk w=> ?_
  by_cases i:k<ps.length
  ·have d2:decide ((k:Int)<(ps.length:Int))=true:=by simp[i]
   have x2:=aV (f:=AP.C) i;have hg:=wH ps[k].name m om;have e:=hG ps[k] (getElem_mem i);have ab:=GD s ps[k].t.name hs;have je:=yH i w;have jn:=uX i w;have l:=sX R (ps.take k);rw[List.length_take]at l;have a:d6 R (ps.take (k+1))=d6 R (ps.take k)++(if (R ps[k]).2.1=true then [.mk ps[k].name (R ps[k]).1] else []):=by rw[take_succ_eq_append_getElem i,pS,d6,d6,append_nil]
   generalize R ps[k]=r at e je jn a;obtain⟨rv,rb,re⟩:=r;unfold M3.C JK at e;simp only at e je jn a;generalize bT ps[k].name m=gv at hg e;cases a0:ps[k].has with
   |true=>
    rw[a0,Bool.true_and]at e;by_cases j:re=0
    ·subst j;have h:=jn rfl;simp only[decide_true,Bool.and_true]at e;cases rb with
     |true=>
      rw[if_pos rfl]at a
      repeat' first|refine bJ (d:=17) rfl rfl rfl rfl rfl ?_|refine b8 17 rfl (bE rfl rfl rfl rfl) ?_|refine .s1 ?_|(refine .q ?_ ?_<;>intro O)|refine bC (agg:=true) rfl rfl rfl rfl rfl rfl rfl rfl rfl rfl rfl ?_|refine bW (n:=(d6 R (ps.take k)).length) rfl rfl rfl rfl rfl rfl rfl rfl (length_map ..) rfl Wa Wa rfl ?_|fail
      exact⟨i,Z9,Wj,Zd,Zo,h⟩
     |false=>
      rw[if_neg Wd,append_nil]at a
      repeat' first|refine bJ (d:=17) rfl rfl rfl rfl rfl ?_|refine b8 17 rfl (bE rfl rfl rfl rfl) ?_|refine .s1 ?_|(refine .q ?_ ?_<;>intro O)|refine bC (agg:=true) rfl rfl rfl rfl rfl rfl rfl rfl rfl rfl rfl ?_|fail
      exact⟨i,Z9,Wj,W1,WQ,h⟩
    ·have a4:(re != 0)=true:=by simpa using j
     rw[je j,if_pos j]
     repeat' first|refine bJ (d:=17) rfl rfl rfl rfl rfl ?_|refine b8 17 rfl (bE rfl rfl rfl rfl) ?_|refine .s1 ?_|(refine .q ?_ ?_<;>intro O)|refine bC (agg:=true) rfl rfl rfl rfl rfl rfl rfl rfl rfl rfl rfl ?_|fail
     exact aI rfl bQ
   |false=>
    rw[a0,Bool.false_and]at e;by_cases j:re=0
    ·subst j;have h:=jn rfl;simp only[decide_true,Bool.and_true]at e;cases rb with
     |true=>
      rw[if_pos rfl]at a
      repeat' first|refine bJ (d:=17) rfl rfl rfl rfl rfl ?_|refine b8 17 rfl (bE rfl rfl rfl rfl) ?_|refine .s1 ?_|(refine .q ?_ ?_<;>intro O)|refine bC (agg:=true) rfl rfl rfl rfl rfl rfl rfl rfl rfl rfl rfl ?_|refine bW (n:=(d6 R (ps.take k)).length) rfl rfl rfl rfl rfl rfl rfl rfl (length_map ..) rfl Wa Wa rfl ?_|fail
      exact⟨i,Z9,Wj,Zd,Zo,h⟩
     |false=>
      rw[if_neg Wd,append_nil]at a
      repeat' first|refine bJ (d:=17) rfl rfl rfl rfl rfl ?_|refine b8 17 rfl (bE rfl rfl rfl rfl) ?_|refine .s1 ?_|(refine .q ?_ ?_<;>intro O)|refine bC (agg:=true) rfl rfl rfl rfl rfl rfl rfl rfl rfl rfl rfl ?_|fail
      exact⟨i,Z9,Wj,W1,WQ,h⟩
    ·have a4:(re != 0)=true:=by simpa using j
     rw[je j,if_pos j]
     repeat' first|refine bJ (d:=17) rfl rfl rfl rfl rfl ?_|refine b8 17 rfl (bE rfl rfl rfl rfl) ?_|refine .s1 ?_|(refine .q ?_ ?_<;>intro O)|refine bC (agg:=true) rfl rfl rfl rfl rfl rfl rfl rfl rfl rfl rfl ?_|fail
     exact aI rfl bQ
  ·have d2:decide ((k:Int)<(ps.length:Int))=false:=by simp;omega
   obtain rfl:k=ps.length:=om
   rw[yI w,if_neg Wb];refine .go ?_;refine aI rfl ?_;rw[take_length];exact AC.tup (AA.cons E3 (aB _))
def qQ(s:AJ)(lit:Bool)(A:List AF)(dfl:AP->VE)(alone:Bool)(v:AH)(t:Ac):VE:=if (!alone&&gR lit t v.kind)=true then (bP,7) else mkV s lit A dfl v t
theorem OB(a:AH->Bool)(F:AH->AH×Int):∀l,lN a F l=lN (λ_=>false) (λx=>if a x=true then (bP,7) else F x) l
 |[]=>rfl
 |x::l=>by rw[lN,lN, <-OB a F l];grind
theorem PZ{v:AH}(h:gW fO v=true)(k:v.kind=0):v=bP:=by rw[lF,if_neg om,if_neg om]at h;obtain⟨c,n,str,l,m⟩:=v;unfold lE at h;subst k;rw[and_eq_true,and_eq_true]at h;obtain⟨⟨a,b⟩,h3⟩:=h;obtain rfl:=List.length_eq_zero_iff.1 (of_decide_eq_true a);obtain rfl:=List.length_eq_zero_iff.1 (of_decide_eq_true b);change (n==0&&str==[])=true at h3;rw[and_eq_true,beq_iff_eq,beq_iff_eq]at h3;obtain⟨rfl,rfl⟩:=h3;rfl
def Sj(s:AJ)(hs:s.size<=1048576)(a:Bool)(A:List AF)(dfl:AP->VE)(v:AH)(t:Ac)(f:v.kind=8)(he:A.length<=68719476736)(ht:t.name.length<=68719476736):
  AN prog 156 [s.C,t.C,v.C, .bool a, .bool true, .slice (A.map AF.C) .no] (VE.C (qQ s true A dfl a v t)):=by
 have b:=wH v.s A om;have X:=rIs t om;rw[kC]at b;have e:(!a&&gR true t v.kind)=false:=by rw[f];unfold gR;simp
 unfold qQ;rw[if_neg (by rw[e];decide),rH,if_pos ⟨rfl,f⟩];have j:(v.kind==8)=true:=by simp[f]
 refine AI.plain (VE.K _) Wx (cE [.cell 12 43, .tmp 13] func156 ?_);cases g:oI A v.s with
 |none=>
  rw[g]at b;cases c:isT t<;>rw[c]at X
  all_goals
   repeat' first|refine AD.br (d:=6) ?_|refine AD.br (d:=7) ?_|refine .s1 ?_|(refine .q ?_ ?_<;>intro O)|fail
   exact aI rfl bQ
 |some x=>
  rw[g]at b;dsimp only;by_cases x0:x.kind=0
  ·have i:(x.kind==0)=true:=by simp[x0]
   cases c:isT t with
   |true=>
    rw[c]at X;rw[if_pos (show x.kind=0/\true=true from⟨x0,rfl⟩)];repeat' first|refine AD.br (d:=6) ?_|refine AD.br (d:=7) ?_|refine .s1 ?_|(refine .q ?_ ?_<;>intro O)|fail
    exact aI rfl bQ
   |false=>
    rw[c]at X;rw[if_neg (show ¬(x.kind=0/\false=true) by simp)];repeat' first|refine AD.br (d:=6) ?_|refine AD.br (d:=7) ?_|refine .s1 ?_|(refine .q ?_ ?_<;>intro O)|fail
    exact aO
  ·have i:(x.kind==0)=false:=by simp[x0]
   rw[if_neg (λh=>x0 h.1)];repeat' first|refine AD.br (d:=6) ?_|refine AD.br (d:=7) ?_|refine .s1 ?_|(refine .q ?_ ?_<;>intro O)|fail
   exact aO
def P0(s:AJ)(o i:Bool)(A:List AF)(v:AH)(t:Ac)(F:AH->AH×Int)(hr:cG t=true)(hl:t.an≠0)(z:v.kind=6)(hv:v.size<=1048576)(ht:t.name.length<=68719476736)
  (hF:∀x∈v.l,AN prog 156 [s.C,(cB t).C,x.C, .bool false, .bool o, .slice (A.map AF.C) .no] (VE.C (F x))):
  AN prog 156 [s.C,t.C,v.C, .bool i, .bool o, .slice (A.map AF.C) .no] (VE.C (kH (λ_=>false) F v.l)):=by
 have p:=KX t om;unfold fU at p;rw[if_pos ⟨hr,hl⟩]at p;have q8:(v.kind==8)=false:=by simp[z]
 have q0:(v.kind==0)=false:=by simp[z]
 have q6:(v.kind != 6)=false:=by simp[z]
 have a3:=v.bt;refine AI.plain (VE.K _) Wx (cE [.cell 12 43, .tmp 13] func156 ?_);cases o with
 |false=>
  repeat' first|refine .br ?_|refine bJ (d:=17) rfl rfl rfl rfl rfl ?_|refine b8 17 rfl (bE rfl rfl rfl rfl) ?_|refine .s1 ?_|(refine .q ?_ ?_<;>intro O)|refine bC (agg:=true) rfl rfl rfl rfl rfl rfl rfl rfl rfl rfl rfl ?_|fail
  refine lC 2 3 true 5 rfl rfl rfl rfl rfl rfl rfl rfl ?_;refine bK v.l.length (λk=>[(22, .int .i64 k),(4, .bool false),(5, .slice (A.map AF.C) .no),(6, .ac s.C),(8, .ac v.C),(12, .ptr 0 0),(14, .ptr 1 0),(17, .ac (cB t).C),(21, .ptr 2 0)])
   (λk=>⟨[.cells fF, .cells fF, .cells [.int .i64 6, .int .i64 0, .str [], .slice (((v.l.take k).map (λx=>(F x).1)).map AH.C) (.own 1 5), .slice [] .nil]],[.len 2, .len k]⟩) (HL (λ_=>false) F v.l)
   Z9 rfl (Ee _ _ _) λk hk hj=> ?_
  by_cases b:k<v.l.length
  ·have u:decide ((k:Int)<(v.lv.length:Int))=true:=by rw[v.bb];simp[b]
   have x1:=lD b;have O:=hF v.l[k] (getElem_mem b);have w:=Hx b hj rfl;have y:=Ef b hj rfl;have h:((v.l.take k).map (λx=>(F x).1)).length=k:=XL
   have c:(((v.l.take k).map (λx=>(F x).1)).map AH.C).length=k:=Zx
   have f:(v.l.take (k+1)).map (λx=>(F x).1)=(v.l.take k).map (λx=>(F x).1)++[(F v.l[k]).1]:=Xs
   by_cases a:(F v.l[k]).2=0
   ·have j:=y a;generalize hr:F v.l[k]=r at O a f;obtain⟨rv,re⟩:=r;simp only at a f;subst a;unfold VE.C at O;simp only at O
    repeat' first|refine .s1 ?_|(refine .q ?_ ?_<;>intro O)|refine bW (n:=k) rfl rfl rfl rfl rfl rfl rfl rfl c rfl Wa Wa rfl ?_|fail
    exact⟨b,Z9,Wj,X6,by rw[f,map_append];rfl,j⟩
   ·have m:=w a;have g:((F v.l[k]).2 != 0)=true:=by simpa using a
    have e:kH (λ_=>false) F v.l=(bP,(F v.l[k]).2):=Z4
    rw[e];generalize F v.l[k]=r at O a g;obtain⟨rv,re⟩:=r;simp only at a g;unfold VE.C at O;simp only at O;refine .go ?_;exact aI rfl bQ
  ·have u:decide ((k:Int)<(v.lv.length:Int))=false:=by rw[v.bb];simp;omega
   obtain rfl:k=v.l.length:=om
   have m:=Hy hj;have e:kH (λ_=>false) F v.l=(.mk 6 0 [] (v.l.map λx=>(F x).1) [],0):=by unfold kH;rw[m];rfl
   rw[e];refine .go ?_;refine aI rfl ?_;rw[take_length];exact AC.tup (AA.cons nD (aB _))
 |true=>
  repeat' first|refine .br ?_|refine bJ (d:=17) rfl rfl rfl rfl rfl ?_|refine b8 17 rfl (bE rfl rfl rfl rfl) ?_|refine .s1 ?_|(refine .q ?_ ?_<;>intro O)|refine bC (agg:=true) rfl rfl rfl rfl rfl rfl rfl rfl rfl rfl rfl ?_|fail
  refine lC 2 3 true 5 rfl rfl rfl rfl rfl rfl rfl rfl ?_;refine bK v.l.length (λk=>[(22, .int .i64 k),(4, .bool true),(5, .slice (A.map AF.C) .no),(6, .ac s.C),(8, .ac v.C),(12, .ptr 0 0),(14, .ptr 1 0),(17, .ac (cB t).C),(21, .ptr 2 0)])
   (λk=>⟨[.cells fF, .cells fF, .cells [.int .i64 6, .int .i64 0, .str [], .slice (((v.l.take k).map (λx=>(F x).1)).map AH.C) (.own 1 5), .slice [] .nil]],[.len 2, .len k]⟩) (HL (λ_=>false) F v.l)
   Z9 rfl (Ee _ _ _) λk hk hj=> ?_
  by_cases b:k<v.l.length
  ·have u:decide ((k:Int)<(v.lv.length:Int))=true:=by rw[v.bb];simp[b]
   have x1:=lD b;have O:=hF v.l[k] (getElem_mem b);have w:=Hx b hj rfl;have y:=Ef b hj rfl;have h:((v.l.take k).map (λx=>(F x).1)).length=k:=XL
   have c:(((v.l.take k).map (λx=>(F x).1)).map AH.C).length=k:=Zx
   have f:(v.l.take (k+1)).map (λx=>(F x).1)=(v.l.take k).map (λx=>(F x).1)++[(F v.l[k]).1]:=Xs
   by_cases a:(F v.l[k]).2=0
   ·have j:=y a;generalize hr:F v.l[k]=r at O a f;obtain⟨rv,re⟩:=r;simp only at a f;subst a;unfold VE.C at O;simp only at O
    repeat' first|refine .s1 ?_|(refine .q ?_ ?_<;>intro O)|refine bW (n:=k) rfl rfl rfl rfl rfl rfl rfl rfl c rfl Wa Wa rfl ?_|fail
    exact⟨b,Z9,Wj,X6,by rw[f,map_append];rfl,j⟩
   ·have m:=w a;have g:((F v.l[k]).2 != 0)=true:=by simpa using a
    have e:kH (λ_=>false) F v.l=(bP,(F v.l[k]).2):=Z4
    rw[e];generalize F v.l[k]=r at O a g;obtain⟨rv,re⟩:=r;simp only at a g;unfold VE.C at O;simp only at O;refine .go ?_;exact aI rfl bQ
  ·have u:decide ((k:Int)<(v.lv.length:Int))=false:=by rw[v.bb];simp;omega
   obtain rfl:k=v.l.length:=om
   have m:=Hy hj;have e:kH (λ_=>false) F v.l=(.mk 6 0 [] (v.l.map λx=>(F x).1) [],0):=by unfold kH;rw[m];rfl
   rw[e];refine .go ?_;refine aI rfl ?_;rw[take_length];exact AC.tup (AA.cons nD (aB _))
def Sk(s:AJ)(b a:Bool)(A:List AF)(v:AH)(t:Ac)(r:AH×Int)(hr:cG t=true)(h:t.an≠0)(g:¬(b=true/\v.kind=8))(i:v.kind≠0)(j:v.kind≠6)(ht:t.name.length<=68719476736)
  (hF:a=true->AN prog 156 [s.C,(cB t).C,v.C, .bool true, .bool b, .slice (A.map AF.C) .no] (VE.C r)):
  AN prog 156 [s.C,t.C,v.C, .bool a, .bool b, .slice (A.map AF.C) .no] (VE.C (if a=false then (bP,7) else if r.2≠0 then (bP,r.2) else (.mk 6 0 [] [r.1] [],0))):=by
 have c:=KX t om;unfold fU at c;rw[if_pos ⟨hr,h⟩]at c;have m:(v.kind==0)=false:=YC
 have n:(v.kind != 6)=true:=by simp[j]
 have hw:b=false\/(b=true/\(v.kind==8)=false):=by
  cases b with
  |false=>exact .inl rfl
  |true=>exact .inr ⟨rfl,by simpa using g⟩
 refine AI.plain (VE.K _) Wx (cE [.cell 12 43, .tmp 13] func156 ?_);cases a with
 |false=>
  rw[if_pos rfl];rcases hw with rfl|⟨rfl,q8⟩
  all_goals
   refine .ae ?_;exact aI rfl bQ
 |true=>
  rw[if_neg Wd];have hf:=hF rfl;obtain⟨k,e⟩:=r;unfold VE.C at hf;simp only at hf ⊢;by_cases d:e=0
  ·subst d;rw[if_neg Wb];rcases hw with rfl|⟨rfl,q8⟩
   all_goals
    refine .ae ?_;exact aI rfl (AC.tup (AA.cons (nD (l:=[k])) (aB _)))
  ·have f:(e != 0)=true:=by simpa using d
   rw[if_pos d];rcases hw with rfl|⟨rfl,q8⟩
   all_goals
    refine .ae ?_;exact aI rfl bQ
def P1(s:AJ)(hs:s.size<=1048576)(a i:Bool)(A:List AF)(dfl:AP->VE)(v:AH)(t:Ac)(h8:¬(a=true/\v.kind=8))(hr:cG t=true)(hl:v.kind=0\/t.an=0)(hg:gW fO v=true)(ht:t.name.length<=68719476736)(h0 : -9223372036854775808<=v.n)(h1:v.n<=9223372036854775807)
  (a3:∀d,dW s t.name=some d->d.kind=5->v.kind=7->AN prog 236 [s.C, .slice (d.params.map AP.C) .no, .slice v.mv .no, .bool a, .slice (A.map AF.C) .no] (VE.C (m9 s a A dfl (mkM s a A dfl v.m) d))):
  AN prog 156 [s.C,t.C,v.C, .bool i, .bool a, .slice (A.map AF.C) .no] (VE.C (mkV s a A dfl v t)):=by
 have X:=rIs t om;have o:=KX t om;have hf:=zK s t.name hs;have hw:a=false\/(a=true/\(v.kind==8)=false):=by
  cases a with
  |false=>exact .inl rfl
  |true=>exact .inr ⟨rfl,by simpa using h8⟩
 refine AI.plain (VE.K _) Wx (cE [.cell 12 43, .tmp 13] func156 ?_);by_cases k:v.kind=0
 ·have q0:(v.kind==0)=true:=by simp[k]
  rw[rH,if_neg h8,if_pos k,PZ hg k];cases c:isT t<;>rw[c]at X
  all_goals
   rcases hw with rfl|⟨rfl,q8⟩
   all_goals
    refine .ae ?_;exact aI rfl bQ
 ·have q0:(v.kind==0)=false:=by simp[k]
  have p:=hl.resolve_left k;unfold fU at o;rw[if_neg (λh=>h.2 p)]at o;rw[rH,if_neg h8,if_neg k,if_neg (λh=>h.2 p)];unfold mB;unfold bN at hf;have a4:(t.name==[])=false:=by have:=(fR.1 hr).1;rw[beq_eq_false_iff_ne];intro e;rw[e]at this;exact absurd this Wd
  cases b:dW s t.name with
  |none=>
   rw[b]at hf;rcases hw with rfl|⟨rfl,q8⟩
   all_goals
    refine .ae ?_;exact aI rfl bQ
  |some d=>
   rw[b]at hf;dsimp only at hf ⊢;have a2:d.name=t.name:=by
    unfold dW at b;split at b
    ·cases b;rfl
    ·simpa using List.find?_some b
   by_cases w:d.kind=0
   ·have e0:(d.kind==0)=true:=by simp[w]
    have en:(d.name==[])=false:=by rw[a2];exact a4
    rw[if_pos w];have j:=PY t.name v h0 h1;generalize oX t.name v=r at j;obtain⟨rv,re⟩:=r;unfold VE.C at j;simp only at j;rcases hw with rfl|⟨rfl,q8⟩
    all_goals
     refine .ae ?_;exact aO
   ·have e0:(d.kind==0)=false:=by simp[w]
    rw[if_neg w];by_cases x:d.kind=4
    ·have e4:(d.kind==4)=true:=by simp[x]
     rw[if_pos x];have a1:d.ax.length<=9223372036854775807:=by have:=(g9 (name:=t.name) (show s.size<=68719476736 by omega)).2.1;unfold bN at this;rw[b]at this;simp only at this;omega
     have g:=Cv d.ax v.s a1;have ad:=OA v.s;unfold uJ;by_cases q:v.s∈d.ax
     ·rw[decide_eq_true q]at g;rcases hw with rfl|⟨rfl,q8⟩
      ·by_cases y:v.kind=4
       ·have q4:(v.kind != 4)=false:=by simp[y]
        rw[if_pos ⟨by rw[if_neg Wd];exact y,q⟩];refine .ae ?_;exact aO
       ·have q4:(v.kind != 4)=true:=by simp[y]
        rw[if_neg (λh=>y (by have:=h.1;rwa [if_neg Wd]at this))];refine .ae ?_;exact aI rfl bQ
      ·by_cases z:v.kind=5
       ·have q5:(v.kind != 5)=false:=by simp[z]
        rw[if_pos ⟨by rw[if_pos rfl];exact z,q⟩];refine .ae ?_;exact aO
       ·have q5:(v.kind != 5)=true:=by simp[z]
        rw[if_neg (λh=>z (by have:=h.1;rwa [if_pos rfl]at this))];refine .ae ?_;exact aI rfl bQ
     ·rw[decide_eq_false q]at g;rw[if_neg (λh=>q h.2)];rcases hw with rfl|⟨rfl,q8⟩
      ·cases q4:(v.kind != 4)
       all_goals
        refine .ae ?_;exact aI rfl bQ
      ·cases q5:(v.kind != 5)
       all_goals
        refine .ae ?_;exact aI rfl bQ
    ·have e4:(d.kind==4)=false:=by simp[x]
     rw[if_neg x];by_cases l:d.kind=5
     ·have e5:(d.kind==5)=true:=by simp[l]
      rw[if_pos l];by_cases u:v.kind=7
      ·have q7:(v.kind != 7)=false:=by simp[u]
       rw[if_pos u];have f:=a3 d b l u;generalize m9 s a A dfl (mkM s a A dfl v.m) d=r at f;obtain⟨rv,re⟩:=r;unfold VE.C at f;simp only at f;rcases hw with rfl|⟨rfl,q8⟩
       all_goals
        refine .ae ?_;exact aO
      ·have q7:(v.kind != 7)=true:=by simp[u]
       rw[if_neg u];rcases hw with rfl|⟨rfl,q8⟩
       all_goals
        refine .ae ?_;exact aI rfl bQ
     ·have e5:(d.kind==5)=false:=by simp[l]
      rw[if_neg l];rcases hw with rfl|⟨rfl,q8⟩
      all_goals
       refine .ae ?_;exact aI rfl bQ
def Lj(v:AH)(a:v.size<=1048576):AN prog 155 [v.C] (.bool (gW fO v)):=GC 1048576 (le_refl _) v a
def GL(s:AJ)(A:List AF)(dfl:AP->VE)(v:AH)(t:Ac)(e:v.size<=1048576)(ht:t.name.length<=68719476736)
  (d:cG t=true->gW fO v=true->AN prog 156 [s.C,t.C,v.C, .bool true, .bool true, .slice (List.map AF.C A) .no] (VE.C (mkV s true A dfl v t))):
  AN prog 87 [s.C,t.C,v.C, .slice (A.map AF.C) .no] (VE.C (qG s true A dfl t v)):=by
 have hr:=kT t om;have c:=Lj v e;refine AI.plain (VE.K _) Wx (cE [.cell 8 43, .tmp 9] func87 ?_);unfold qG;cases a:cG t with
 |false=>rw[a]at hr;refine .ae ?_;exact aI rfl bQ
 |true=>
  rw[a]at hr;cases b:gW fO v with
  |false=>rw[b]at c;refine .ae ?_;exact aI rfl bQ
  |true=>
   rw[b]at c;rw[if_pos ⟨rfl,rfl⟩];have hk:=d a b;generalize mkV s true A dfl v t=r at hk;obtain⟨g,f⟩:=r;unfold VE.C at hk;simp only at hk
   repeat' first|refine .br ?_|refine .s1 ?_|(refine .q ?_ ?_<;>intro O)|fail
   exact aO
def Sm(s:AJ)(dfl:AP->VE)(v:AH)(t:Ac)(e:v.size<=1048576)(ht:t.name.length<=68719476736)
  (d:cG t=true->gW fO v=true->AN prog 156 [s.C,t.C,v.C, .bool true, .bool false, .slice (List.map AF.C []) .no] (VE.C (mkV s false [] dfl v t))):
  AN prog 88 [s.C,t.C,v.C] (VE.C (qG s false [] dfl t v)):=by
 have hr:=kT t om;have c:=Lj v e;refine AI.plain (VE.K _) Wx (cE [.cell 6 43, .tmp 7] func88 ?_);unfold qG;cases a:cG t with
 |false=>rw[a]at hr;refine .ae ?_;exact aI rfl bQ
 |true=>
  rw[a]at hr;cases b:gW fO v with
  |false=>rw[b]at c;refine .ae ?_;exact aI rfl bQ
  |true=>
   rw[b]at c;rw[if_pos ⟨rfl,rfl⟩];have hk:=d a b;generalize mkV s false [] dfl v t=r at hk;obtain⟨g,f⟩:=r;unfold VE.C at hk;simp only at hk
   repeat' first|refine .br ?_|refine .s1 ?_|(refine .q ?_ ?_<;>intro O)|refine aH rfl hk (AA.cons (aG _) (AA.cons (aG _) (AA.cons (aG _) (AA.cons (aG _) (AA.cons (aG _) (AA.cons (AC.no (aB _)) (aB _))))))) ?_|fail
   exact aO
def CT(s:AJ)(dfl:AP->VE):Prop:=∀d∈s.ai,∀p∈d.params,dT s p.t.name=true->AN prog 87 [s.C,p.t.C,p.d.C, .slice [] .no] (VE.C (dfl p))
def Iy(s:AJ)(hs:s.size<=1048576)(b:Bool)(A:List AF)(a8:b=false->A=[])(dfl:AP->VE)(he:A.length<=68719476736)(v:AH)(t:Ac)(a:Bool)(hv:v.size<=1048576)(a9:v.ok)(j:gW fO v=true)(hr:cG t=true)(ht:t.name.length<=68719476736)(O:dT s t.name=true\/CT s dfl)
  (a1:∀x:AH,x.size<v.size->x.ok->gW fO x=true->∀t:Ac,cG t=true->t.name.length<=68719476736->(dT s t.name=true\/CT s dfl)->∀a:Bool,AN prog 156 [s.C,t.C,x.C, .bool a, .bool b, .slice (A.map AF.C) .no] (VE.C (qQ s b A dfl a x t)))
  (r:t.an≠0->AN prog 156 [s.C,(cB t).C,v.C, .bool true, .bool b, .slice (A.map AF.C) .no] (VE.C (qQ s b A dfl true v (cB t)))):
  AN prog 156 [s.C,t.C,v.C, .bool a, .bool b, .slice (A.map AF.C) .no] (VE.C (qQ s b A dfl a v t)):=by
 obtain⟨⟨r0,r1⟩,aa,ab⟩:=E4 a9;have ag:=(fR.1 hr).2.1;by_cases o:b=true/\v.kind=8
 ·obtain⟨rfl,k8⟩:=o;exact Sj s hs a A dfl v t k8 he ht
 ·by_cases hb:v.kind=0\/t.an=0
  ·have z:(!a&&gR b t v.kind)=false:=by unfold gR;grind
   unfold qQ;rw[if_neg (by rw[z];decide)];refine P1 s hs b a A dfl v t o hr hb j ht r0 r1 (λd w d5 k7=> ?_);have u:CT s dfl:=O.elim (λh=>by rw[IY w d5]at h;cases h) id;have q:=L4 w d5;have af:=l9 q;have ae:=d.lens;have ah:=v.b3;have i:∀p∈d.params,p.t.name.length<=68719476736:=λp hp=>by have:=Ah.b2 hp;have:=p.lens;omega
   have hO:=Uv s hs b A v.m d.params (o8 s b true A dfl (mkM s b A dfl v.m)) he om om (λp hp=>by
    have g:∀x∈v.m,cG p.t=true->gW fO x.v=true->AN prog 156 [s.C,p.t.C,x.v.C, .bool true, .bool b, .slice (A.map AF.C) .no] (VE.C (mkV s b A dfl x.v p.t)):=λx hx h1 h2=>by obtain⟨k,hk,rfl⟩:=List.getElem_of_mem hx;exact a1 _ (dQ hk) (ab _ hx) h2 p.t h1 (i p hp) (.inr u) true
    exact M0 s b true (p.has&&dT s p.t.name) A v.m dfl dfl p he om (i p hp) rfl
     (λf x hx=>by subst f;obtain⟨k,hk,rfl⟩:=List.getElem_of_mem hx;have:=dQ hk;exact GL s A dfl _ p.t om (i p hp) (g _ hx))
     (λf x hx=>by have a6:=a8 f;subst f;subst a6;obtain⟨k,hk,rfl⟩:=List.getElem_of_mem hx;have:=dQ hk;exact Sm s dfl _ p.t om (i p hp) (g _ hx))
     (λ_ f=>f.elim (λh=>W0) (λh=>u d q p hp h)))
   rw[<-sW]at hO;unfold m9;rw[Hw,v.bh];exact hO
  ·have k0:v.kind≠0:=λh=>hb (.inl h)
   have f:t.an≠0:=λh=>hb (.inr h)
   have a0:=wP hr f;by_cases n:v.kind=6
   ·have a7:∀x∈v.l,gW fO x=true:=λx hx=>by
     rw[lF,if_pos n,and_eq_true]at j;have a3:∀l:List AH,yK fO l=true->∀x∈l,gW fO x=true:=λl=>by
      induction l with
      |nil=>intro _ x hx;simp at hx
      |cons y l E=>
       intro h x hx;rw[yK,and_eq_true]at h;rcases List.mem_cons.1 hx with rfl|hx
       ·exact h.1
       ·exact E h.2 x hx
     exact a3 _ j.1 x hx
    have h:=P0 s b a A v t (λx=>qQ s b A dfl false x (cB t)) hr f n hv ht (λx hx=>by obtain⟨k,hk,rfl⟩:=List.getElem_of_mem hx;exact a1 _ (dK hk) (aa _ hx) (a7 _ hx) (cB t) a0 ht O false)
    have z:(!a&&gR b t v.kind)=false:=by unfold gR;rw[n];simp
    have e:qQ s b A dfl a v t=kH (λ_=>false) (λx=>qQ s b A dfl false x (cB t)) v.l:=by unfold qQ kH;rw[if_neg (by rw[z];decide),rH,if_neg o,if_neg k0,if_pos ⟨hr,f⟩,if_pos n,J6,OB];simp only[Bool.not_false,Bool.true_and]
    rw[e];exact h
   ·have h:=Sk s b a A v t (mkV s b A dfl v (cB t)) hr f o k0 n ht (λ_=>by have q:=r f;unfold qQ at q;rw[if_neg Wb]at q;exact q)
    have e:qQ s b A dfl a v t=if a=false then (bP,7) else if (mkV s b A dfl v (cB t)).2≠0 then (bP,(mkV s b A dfl v (cB t)).2) else (.mk 6 0 [] [(mkV s b A dfl v (cB t)).1] [],0):=by
     unfold qQ;have z:gR b t v.kind=true:=by
      unfold gR;have h1:decide (0<t.an)=true:=decide_eq_true om;have h2:(v.kind != 6)=true:=by simp[n]
      have h3:(v.kind != 0)=true:=by simp[k0]
      have h4:(!(b&&v.kind==8))=true:=by
       rw[Bool.not_eq_true', Bool.and_eq_false_iff];by_cases c:b=true
       ·exact .inr (by simpa using λh=>o ⟨c,h⟩)
       ·exact .inl WA
      rw[h1,h2,h3,h4];rfl
     rw[z,L3 o k0 n hr f a0];cases a<;>rfl
    rw[e];exact h
def OC(s:AJ)(hs:s.size<=1048576)(b:Bool)(A:List AF)(e:b=false->A=[])(dfl:AP->VE)(he:A.length<=68719476736):∀N:Nat,N<=1048576->∀v:AH,v.size<=N->v.ok->gW fO v=true->∀(j:Nat) (t:Ac),t.an.toNat=j->cG t=true->t.name.length<=68719476736->(dT s t.name=true\/CT s dfl)->∀a:Bool,
  AN prog 156 [s.C,t.C,v.C, .bool a, .bool b, .slice (A.map AF.C) .no] (VE.C (qQ s b A dfl a v t))
 |0,_,v,m=>absurd m X3
 |N+1,o,v,m=>by
  have E:=OC s hs b A e dfl he N om;intro g l j;induction j with
  |zero=>intro t hj hr ht O a;exact Iy s hs b A e dfl he v t a om g l hr ht O (λx hx h d u f i c w=>E x om h d _ u rfl f i c w) (λh0=>absurd (fR.1 hr).2.1 om)
  |succ j k=>intro t hj hr ht O a;exact Iy s hs b A e dfl he v t a om g l hr ht O (λx hx h d u f i c w=>E x om h d _ u rfl f i c w) (λn=>k (cB t) (by show (t.an-1).toNat=j;omega) (wP hr n) ht O true)
def Lk(s:AJ)(hs:s.size<=1048576)(a:s.bu):CT s (cY s):=λd b p hp e=>by have f:=l9 b;have g:=Ah.b2 hp;have h3:=p.lens;have h:=GL s [] IQ p.d p.t om om (λhr c=>OC s hs true [] (λh=>W0) IQ Wd 1048576 (le_refl _) p.d om (a d b p hp) c _ p.t rfl hr om (.inl e) true);exact h
def wU(s:AJ)(hs:s.size<=1048576)(a:s.bu)(A:List AF)(he:A.length<=68719476736)(v:AH)(t:Ac)(c:v.size<=1048576)(b:v.ok)(ht:t.name.length<=68719476736):
  AN prog 87 [s.C,t.C,v.C, .slice (A.map AF.C) .no] (VE.C (qG s true A (cY s) t v)):=
 GL s A (cY s) v t c ht (λhr d=>OC s hs true A (λh=>W0) (cY s) he 1048576 (le_refl _) v c b d _ t rfl hr ht (.inr (Lk s hs a)) true)
def P2(s:AJ)(hs:s.size<=1048576)(a:s.bu)(v:AH)(t:Ac)(c:v.size<=1048576)(b:v.ok)(ht:t.name.length<=68719476736):
  AN prog 88 [s.C,t.C,v.C] (VE.C (qG s false [] (cY s) t v)):=
 Sm s (cY s) v t c ht (λhr d=>OC s hs false [] (λ_=>rfl) (cY s) Wd 1048576 (le_refl _) v c b d _ t rfl hr ht (.inr (Lk s hs a)) true)
def aA5(A:List AF)(d:AO)(he:A.length<=68719476736)(c:d.args.length<=68719476736):AN prog 289 [.slice (A.map AF.C) .no,d.C] (.bool (HI A d)):=by have a:=wH sIf d.args om;have b:=wH (bT sIf d.args).1.s A om;refine pEn 4 func289 ?_;unfold HI;exact .wc
def EV{l:List AO}{k:Nat}(h:k<l.length):gQ name (l.take (k+1))=(gQ name (l.take k)).or (if l[k].name==name then some l[k] else none):=by unfold gQ;rw[take_succ_eq_append_getElem h,List.find?_append,List.find?_cons,List.find?_nil];cases l[k].name==name<;>rfl
def Dd{l:List AO}{k:Nat}(h:k<l.length)(h0:gQ name (l.take k)=none)(a:(l[k].name==name)=true):gQ name l=some l[k]:=by
 have e:l=l.take k++l[k]::l.drop (k+1):=by rw[<-List.drop_eq_getElem_cons h,take_append_drop]
 unfold gQ at h0 ⊢
 conv=>lhs;rw[e]
 rw[List.find?_append,h0,List.find?_cons,a];rfl
def aA6(A:List AF)(l:List AO)(he:A.length<=68719476736)(hl:aC AO.size l<=68719476736):AN prog 237 [.slice (A.map AF.C) .no, .slice (l.map AO.C) .no] (.bool (iT A l)):=by
 have t:=aJ (size:=AO.size) AO.au l;refine pEn 4 func237 ?_;refine .go ?_;refine fX l AO.C (λk=>[(7, .int .i64 k),(5, .bool (gQ oH (l.take k)).isSome),(6, .bool (gQ fP (l.take k)).isSome),(0, .slice (A.map AF.C) .no),(1, .slice (l.map AO.C) .no)]) (λ_=>⟨[],[]⟩)
  (λk=>(∀d,gQ oH (l.take k)=some d->HI A d=false)/\(∀d,gQ fP (l.take k)=some d->HI A d=true)) ⟨λd h=>by simp[gQ]at h,λd h=>by simp[gQ]at h⟩ (λk b d1 x1 hj=> ?_) (λ_ hj=> ?_)
 ·obtain⟨v,w⟩:=hj;have hz:=aN (size:=AO.size) (getElem_mem b);have u:l[k].size=l[k].name.length+aC AF.size l[k].args+3:=rfl;have r:=aJ AF.au l[k].args;have ht:=aA5 A l[k] he om;have f:=λh0 e=>Dd (name:=oH) b h0 e
  have g:=λh0 e=>Dd (name:=fP) b h0 e
  have i:=EV (name:=oH) b;have j:=EV (name:=fP) b;generalize p:gQ oH (l.take (k+1))=z at *
  generalize q:gQ fP (l.take (k+1))=c1 at *
  generalize gQ oH (l.take k)=a at *
  generalize gQ fP (l.take k)=c at *
  generalize hx:l[k]=x at *
  generalize hy:HI A x=y at *
  have n:(x.name==[115,107,105,112])=(x.name==oH):=rfl;have o:(x.name==[105,110,99,108,117,100,101])=(x.name==fP):=rfl;cases e1:x.name==oH<;>cases m:x.name==fP<;>rw[e1]at n i f<;>rw[m]at o j g<;>cases a<;>cases c<;>cases y
  all_goals
   refine .go ?_
   first|exact qA (hr:=by unfold iT;(first|rw[f rfl rfl]|rw[g rfl rfl]);simp_all)|exact nz ⟨Xu,Xu⟩ (hs:=⟨rfl,congrArg AV.bool (by rw[p,i];rfl),congrArg AV.bool (by rw[q,j];rfl),rfl,rfl,trivial⟩)|fail
 ·rw[take_length]at hj ⊢;refine .go ?_;refine qA (hr:= ?_);unfold iT;obtain⟨v,w⟩:=hj;cases b:gQ oH l<;>cases h2:gQ fP l<;>simp_all
def Ll(s:AJ)(u a:AG)(hs:s.size<=1048576):AN prog 239 [s.C, .str u, .str a] (.bool (kV s u a)):=by
 have b:=uA s a hs;have c:=Cv (jG s a) u (by have:=sT s a om;omega);refine pEn 6 func239 ?_;unfold kV;cases d:a==[]<;>cases hr:a==u
 all_goals
  exact .wc
def So(l:List Sl)(t:aC Sl.size l<=68719476736):AN prog 97 [.slice (l.map Sl.C) .no] (.slice ((bO l).map Sl.C) .no):=by
 have g:=aJ Sl.au l;have b:∀l:List Sl,(bO l).length<=aC Sl.size l:=λl=>by
  unfold bO;induction l with
  |nil=>exact le_refl _
  |cons x l E=>have c:=x.ay;have r:=aJ Sl.au x.O;rw[List.flatMap_cons,List.length_append,aC];omega
 refine pEn 2 func97 ?_;refine .go ?_;refine KV l Sl.C Sl.C 7 (λk=>bO (l.take k)) 3 (λk=>[(4, .int .i64 k),(0, .slice (l.map Sl.C) .no)]) rfl (λk c p x1 u=> ?_) (λ_=> ?_) aZ
 ·have e:bO (l.take (k+1))=bO (l.take k)++l[k].O:=by unfold bO;rw[take_succ_eq_append_getElem c,List.flatMap_append];simp
  have o:=b (l.take k);have i:=gK (f:=Sl.size) c;have h:=fK Sl.size l (k+1);have m:=l[k].ay;have j:=aJ Sl.au l[k].O;have a:=FX l[k].O;have d:=l[k].cj;rw[<-l[k].bc]at a;generalize bO (l.take k)=ys at *
  generalize l[k]=x at *
  repeat' first|refine .br ?_|refine .s1 ?_|(refine .q ?_ ?_<;>intro O)|refine bW (n:=ys.length) rfl rfl rfl rfl rfl rfl rfl rfl (length_map ..) a Wg om rfl ?_|fail
  exact ny (ys++x.O) e (h0:=by rw[map_append, <-x.bc];rfl) (h4:=by rw[List.length_append, <-d];rfl)
 ·rw[take_length];refine .go ?_;exact Fin.rg
def aCc(s:AJ)(hs:s.size<=1048576)(u:s.bu)(ps:List AP)(g:List AF)(ab:aC AP.size ps<=1048576)(a2:∀p∈ps,p.d.ok)(hg:aC AF.size g<=1048576)(z:∀m∈g,m.v.ok):
  AN prog 14 [s.C, .slice (ps.map AP.C) .no, .slice (g.map AF.C) .no] (.tup [.slice ((Ha s ps g).1.map AF.C) .no, .int .i64 (Ha s ps g).2]):=by
 have hG:∀p∈ps,AN prog 40 [s.C,p.t.C,(bT p.name g).1.C, .bool (bT p.name g).2, .bool p.has,p.d.C, .bool false, .slice (List.map AF.C []) .no] (M3.C (JK (o8 s false false [] (kX s) (mkM s false [] (cY s) g) p))):=λp hp=>by
  have h1:=aN (size:=AP.size) hp;have l:=p.lens;refine M0 s false false p.has [] g (cY s) (kX s) p Wd (by have:=aJ AF.au g;omega) om Wb (λh=>W0) (λ_ x hx=> ?_) (λ_ _=> ?_)
  ·have h3:=aN (size:=AF.size) hx;have h4:x.size=x.name.length+2+x.v.size:=rfl;exact P2 s hs u x.v p.t om (z x hx) om
  ·exact wU s hs u [] Wd p.d p.t om (a2 p hp) om
 have wk:∀(a b c d e f h:AV) (t:Tk),AA [a,b,c,d,e,f,h, .slice [] t] [a,b,c,d,e,f,h, .slice (List.map AF.C []) .no]:=λa b c d e f h t=>AA.cons (aG _) (AA.cons (aG _) (AA.cons (aG _) (AA.cons (aG _) (AA.cons (aG _) (AA.cons (aG _) (AA.cons (aG _) (AA.cons (AC.no (aB _)) (aB _))))))))
 refine AI.plain W6 Xo (aS [6,7] func14 ?_);unfold Ha;rw[sW];generalize o8 s false false [] (kX s) (mkM s false [] (cY s) g)=R at hG;have hpl:=aJ AP.au ps;have aa:=aJ AF.au g;refine .ae ?_;refine eX 8 true 6 rfl rfl rfl rfl rfl rfl ?_;refine bK ps.length (λk=>[(9, .int .i64 k),(1, .slice (ps.map AP.C) .no),(2, .slice (g.map AF.C) .no),(3, .ac s.C),(8, .slice ((d6 R (ps.take k)).map AF.C) (.own 0 6))])
  (λk=>⟨[],[.len (d6 R (ps.take k)).length]⟩) (vD R ps) Z9 rfl (uW R ps) λk hk o=> ?_
 by_cases l:k<ps.length
 ·have d2:decide ((k:Int)<(ps.length:Int))=true:=by simp[l]
  have x2:=aV (f:=AP.C) l;have a0:=wH ps[k].name g om;have i:=hG ps[k] (getElem_mem l);have je:=yH l o;have jn:=uX l o;have a1:=sX R (ps.take k);rw[List.length_take]at a1;have j:d6 R (ps.take (k+1))=d6 R (ps.take k)++(if (R ps[k]).2.1=true then [.mk ps[k].name (R ps[k]).1] else []):=by rw[take_succ_eq_append_getElem l,pS,d6,d6,append_nil]
  generalize R ps[k]=r at i je jn j;obtain⟨rv,rb,re⟩:=r;unfold M3.C JK at i;simp only at i je jn j;generalize bT ps[k].name g=gv at a0 i;by_cases y:re=0
  ·subst y;have w:=jn rfl;simp only[decide_true,Bool.and_true]at i;cases rb with
   |true=>
    rw[if_pos rfl]at j;repeat' first|refine .br ?_|refine bJ (d:=10) rfl rfl rfl rfl rfl ?_|refine b8 10 rfl (bE rfl rfl rfl rfl) ?_|refine .s1 ?_|(refine .q ?_ ?_<;>intro O)|refine bC (agg:=true) rfl rfl rfl rfl rfl rfl rfl rfl rfl rfl rfl ?_|refine aH rfl i (wk _ _ _ _ _ _ _ _) ?_|refine bW (n:=(d6 R (ps.take k)).length) rfl rfl rfl rfl rfl rfl rfl rfl (length_map ..) rfl Wa Wa rfl ?_|fail
    exact⟨l,⟨rfl,rfl,rfl,rfl,by rw[j,map_append];rfl,trivial⟩,Wj,Wi,by rw[j,List.length_append];rfl,w⟩
   |false=>
    rw[if_neg Wd,append_nil]at j;repeat' first|refine .br ?_|refine bJ (d:=10) rfl rfl rfl rfl rfl ?_|refine b8 10 rfl (bE rfl rfl rfl rfl) ?_|refine .s1 ?_|(refine .q ?_ ?_<;>intro O)|refine bC (agg:=true) rfl rfl rfl rfl rfl rfl rfl rfl rfl rfl rfl ?_|refine aH rfl i (wk _ _ _ _ _ _ _ _) ?_|refine bW (n:=(d6 R (ps.take k)).length) rfl rfl rfl rfl rfl rfl rfl rfl (length_map ..) rfl Wa Wa rfl ?_|fail
    exact⟨l,⟨rfl,rfl,rfl,rfl,by rw[j];rfl,trivial⟩,Wj,Wi,by rw[j];rfl,w⟩
  ·have a9:(re != 0)=true:=by simpa using y
   rw[je y];repeat' first|refine .br ?_|refine bJ (d:=10) rfl rfl rfl rfl rfl ?_|refine b8 10 rfl (bE rfl rfl rfl rfl) ?_|refine .s1 ?_|(refine .q ?_ ?_<;>intro O)|refine bC (agg:=true) rfl rfl rfl rfl rfl rfl rfl rfl rfl rfl rfl ?_|refine aH rfl i (wk _ _ _ _ _ _ _ _) ?_|refine bW (n:=(d6 R (ps.take k)).length) rfl rfl rfl rfl rfl rfl rfl rfl (length_map ..) rfl Wa Wa rfl ?_|fail
   exact n9 rfl rfl (AC.tup (AA.cons (AC.no (aB _)) (aB _)))
 ·have d2:decide ((k:Int)<(ps.length:Int))=false:=by simp;omega
  obtain rfl:k=ps.length:=om
  rw[yI o];refine .go ?_;refine n9 rfl rfl (AC.tup (AA.cons (AC.no (AA.eq ?_)) (aB _)));rw[take_length]
def Uw(s:AJ)(hs:s.size<=1048576)(i:s.bu)(A:List AF)(he:A.length<=68719476736)(ps:List AP)(g:List AF)(a7:aC AP.size ps<=1048640)(z:∀p∈ps,p.d.ok)(y:∀p∈ps,p.d.size<=1048576)(hg:aC AF.size g<=1048576)(o:∀m∈g,m.v.ok):
  AN prog 92 [s.C, .slice (ps.map AP.C) .no, .slice (g.map AF.C) .no, .slice (A.map AF.C) .no] (.tup [.slice ((dU s ps g A).1.map AF.C) .no, .int .i64 (dU s ps g A).2]):=by
 have hG:∀p∈ps,AN prog 40 [s.C,p.t.C,(bT p.name g).1.C, .bool (bT p.name g).2, .bool p.has,p.d.C, .bool true, .slice (A.map AF.C) .no] (M3.C (JK (o8 s true false A (kX s) (mkM s true A (cY s) g) p))):=λp hp=>by
  have h1:=aN (size:=AP.size) hp;have c:=p.lens;refine M0 s true false p.has A g (cY s) (kX s) p he (by have:=aJ AF.au g;omega) om Wb (λ_ x hx=> ?_) (λh=>W0) (λ_ _=> ?_)
  ·have h3:=aN (size:=AF.size) hx;have h4:x.size=x.name.length+2+x.v.size:=rfl;exact wU s hs i A he x.v p.t om (o x hx) om
  ·exact wU s hs i [] Wd p.d p.t (y p hp) (z p hp) om
 refine AI.plain W6 Xo (aS [8,9] func92 ?_);unfold dU;rw[sW];generalize o8 s true false A (kX s) (mkM s true A (cY s) g)=R at hG;have hpl:=aJ AP.au ps;have a6:=aJ AF.au g;refine .ae ?_;refine eX 10 true 6 rfl rfl rfl rfl rfl rfl ?_;refine bK ps.length (λk=>[(11, .int .i64 k),(1, .slice (ps.map AP.C) .no),(2, .slice (g.map AF.C) .no),(3, .slice (A.map AF.C) .no),(4, .ac s.C),(10, .slice ((d6 R (ps.take k)).map AF.C) (.own 0 6))])
  (λk=>⟨[],[.len (d6 R (ps.take k)).length]⟩) (vD R ps) Z9 rfl (uW R ps) λk hk e=> ?_
 by_cases c:k<ps.length
 ·have d2:decide ((k:Int)<(ps.length:Int))=true:=by simp[c]
  have x2:=aV (f:=AP.C) c;have u:=wH ps[k].name g om;have a:=hG ps[k] (getElem_mem c);have je:=yH c e;have jn:=uX c e;have w:=sX R (ps.take k);rw[List.length_take]at w;have b:d6 R (ps.take (k+1))=d6 R (ps.take k)++(if (R ps[k]).2.1=true then [.mk ps[k].name (R ps[k]).1] else []):=by rw[take_succ_eq_append_getElem c,pS,d6,d6,append_nil]
  generalize R ps[k]=r at a je jn b;obtain⟨rv,rb,re⟩:=r;unfold M3.C JK at a;simp only at a je jn b;generalize bT ps[k].name g=gv at u a;by_cases l:re=0
  ·subst l;have j:=jn rfl;simp only[decide_true,Bool.and_true]at a;cases rb with
   |true=>
    rw[if_pos rfl]at b;repeat' first|refine .br ?_|refine bJ (d:=13) rfl rfl rfl rfl rfl ?_|refine b8 13 rfl (bE rfl rfl rfl rfl) ?_|refine .s1 ?_|(refine .q ?_ ?_<;>intro O)|refine bC (agg:=true) rfl rfl rfl rfl rfl rfl rfl rfl rfl rfl rfl ?_|refine aH rfl a (aB _) ?_|refine bW (n:=(d6 R (ps.take k)).length) rfl rfl rfl rfl rfl rfl rfl rfl (length_map ..) rfl Wa Wa rfl ?_|fail
    exact⟨c,⟨rfl,rfl,rfl,rfl,rfl,YL,trivial⟩,Wj,Wi,Y8,j⟩
   |false=>
    rw[if_neg Wd,append_nil]at b;repeat' first|refine .br ?_|refine bJ (d:=13) rfl rfl rfl rfl rfl ?_|refine b8 13 rfl (bE rfl rfl rfl rfl) ?_|refine .s1 ?_|(refine .q ?_ ?_<;>intro O)|refine bC (agg:=true) rfl rfl rfl rfl rfl rfl rfl rfl rfl rfl rfl ?_|refine aH rfl a (aB _) ?_|refine bW (n:=(d6 R (ps.take k)).length) rfl rfl rfl rfl rfl rfl rfl rfl (length_map ..) rfl Wa Wa rfl ?_|fail
    exact⟨c,⟨rfl,rfl,rfl,rfl,rfl,W4,trivial⟩,Wj,Wi,W4,j⟩
  ·have a5:(re != 0)=true:=by simpa using l
   rw[je l];repeat' first|refine .br ?_|refine bJ (d:=13) rfl rfl rfl rfl rfl ?_|refine b8 13 rfl (bE rfl rfl rfl rfl) ?_|refine .s1 ?_|(refine .q ?_ ?_<;>intro O)|refine bC (agg:=true) rfl rfl rfl rfl rfl rfl rfl rfl rfl rfl rfl ?_|refine aH rfl a (aB _) ?_|refine bW (n:=(d6 R (ps.take k)).length) rfl rfl rfl rfl rfl rfl rfl rfl (length_map ..) rfl Wa Wa rfl ?_|fail
   exact n9 rfl rfl (AC.tup (AA.cons (AC.no (aB _)) (aB _)))
 ·have d2:decide ((k:Int)<(ps.length:Int))=false:=by simp;omega
  obtain rfl:k=ps.length:=om
  rw[yI e];refine .go ?_;refine n9 rfl rfl (AC.tup (AA.cons (AC.no (AA.eq ?_)) (aB _)));rw[take_length]
end Go.Proofs.YtimbiifcnhgcoaaGreatDoor
