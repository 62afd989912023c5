/- Joined texts. -/
import Derived.Test.YtimbiifcnhgcoaaGreatDoorGEvK12
set_option maxRecDepth 100000
set_option maxHeartbeats 16000000
set_option linter.all false
open List (cons_append drop_eq_getElem_cons getElem?_eq_getElem getElem_mem length_append length_map map_append map_cons map_nil pairwise_cons take_length)
open Nat (le_refl zero_le)
open Go Go.Av Go.Proofs.YtimbiifcnhgcoaaGreatDoor Go.Proofs.Tryz
variable{γ:Type}{s':AE}{z0:AV}{xs:List AV}{w:List Sl}{T':List Tok}{k b j:Nat}{S:Nat->AE}{Q:Nat->Nat}{Y:St}
namespace Go.Proofs.YtimbiifcnhgcoaaGreatDoor
open Go Go.Av Go.Proofs.Tryz
attribute [local irreducible] AB AD AN AI Av.AU AZ
def Ro{l:List Nd}(h:k<l.length):((l.take k).map λy=>(upM y).1.C)++[(upM l[k]).1.C]=(l.take (k+1)).map λy=>(upM y).1.C:=WX
def N4(k:Int):Ob := .cells [.int .i64 k, .int .i64 0, .str [], .slice [] .nil, .slice [] .nil]
def aCV(n m:Nat)(l:List Nd):aE n m (l.map λy=>(upM y).1.C)=true:=aD n m _ (bH (λy=>AH.K _) l)
def V5(x:Nd)(hx:x.cnt<=68719476736)(E:∀k (h:k<x.l.length),AN prog 28 [x.l[k].C] (.tup [(upM x.l[k]).1.C, .bool (upM x.l[k]).2])):
  AN prog 66 [x.C] (oT x).C:=by
 have j:=x.c2;have a1:=x.bt;have z:=x.cc;have t:x.keys.length<=68719476736:=om
 refine AI.plain (AH.K _) Yt (cE [.cell 2 43] func66 ?_);by_cases g:x.kind=0
 ·have w:(x.kind==0)=true:=by rw[g];rfl
  have X:oT x=x.v:=by unfold oT;rw[if_pos g]
  rw[X]
  repeat' first|refine .br ?_|refine .s1 ?_|(refine .q ?_ ?_<;>intro O)|fail
  exact aO
 have w:(x.kind==0)=false:=by simpa using g
 by_cases i:x.kind=1
 ·have e1:(x.kind==1)=true:=by rw[i];rfl
  have u:(x.kind==2)=false:=Ya
  have X:oT x=match upL x.l with|some vs=>AH.mk 6 0 [] vs []|none=>bP:=by unfold oT;rw[if_neg g,if_pos i];first|done|(cases upL x.l<;>rfl)
  rw[X,Rk];refine .ae ?_;refine lC 1 3 true 5 rfl rfl rfl rfl rfl rfl rfl rfl ?_;refine bK x.l.length (λk=>[(24, .int .i64 k),(23, .int .i64 x.l.length),(22, .slice x.nl .no),(3, .ptr 1 0),(2, .ptr 0 0),(1, .ac x.C)])
   (λk=>⟨[N4 0, .cells [.int .i64 6, .int .i64 0, .str [], .slice ((x.l.take k).map λy=>(upM y).1.C) (.own 0 5), .slice [] .nil]],[.len k]⟩) (λk=>((x.l.take k).all λy=>(upM y).2)=true)
   ⟨rfl,congrArg (AV.int .i64) (by rw[j]),rfl,rfl,rfl,rfl,trivial⟩ rfl rfl λk hk hj=> ?_
  have f:((x.l.take k).map λy=>(upM y).1.C).length=k:=Wl
  by_cases a:k<x.l.length
  ·have r:decide ((k:Int)<(x.l.length:Int))=true:=by simp[a]
   have x1:=Ic a;have O:=E k a;have d:=Ro a;have b:=KM (p:=λy:Nd=>(upM y).2) a;have e:=Rm (p:=λy:Nd=>(upM y).2) a;cases hb:(upM x.l[k]).2 with
   |false=>
    rw[hb]at O;rw[e hb];generalize x.l[k]=y at *
    refine .go ?_;exact aI rfl cF
   |true=>
    rw[hb]at O;simp only[hj,hb,Bool.and_self]at b;have c:aE 2 1 (((x.l.take k).map λy=>(upM y).1.C)++[(upM x.l[k]).1.C])=true:=by rw[d];exact aCV _ _ _
    generalize x.l[k]=y at *
    repeat' first|refine .s1 ?_|(refine .q ?_ ?_<;>intro O)|refine bW (n:=k) rfl rfl rfl rfl rfl rfl rfl rfl f rfl Wa Wa rfl ?_|fail
    refine⟨a,Z9,YH, ?_,by rw[<-d];rfl,b⟩;simp[-List.map_take,aQ,aL,Ob.ab,Tok.ab,aE,AV.ab,N4];exact c
  ·have r:decide ((k:Int)<(x.l.length:Int))=false:=by simp;omega
   obtain rfl:k=x.l.length:=om
   rw[take_length]at hj ⊢;rw[if_pos hj];refine .go ?_;refine aI rfl ?_;have:(AH.mk 6 0 [] (x.l.map λy=>(upM y).1) []).C = .agg [.int .i64 6, .int .i64 0, .str [], .slice (x.l.map λy=>(upM y).1.C) .no, .slice [] .no]:=by unfold AH.C;rw[AH.b1,AH.bh];simp only[AH.l,AH.m,AH.kind,AH.n,AH.s,List.map_map,map_nil];rfl
   rw[this];exact AC.agg (AA.cons (aG _) (AA.cons (aG _) (AA.cons (aG _) (AA.cons (AC.no (aB _)) (AA.cons (AC.no (aB _)) (aB _))))))
 have e1:(x.kind==1)=false:=XN
 by_cases o:x.kind=2
 ·have u:(x.kind==2)=true:=by rw[o];rfl
  have X:oT x=match upP x.keys x.l with|some ms=>AH.mk 7 0 [] [] ms|none=>bP:=by unfold oT;rw[if_neg g,if_neg i,if_pos o];first|done|(cases upP x.keys x.l<;>rfl)
  rw[X,Rl];refine .ae ?_;refine lC 1 4 true 6 rfl rfl rfl rfl rfl rfl rfl rfl ?_;refine bK x.l.length (λk=>[(24, .int .i64 k),(23, .int .i64 x.l.length),(22, .slice x.nl .no),(3, .ptr 1 0),(2, .ptr 0 0),(1, .ac x.C)])
   (λk=>⟨[N4 0, .cells [.int .i64 7, .int .i64 0, .str [], .slice [] .nil, .slice ((yJ x.keys (x.l.take k)).map AF.C) (.own 0 6)]],[.len k]⟩) (λk=>((x.l.take k).all λy=>(upM y).2)=true)
   ⟨rfl,congrArg (AV.int .i64) (by rw[j]),rfl,rfl,rfl,rfl,trivial⟩ rfl rfl λk hk hj=> ?_
  have f:((yJ x.keys (x.l.take k)).map AF.C).length=k:=by rw[length_map,KL,List.length_take];omega
  by_cases a:k<x.l.length
  ·have r:decide ((k:Int)<(x.l.length:Int))=true:=by simp[a]
   have x1:=Ic a;have O:=E k a;have d:=Id x.keys x.l k a;have b:=KM (p:=λy:Nd=>(upM y).2) a;have e:=Rm (p:=λy:Nd=>(upM y).2) a;have a0:=aDm x k t om;cases hb:(upM x.l[k]).2 with
   |false=>
    rw[hb]at O;rw[e hb];generalize x.l[k]=y at *
    refine .go ?_;exact aI rfl cF
   |true=>
    rw[hb]at O;simp only[hj,hb,Bool.and_self]at b;have c:aE 2 1 ((yJ x.keys (x.l.take k)).map AF.C++[AF.C (.mk (x.keys.getD k []) (upM x.l[k]).1)])=true:=by
     have:=dG 2 1 (yJ x.keys (x.l.take (k+1)))
     rwa [d,map_append]at this
    generalize x.l[k]=y at *
    repeat' first|refine .s1 ?_|(refine .q ?_ ?_<;>intro O)|refine bW (n:=k) rfl rfl rfl rfl rfl rfl rfl rfl f rfl Wa Wa rfl ?_|fail
    refine⟨a,Z9,YH, ?_,by rw[d,map_append];rfl,b⟩;simp[-List.map_take,aQ,aL,Ob.ab,Tok.ab,aE,AV.ab,N4];exact c
  ·have r:decide ((k:Int)<(x.l.length:Int))=false:=by simp;omega
   obtain rfl:k=x.l.length:=om
   rw[take_length]at hj ⊢;rw[if_pos hj];refine .go ?_;refine aI rfl ?_;have:(AH.mk 7 0 [] [] (yJ x.keys x.l)).C = .agg [.int .i64 7, .int .i64 0, .str [], .slice [] .no, .slice ((yJ x.keys x.l).map AF.C) .no]:=by unfold AH.C;rw[AH.b1,AH.bh];rfl
   rw[this];exact AC.agg (AA.cons (aG _) (AA.cons (aG _) (AA.cons (aG _) (AA.cons (AC.no (aB _)) (AA.cons (AC.no (aB _)) (aB _))))))
 ·have u:(x.kind==2)=false:=by simpa using o
  have X:oT x=bP:=by unfold oT;rw[if_neg g,if_neg i,if_neg o]
  rw[X];refine .ae ?_;exact aI rfl cF
def tUp:∀(N:Nat) (x:Nd),x.cnt<=N->N<=68719476736->AN prog 28 [x.C] (.tup [(upM x).1.C, .bool (upM x).2])
 |0,x,h,_=>by have:=x.ci;omega
 |N+1,x,h,c=>by
  have a:=V5 x om λk hk=>tUp N x.l[k] (by have:=KK hk;omega) om
  refine AI.plain W3 Yt (cE [.cell 2 43, .tmp 3] func28 ?_);rw[V4];generalize oT x=w at a;cases d:x.must with
  |false=>rw[if_neg Wb];refine .ae ?_;exact aO
  |true=>
   by_cases hw:w.kind=0
   ·have b:(w.kind==0)=true:=by rw[hw];rfl
    rw[if_pos ⟨hw,rfl⟩];refine .ae ?_;exact aI rfl (AC.tup (AA.cons cF (aB _)))
   ·have b:(w.kind==0)=false:=by simpa using hw
    rw[if_neg (by simp[hw])];refine .ae ?_;exact aO
def fZ:List Sl->List AG->List AG
 |[],I=>I
 | .mk k a nm ar di on se::l,I=>fZ l (fZ se (if k=1 then cK I nm else I))
termination_by l=>fN l
decreasing_by
 all_goals simp_wf
 all_goals simp only[fN,Sl.size]
 all_goals omega
theorem p7(I:List AG):fZ [] I=I:=by rw[fZ]
theorem xV(x:Sl)(l:List Sl)(I:List AG):fZ (x::l) I=fZ l (fZ x.O (if x.kind=1 then cK I x.name else I)):=by cases x;rw[fZ];rfl
theorem KN:∀(a b:List Sl) (I:List AG),fZ (a++b) I=fZ b (fZ a I)
 |[],b,I=>by rw[List.nil_append,p7]
 |x::a,b,I=>by rw[cons_append,xV,KN a b,xV]
def Ie{l:List Sl}(h:k<l.length)(I:List AG):fZ (l.take (k+1)) I=fZ l[k].O (if l[k].kind=1 then cK (fZ (l.take k) I) l[k].name else fZ (l.take k) I):=by rw[List.take_succ_eq_append_getElem h,KN,xV,p7]
def p8:∀(N:Nat) (l:List Sl) (I:List AG),aC Sl.size l<=N->(∃ys,fZ l I=I++ys)/\(I.Nodup->(fZ l I).Nodup)/\(fZ l I).length<=I.length+aC Sl.size l
 |_,[],I,_=>by rw[p7];exact⟨⟨[],Wb⟩,id,om⟩
 |0,x::l,I,h=>by rw[aC]at h;have:=x.au;omega
 |N+1,x::l,I,h=>by
  rw[aC]at h;have hx:=x.ay;rw[xV,aC];have h0:(∃ys,(if x.kind=1 then cK I x.name else I)=I++ys)/\(I.Nodup->(if x.kind=1 then cK I x.name else I).Nodup)/\(if x.kind=1 then cK I x.name else I).length<=I.length+1:=by
   split
   ·unfold cK;split
    ·simp_all
    ·grind
   ·simp_all
  generalize (if x.kind=1 then cK I x.name else I)=a at *;obtain⟨⟨k,b⟩,g,d⟩:=h0;obtain⟨⟨m,e1⟩,i,e⟩:=p8 N x.O a om;obtain⟨⟨n,c⟩,j,f⟩:=p8 N l (fZ x.O a) (by have:=x.au;omega);grind
def Gg(l:List Sl)(I:List AG):(fZ l I).length<=I.length+aC Sl.size l:=(p8 _ l I (le_refl _)).2.2
def DL(d:AR):Nat->Nat->List AG->List AG
 |0,_,l=>l
 |n+1,i,l=>match l[i]? with
  |none=>l
  |some nm=>DL d n (i+1) (match iQ d nm with|some f=>fZ f.O l|none=>l)
def g6(d:AR)(l:List Sl):Nat:=aC Sl.size l+aC (λf:Af=>aC Sl.size f.O) d.aj
def lZ(d:AR)(l:List Sl):List AG:=DL d (g6 d l) 0 (fZ l [])
def oU(d:AR):Bool:=d.aj.any λf=>decide (f.name∈lZ d f.O)
structure BE(d:AR)(w:List Sl)(i:Nat)(l:List AG):Prop where
 fin:DL d (g6 d w-i) i l=lZ d w
 lei:i<=l.length
 nodup:l.Nodup
 len:l.length+aC (λf:Af=>aC Sl.size f.O) (gA d (l.take i))<=g6 d w
def zF(d:AR)(w:List Sl):BE d w 0 (fZ w []) where
 fin:=rfl;lei:=zero_le _;nodup:=(p8 _ w [] (le_refl _)).2.1 List.nodup_nil;len:=by have a:=Gg w [];rw[List.take_zero,show gA d []=d.aj from List.filter_eq_self.2 Wb];unfold g6;simp_all
def zG{d:AR}{i:Nat}{l:List AG}(h:BE d w i l)(X:i<l.length):BE d w (i+1) (match iQ d l[i] with|some f=>fZ f.O l|none=>l):=by
 have m:=h.len;have k:l.take (i+1)=l.take i++[l[i]]:=List.take_succ_eq_append_getElem X;have g:l[i]∉l.take i:=by intro c;obtain⟨j,hj,e⟩:=List.getElem_of_mem c;rw[List.length_take]at hj;rw[List.getElem_take]at e;exact(List.pairwise_iff_getElem.1 h.nodup) j i om X om e
 have a:DL d (g6 d w-(i+1)) (i+1) (match iQ d l[i] with|some f=>fZ f.O l|none=>l)=lZ d w:=by rw[<-h.fin,show g6 d w-i=g6 d w-(i+1)+1 by omega,DL,getElem?_eq_getElem X]
 cases hf:iQ d l[i] with
 |none=>rw[hf]at a;refine⟨a,Wg,h.nodup, ?_⟩;rw[k];have:=O2 d (l.take i) l[i] (λf:Af=>aC Sl.size f.O);grind
 |some f=>
  rw[hf]at a;obtain⟨c,b⟩:=jJ hf;obtain⟨⟨ys,e1⟩,o,p⟩:=p8 _ f.O l (le_refl _);refine⟨a,by dsimp only;rw[e1,length_append];omega,o h.nodup, ?_⟩;dsimp only;have n:(fZ f.O l).take (i+1)=l.take i++[l[i]]:=WZ
  rw[n, <-b];have:=uU d (l.take i) c (by rw[b];exact g) (λf:Af=>aC Sl.size f.O);omega
theorem xX{d:AR}{i:Nat}{l:List AG}(h:BE d w i l)(X:l.length<=i):lZ d w=l:=by
 rw[<-h.fin];cases g6 d w-i with
 |zero=>rfl
 |succ n=>rw[DL,List.getElem?_eq_none X]
def CA(l:List Sl)(xs:List AG):Prop:=AI prog 100 [.slice (xs.map AV.str) (.own 0 1), .slice (l.map Sl.C) .no] ⟨[],[.len xs.length]⟩ (λe H=>e = .ret (.slice ((fZ l xs).map AV.str) (.own 0 1))/\H=⟨[],[.len (fZ l xs).length]⟩)
def N5(l:List Sl)(v:aC Sl.size l<=68719476736)(E:∀x∈l,∀ys:List AG,ys.length+aC Sl.size x.O<=137438953472->CA x.O ys)(xs:List AG)(m:xs.length+aC Sl.size l<=137438953472):
  AB prog Tryz.f100.ntmps [] (uC Tryz.f100) (fin [4] (λe H=>e = .ret (.slice ((fZ l xs).map AV.str) (.own 0 1))/\H=⟨[],[.len (fZ l xs).length]⟩))
   [(0, .slice (xs.map AV.str) (.own 0 1)),(1, .slice (l.map Sl.C) .no)] ⟨[],[.len xs.length]⟩:=by
 have r:=aJ Sl.au l;refine .ae ?_;refine bK l.length (λk=>[(9, .int .i64 k),(8, .int .i64 l.length),(7, .slice (l.map Sl.C) .no),(0, .slice ((fZ (l.take k) xs).map AV.str) (.own 0 1))])
  (λk=>⟨[],[.len (fZ (l.take k) xs).length]⟩) (λ_=>True) ⟨rfl,rfl,rfl,by rw[List.take_zero,p7];rfl,trivial⟩ (by rw[List.take_zero,p7]) trivial λk hk _=> ?_
 by_cases c:k<l.length
 ·have p:decide ((k:Int)<(l.length:Int))=true:=by simp[c]
  have x1:=aV (f:=Sl.C) c;have o:=Gg (l.take k) xs;have u:=gK (f:=Sl.size) c;have t:=fK Sl.size l (k+1);have m:=l[k].ay;have d:=Ie c xs;have X:=E l[k] (getElem_mem c);generalize fZ (l.take k) xs=ys at *;generalize fZ (l.take (k+1)) xs=R at *;generalize l[k]=x at *;have b:=gN ys x.name om;have g:AA [.slice (ys.map AV.str) (.own 0 1), .str x.name] [.slice (ys.map AV.str) .no, .str x.name]:=AA.cons (AC.no (aB _)) (aB _);by_cases h:x.kind=1
  ·have e1:(x.kind==1)=true:=by rw[h];rfl
   rw[if_pos h]at d;unfold cK at d;by_cases i:x.name∈ys
   ·rw[decide_eq_true i]at b;rw[if_pos i]at d;have a:=X ys om;unfold CA at a;rw[<-d, <-x.bc]at a;repeat' first|refine aH rfl b g ?_|refine .s1 ?_|(refine .q ?_ ?_<;>intro O)|refine yA 0 rfl a rfl (aT _) (aT _) Xc (aB _) rfl ?_|fail
    exact⟨c,Z9,Wj,rfl,rfl,trivial⟩
   ·rw[decide_eq_false i]at b;rw[if_neg i]at d;have a:=X (ys++[x.name]) Yp;unfold CA at a;rw[<-d, <-x.bc,map_append,length_append]at a;have j:aA (ys.map AV.str++[AV.str x.name])=true:=by have:=aT (ys++[x.name]);rwa [map_append]at this
    repeat' first|refine aH rfl b g ?_|refine .s1 ?_|(refine .q ?_ ?_<;>intro O)|refine bW (n:=ys.length) rfl rfl rfl rfl rfl rfl rfl rfl (length_map ..) rfl Wa Wa rfl ?_|refine yA 0 rfl a rfl j (aT _) Xc (aB _) rfl ?_|fail
    exact⟨c,Z9,Wj,rfl,rfl,trivial⟩
  ·have e1:(x.kind==1)=false:=by simpa using h
   rw[if_neg h]at d;have a:=X ys om;unfold CA at a;rw[<-d, <-x.bc]at a;repeat' first|refine .s1 ?_|(refine .q ?_ ?_<;>intro O)|refine yA 0 rfl a rfl (aT _) (aT _) Xc (aB _) rfl ?_|fail
   exact⟨c,Z9,Wj,rfl,rfl,trivial⟩
 ·have p:decide ((k:Int)<(l.length:Int))=false:=by simp;omega
  obtain rfl:k=l.length:=om
  rw[take_length];refine .go ?_;exact⟨rfl,rfl⟩
def V6:∀(N:Nat) (l:List Sl),aC Sl.size l<=N->N<=68719476736->∀xs:List AG,xs.length+aC Sl.size l<=137438953472->CA l xs
 |N,l,h,e=>λxs a=>by refine aS [4] func100 (N5 l om (λx hx ys b=> ?_) xs a);have c:=aN (size:=Sl.size) hx;have d:=x.ay;exact V6 (N-1) x.O om om ys b
termination_by N=>N
decreasing_by have:=x.au;omega
def V7(l:List Sl)(a:aC Sl.size l<=68719476736):AI prog 100 [.slice [] .nil, .slice (l.map Sl.C) .no] ⟨[],[]⟩ (λe H=>e = .ret (.slice ((fZ l []).map AV.str) (.own 0 1))/\H=⟨[],[.len (fZ l []).length]⟩):=by refine aS [4] func100 ?_;refine eX 0 false 1 rfl rfl rfl rfl rfl rfl ?_;exact AB.weaken (s:=[(0, .slice [] (.own 0 1)),(1, .slice (l.map Sl.C) .no)]) (N5 l a (λx hx ys b=>V6 68719476736 x.O Y4 (le_refl _) ys b) [] (by simp only[List.length_nil];omega)) Z9
def Rp(d:AR)(w:List Sl)(n:g6 d w<=68719476736)(e:d.aj.length<=68719476736):AN prog 46 [d.C, .slice (w.map Sl.C) .no] (.slice ((lZ d w).map AV.str) .no):=by
 have t:aC Sl.size w<=g6 d w:=XW
 have h0:=V7 w om;refine AI.plain (by simp[AV.K,aT]) (by simp[AV.K,aA,AR.K,aZ]) (aS [4] func46 ?_);repeat' first|refine .br ?_|refine .s1 ?_|(refine .q ?_ ?_<;>intro O)|refine jR rfl rfl h0 XA (aB _) YD rfl ?_|fail
 change AB _ _ _ _ _ _ _;refine AB.loop (λk s' H=>∃(i:Nat) (l:List AG),k=g6 d w-i/\BE d w i l/\H=⟨[],[.len l.length]⟩/\s'= [(6, .int .i64 i),(5, .slice (l.map AV.str) (.own 0 1)),(2, .ac d.C)])
  (s0:=[(6, .int .i64 (0:Nat)),(5, .slice ((fZ w []).map AV.str) (.own 0 1)),(2, .ac d.C)]) Z9 ⟨0,_,rfl,zF d w,rfl,rfl⟩ ?_
 rintro k s' H ⟨i,l,rfl,hI,rfl,rfl⟩;have j:=hI.len;by_cases h:i<l.length
 ·have m:decide ((i:Int)≥(l.length:Int))=false:=decide_eq_false om;have x1:=aV (f:=AV.str) h;have hn:=zG hI h;have c:=hn.len;have hf:=VO d l[i] e;unfold cM at hf;cases a:iQ d l[i] with
  |none=>
   rw[a]at hf hn;dsimp only at hf hn;generalize l[i]=nm at *;repeat' first|refine .s1 ?_|(refine .q ?_ ?_<;>intro O)|fail
   exact⟨g6 d w-(i+1),om,[(6, .int .i64 ((i+1:Nat):Int)),(5, .slice (l.map AV.str) (.own 0 1)),(2, .ac d.C)],Z9,Wj,rfl,i+1,l,rfl,hn,rfl,rfl⟩
  |some f=>
   rw[a]at hf hn c;dsimp only at hf hn c;generalize l[i]=nm at *;obtain⟨r,o⟩:=jJ a;have p:=aN (size:=λf:Af=>aC Sl.size f.O) r;have g:aC Sl.size f.O<=g6 d w:=XW
   have b:=V6 (g6 d w) f.O g n l om;unfold CA at b;repeat' first|refine .s1 ?_|(refine .q ?_ ?_<;>intro O)|refine yA 0 rfl b rfl (aT _) (aT _) XA (aB _) rfl ?_|fail
   exact⟨g6 d w-(i+1),om,[(6, .int .i64 ((i+1:Nat):Int)),(5, .slice ((fZ f.O l).map AV.str) (.own 0 1)),(2, .ac d.C)],Z9,Wj,rfl,i+1,_,rfl,hn,rfl,rfl⟩
 ·have m:decide ((i:Int)≥(l.length:Int))=true:=decide_eq_true om;rw[xX hI om];repeat' first|refine .s1 ?_|(refine .q ?_ ?_<;>intro O)|fail
  exact aP rfl (AC.no (aB _))
theorem TQ(d:AR)(f:Af)(hf:f∈d.aj)(j:d.size<=1048576):AN prog 44 [f.C, .ac d.C] (.bool (decide (f.name∈lZ d f.O))):=by
 have e:=aN (size:=λf:Af=>aC Sl.size f.O) hf;have g:aC (λf:Af=>aC Sl.size f.O) d.aj<=aC Af.size d.aj:=nC (λf=>W5) _;have h3:aC Af.size d.aj<=d.size:=XM
 have h4:=aJ (size:=Af.size) (λf=>W5) d.aj;have c:g6 d f.O<=2097152:=XW
 have hr:=Rp d f.O om om;have a:(lZ d f.O).length<=9223372036854775807:=by
  have b:∀(n i:Nat) (l:List AG),BE d f.O i l->g6 d f.O-i<=n->(lZ d f.O).length<=g6 d f.O:=by
   intro n;induction n with
   |zero=>intro i l h hn;have:=h.len;rw[xX h (by have:=h.lei;omega)];omega
   |succ n E=>
    intro i l h hn;by_cases X:i<l.length
    ·exact E (i+1) _ (zG h X) om
    ·have:=h.len;rw[xX h om];omega
  have:=b _ 0 _ (zF d f.O) (le_refl _);omega
 have O:=gN (lZ d f.O) f.name a;refine AI.plain rfl (by simp[AV.K,aA,Af.K,AR.K]) (aS [3] func44 ?_);refine .ae ?_;exact bY
def HF(l:List Af)(f:FuncId)(cs:List AV)(p:Af->Bool)(b:l.length<=9223372036854775807)(a:aA cs=true)(hf:∀x∈l,AN prog f (x.C::cs) (.bool (p x))):
  AN prog 43 [.slice (l.map Af.C) .no, .fn (.func f) [] cs] (.bool (l.any p)):=by have h:=Hp l f cs p b a hf;refine AI.plain rfl (by simp[AV.K,aA,uR,a]) (aS [4] func43 ?_);refine .go ?_;exact aP rfl (AC.eq (congrArg AV.bool (Fh p l)))
def Rq(d:AR)(a:d.size<=1048576):AN prog 18 [d.C] (.bool (oU d)):=by
 have h3:aC Af.size d.aj<=d.size:=XM
 have h4:=aJ (size:=Af.size) (λf=>W5) d.aj;have O:=HF d.aj 44 [.ac d.C] (λf=>decide (f.name∈lZ d f.O)) om (by simp[aA,AV.K,AR.K]) (λf hf=>TQ d f hf a);refine AI.plain rfl Yv (aS [2] func18 ?_);refine .ae ?_;exact bY
end Go.Proofs.YtimbiifcnhgcoaaGreatDoor
namespace Go.Av
open Go
def DM[AL]{H:St}{ys:List AV}(hT:H.T[k]? =some (.aa xs))(h:AA xs ys)(i:ys.length=xs.length)(c:jX k (.aa ys) H.T some=some T'):AK H z0 ⟨H.B,T'⟩ z0:=λg w v a hr=>by
 obtain⟨l,d⟩:=d7 _ _ _ _ _ c
 have b:T'= H.T.set k (.aa ys):=(Option.some.inj d).symm
 subst b
 have f:∀(j:Nat) (t:Tok) (r:A8),g.tk[j]? =some r->(H.T.set k (.aa ys))[j]? =some t->A6 g w r t:=λj t r hj ht=>by
  by_cases e:j=k
  ·subst e
   rw[List.getElem?_set_self l]at ht
   cases ht
   obtain⟨m,n,o,Vs,p,q,u,x⟩:=a.tok j _ r hj hT
   exact⟨by rw[i];exact m,n,o,Vs,h g w Vs p,q,u,x⟩
  ·rw[List.getElem?_set_ne (Ne.symm e)]at ht
   exact a.tok j t r hj ht
 exact⟨g,eV g w,⟨a.lenB,(by show g.tk.length=(H.T.set k (.aa ys)).length;rw[List.length_set];exact a.lenT),a.ob,a.nodup,a.noim,f,a.tkz,a.tkd,a.imlt,a.gl⟩,hr⟩
end Go.Av
namespace Go.Proofs.YtimbiifcnhgcoaaGreatDoor
open Go Go.Av Go.Proofs.Tryz
attribute [local irreducible] AB AD AN AI Av.AU AZ
def Vk(B:List Ob)(T:List Tok):AI prog 24 [] ⟨B,T⟩ (λe Y=>e = .ret (.ao T.length 10 1 0 0)/\Y=⟨B,T++[.aa [knG 2 false]]⟩):=by
 refine aS [0] func24 ?_
 repeat' first|refine S2 (z:=10) rfl rfl (oP _) (oQ _ _ _) ?_|refine .s1 ?_|(refine .q ?_ ?_<;>intro O)|fail
 exact⟨rfl,rfl⟩
def Rr(s:AJ)(o:Ak):AN prog 9 [s.C,o.C] (.str (aW s o)):=by
 refine AI.plain rfl (by simp[aA,AV.K,AJ.K,Ak.K]) (aS [4] func9 ?_);unfold aW;by_cases c:o.kind=1
 ·have n:(o.kind==1)=true:=by rw[c];rfl
  rw[if_pos c];refine .ae ?_;exact bY
 ·have n:(o.kind==1)=false:=by simpa using c
  rw[if_neg c];refine .ae ?_;exact bY
def rdJ(j:Nat):List (List Ae)->List AV
 |[]=>[]
 |[r]=>[.slice (r.map Ae.C) (.own j 2)]
 |r::q::l => .slice (r.map Ae.C) .no::rdJ j (q::l)
def kE(R:List (List Ae)):List AV:=R.map λr => .slice (r.map Ae.C) .no
def Gi(j:Nat):∀R,AA (rdJ j R) (kE R)
 |[]=>aB _
 |[r]=>AA.cons (AC.no (aB _)) (aB _)
 |r::q::l=>AA.cons (aG _) (Gi j (q::l))
theorem Jx(j:Nat):∀R,(rdJ j R).length=R.length
 |[]=>rfl
 |[r]=>rfl
 |r::q::l=>by rw[rdJ,List.length_cons,Jx j (q::l)];rfl
theorem KO(j:Nat):∀R,rdJ j (R++[[]])=kE R++[.slice [] (.own j 2)]
 |[]=>rfl
 |[r]=>rfl
 |r::q::l=>by
  have:=KO j (q::l)
  rw[cons_append,cons_append,rdJ, <-cons_append,this];rfl
def tS(m n:Int):Int:=if m<n then-1 else if n<m then 1 else 0
def kF(m n:AG):Int:=if nG m n then-1 else if m==n then 0 else 1
def pE(a b:AU):Int:=if a.name==[]&&b.name==[] then tS a.at_ b.at_ else if a.name==[] then-1 else if b.name==[] then 1 else kF a.name b.name
def kJ:Ab->Ab->Int
 |[],[]=>0
 |[],_::_ => -1
 |_::_,[]=>1
 |a::p,b::q=>if pE a b != 0 then pE a b else kJ p q
def PG(n:Int):AN prog 192 [.int .i64 n] (.bool false):=by refine AI.plain rfl rfl (aS [2] func192 ?_);refine .go ?_;exact aP rfl (AC.eq Wb)
def PH(n:AG):AN prog 193 [.str n] (.bool false):=by refine AI.plain rfl rfl (aS [2] func193 ?_);refine .go ?_;exact aP rfl (AC.eq Wb)
def TR(m n:Int):AN prog 122 [.int .i64 m, .int .i64 n] (.int .i64 (tS m n)):=by
 refine AI.plain rfl rfl (aS [4] func122 ?_)
 repeat' first|refine .s1 ?_|(refine .q ?_ ?_<;>intro O)|refine aH rfl (PG _) (aB _) ?_|fail
 all_goals refine aP rfl (AC.eq ?_)
 all_goals simp_all[tS]
 omega
def TS(m n:AG):AN prog 123 [.str m, .str n] (.int .i64 (kF m n)):=by
 refine AI.plain rfl rfl (aS [4] func123 ?_)
 repeat' first|refine .s1 ?_|(refine .q ?_ ?_<;>intro O)|refine aH rfl (PH _) (aB _) ?_|fail
 all_goals refine aP rfl (AC.eq ?_)
 all_goals simp_all[kF]
def TT(a b:AU):AN prog 71 [a.C,b.C] (.int .i64 (pE a b)):=by
 refine AI.plain rfl rfl (aS [4] func71 ?_)
 repeat' first|refine .s1 ?_|(refine .q ?_ ?_<;>intro O)|refine aH rfl (TR _ _) (aB _) ?_|refine aH rfl (TS _ _) (aB _) ?_|fail
 all_goals refine aP rfl (AC.eq ?_)
 all_goals simp_all[pE]
theorem N6(n m:Nat)(l:List AU):aE n m (l.map AU.C)=true:=aD n m _ (dM l)
def Jy{f:γ->AV}{l:List γ}(h:k<l.length):(l.map f)[k]? =some (f l[k]):=YW
theorem Jz{a b:Ab}(c:k<a.length)(d:k<b.length)(h:pE a[k] b[k]=0):kJ (a.drop k) (b.drop k)=kJ (a.drop (k+1)) (b.drop (k+1)):=by rw[drop_eq_getElem_cons c,drop_eq_getElem_cons d,kJ,h];rfl
theorem Mz{a b:Ab}(c:k<a.length)(d:k<b.length)(h:pE a[k] b[k]≠0):kJ (a.drop k) (b.drop k)=pE a[k] b[k]:=by rw[drop_eq_getElem_cons c,drop_eq_getElem_cons d,kJ,if_pos Wu]
theorem KP{a b:Ab}(c:k<a.length)(d:b.length<=k):kJ (a.drop k) (b.drop k)=1:=by rw[drop_eq_getElem_cons c,List.drop_eq_nil_of_le d,kJ]
def KQ(a b:Ab)(ha:a.length<=9223372036854775807):AN prog 70 [Ab.C a,Ab.C b, .fn (.func 71) [] []] (.int .i64 (kJ a b)):=by
 refine AI.plain rfl (by simp[aA,AV.K,Ab.C,dM]) (aS [6] func70 ?_);refine .go ?_;change AB _ _ _ _ _ _ _;refine AB.loop (λn s H=>∃k:Nat,n=a.length-k/\k<=a.length/\k<=b.length/\kJ a b=kJ (a.drop k) (b.drop k)/\H=⟨[],[]⟩/\
  s=[(13, .int .i64 k),(12, .int .i64 a.length),(11,Ab.C a),(0,Ab.C a),(1,Ab.C b),(2, .fn (.func 71) [] [])])
  (s0:=[(13, .int .i64 (0:Nat)),(12, .int .i64 a.length),(11,Ab.C a),(0,Ab.C a),(1,Ab.C b),(2, .fn (.func 71) [] [])])
  Z9 ⟨0,rfl,zero_le _,zero_le _,rfl,rfl,rfl⟩ ?_
 rintro n s H ⟨k,rfl,hk,hkb,hp,rfl,rfl⟩;by_cases c:k<a.length
 ·have m:decide ((k:Int)<(a.length:Int))=true:=by simp[c]
  have x1:=Jy (f:=AU.C) c;by_cases d:k<b.length
  ·have o:decide ((b.length:Int)<=(k:Int))=false:=by simp[d]
   have p:=Jy (f:=AU.C) d;have e:=TT a[k] b[k]
   repeat' first|refine .s1 ?_|(refine .q ?_ ?_<;>intro O)|refine Cg rfl rfl e (aB _) ?_|fail
   ·have l:pE a[k] b[k]≠0:=by simpa using O
    refine aP rfl (AC.eq ?_);rw[hp,Mz c d l]
   ·have g:pE a[k] b[k]=0:=by simpa using O
    refine⟨a.length-(k+1),om,[(13, .int .i64 ((k+1:Nat):Int)),(12, .int .i64 a.length),(11,Ab.C a),(0,Ab.C a),(1,Ab.C b),(2, .fn (.func 71) [] [])],
     Z9,by simp[aM,AV.ab,aE,Ab.C,N6],rfl,k+1,rfl,om,om,by rw[hp,Jz c d g],rfl,rfl⟩
  ·have o:decide ((b.length:Int)<=(k:Int))=true:=by simp;omega
   refine .go ?_;refine aP rfl (AC.eq ?_);rw[hp,KP c om]
 ·have m:decide ((k:Int)<(a.length:Int))=false:=by simp;omega
  have i:k=a.length:=om
  repeat' first|refine .s1 ?_|(refine .q ?_ ?_<;>intro O)|fail
  all_goals refine aP rfl (AC.eq ?_)
  all_goals rw[hp,i,List.drop_length]
  ·have j:a.length<b.length:=by simpa using O
   rw[drop_eq_getElem_cons j,kJ]
  ·have h:b.length<=a.length:=by simpa using O
   rw[List.drop_eq_nil_of_le h,kJ]
structure Bb{α:Type}(c:α->α->Int):Prop where
 bo:∀a b,c b a = -c a b
 tr:∀a b d,c a b<=0->c b d<=0->c a d<=0
 same:∀a b d,c a b=0->c a d=c b d
def Lu{α:Type}{c:α->α->Int}(h:Bb c){a b d:α}(f:c a b<0)(e:c b d<=0):c a d<0:=by have h3:=h.tr a b d om e;have h4:=h.same d a b;have g:=h.bo a d;have i:=h.bo b d;have j:=h.bo a b;have k:=h.bo d b;omega
def MD{α:Type}{c:α->α->Int}(h:Bb c){a b d:α}(e:c a b<=0)(f:c b d<0):c a d<0:=by have h3:=h.tr a b d e om;have h4:=h.same a d b;have g:=h.bo b d;omega
def MA:Bb tS:=by
 refine⟨λa b=> ?_,λa b d=> ?_,λa b d=> ?_⟩<;>unfold tS
 ·split<;>split<;>first|omega|(split<;>omega)
 ·intro c e;split at c<;>split at e<;>split<;>first|omega|(split at c<;>first|omega|(split at e<;>first|omega|(split<;>omega)))|(split at e<;>first|omega|(split<;>omega))|(split<;>omega)
 ·intro c;have:a=b:=by
   split at c
   ·omega
   ·split at c<;>omega
  rw[this]
def oV{α:Type}(c:α->α->Int):List α->List α->Int
 |[],[]=>0
 |[],_::_ => -1
 |_::_,[]=>1
 |a::p,b::q=>if c a b != 0 then c a b else oV c p q
def MB{c:γ->γ->Int}(h:Bb c):Bb (oV c):=by
 have f:∀(a b:γ) (p q:List γ),oV c (a::p) (b::q)=if c a b=0 then oV c p q else c a b:=by intro a b p q;simp only[oV,bne_iff_ne,ne_eq];by_cases e:c a b=0<;>simp[e]
 refine⟨?_, ?_, ?_⟩
 ·intro p;induction p with
  |nil=>intro q;cases q<;>rfl
  |cons a p E=>
   intro q;cases q with
   |nil=>rfl
   |cons b q=>
    have:=h.bo a b;rw[f,f,E q];by_cases e:c a b=0
    ·rw[if_pos e,if_pos om]
    ·rw[if_neg e,if_neg om,this]
 ·intro p;induction p with
  |nil=>intro q r g i;cases q<;>cases r<;>simp_all[oV]
  |cons a p E=>
   intro q r g i;cases q with
   |nil=>simp[oV]at g
   |cons b q=>
    cases r with
    |nil=>simp[oV]at i
    |cons d r=>rw[f]at g i ⊢;have h3:=h.tr a b d;have h4:=h.same a b d;have j := @MD γ c h a b d;have k := @Lu γ c h a b d;have l:=E q r;split at g<;>split at i<;>split<;>omega
 ·intro p;induction p with
  |nil=>intro q r g;cases q<;>simp_all[oV]
  |cons a p E=>
   intro q r g;cases q with
   |nil=>simp[oV]at g
   |cons b q=>
    rw[f]at g;have e:c a b=0:=by split at g<;>omega
    rw[if_pos e]at g;cases r with
    |nil=>rfl
    |cons d r=>rw[f,f,h.same a b d e,E q r g]
def V8{β:Type}{c:β->β->Int}(f:γ->β)(h:Bb c):Bb (λa b=>c (f a) (f b)):=⟨λa b=>h.bo _ _,λa b d=>h.tr _ _ _,λa b d=>h.same _ _ _⟩
theorem MC(m n:AG):kF m n=oV (λa b:UInt8=>tS a.toNat b.toNat) m n:=by
 induction m generalizing n with
 |nil=>cases n<;>rfl
 |cons a m E=>
  cases n with
  |nil=>rfl
  |cons b n=>
   have:=E n;unfold kF at this ⊢;simp only[nG,oV, <-this];by_cases e:a=b
   ·subst e;have h0:¬a<a:=by simp
    simp[h0,tS]
   ·have g:a.toNat≠b.toNat:=λh=>e (UInt8.toNat_inj.1 h)
    by_cases l:a<b
    ·have c:a.toNat<b.toNat:=UInt8.lt_iff_toNat_lt.1 l;simp[l,tS,c]
    ·have c:¬a.toNat<b.toNat:=λh=>l (UInt8.lt_iff_toNat_lt.2 h)
     have i:b.toNat<a.toNat:=om
     have d:¬((a.toNat:Int)<b.toNat):=om
     have f:(b.toNat:Int)<a.toNat:=om
     simp[l,e,tS,d,f]
def p9:Bb kF:=by
 have h:Bb (λm n=>kF m n):=by simp only[MC];exact MB (V8 (λa:UInt8=>(a.toNat:Int)) MA)
 exact h
section
variable {α:Type} {c:α->α->Int}
def eqv(c:α->α->Int)(a:α):α->Bool:=λx=>c a x==0
def An(c:α->α->Int)(xs ys:List α):Prop:=∀a,ys.filter (eqv c a)=xs.filter (eqv c a)
def CG(c:α->α->Int)(xs:List α):Prop:=xs.Pairwise λx y=>c x y<=0
theorem Bb.b6(h:Bb c)(a:α):c a a=0:=by have:=h.bo a a;omega
def nU(xs:List α):An c xs xs:=λ_=>rfl
theorem An.symm{xs ys:List α}(h:An c xs ys):An c ys xs:=λa=>(h a).symm
theorem An.trans{xs ys zs:List α}(h:An c xs ys)(k:An c ys zs):An c xs zs:=λa=>(k a).trans (h a)
def zB{xs ys b d:List α}(h:An c xs ys)(k:An c b d):An c (xs++b) (ys++d):=λa=>by rw[List.filter_append,List.filter_append,h a,k a]
def IM(h:Bb c){u v:List α}(b:∀x∈u,∀y∈v,c y x<0):An c (u++v) (v++u):=λa=>by
 rw[List.filter_append,List.filter_append];cases e:u.filter (eqv c a) with
 |nil=>simp
 |cons x l=>
  have hx:x∈u.filter (eqv c a):=by rw[e];exact List.mem_cons_self
  rw[List.mem_filter]at hx;have j:v.filter (eqv c a)=[]:=by
   rw[List.filter_eq_nil_iff];intro y f d;have g:=b x hx.1 y f;have i:c a x=0:=by simpa [eqv]using hx.2
   have h3:c a y=0:=by simpa [eqv]using d
   have h4:=h.same a y x h3;omega
  grind
def Ca{p xs ys:List α}(h:An c (p++xs) (p++ys)):An c xs ys:=λa=>by have:=h a;simp_all
def Fc{p xs ys:List α}(h:An c (xs++p) (ys++p)):An c xs ys:=λa=>by have:=h a;simp_all
theorem Ej(h:Bb c):∀ {ys zs:List α},CG c ys->CG c zs->An c ys zs->ys=zs
 |[],[],_,_,_=>rfl
 |[],z::zs,_,_,hs=>by have:=hs z;simp[eqv,h.b6]at this
 |y::ys,[],_,_,hs=>by have:=hs y;simp[eqv,h.b6]at this
 |y::ys,z::zs,i,hz,hs=>by
  have a:=pairwise_cons.1 i;have b:=pairwise_cons.1 hz;have e1:y∈z::zs:=by
   have:y∈(z::zs).filter (eqv c y):=by rw[hs y];simp[eqv,h.b6]
   simp_all
  have j:z∈y::ys:=by
   have:z∈(y::ys).filter (eqv c z):=by rw[<-hs z];simp[eqv,h.b6]
   simp_all
  have k:c z y<=0:=by
   rcases List.mem_cons.1 e1 with e|e
   ·rw[e,h.b6];omega
   simp_all
  have l:c y z<=0:=WZ
  have h3:=h.bo y z;have h4:c y z=0:=om
  have d:=hs y;rw[List.filter_cons,List.filter_cons,if_pos (by simp[eqv,h4]),if_pos (by simp[eqv,h.b6])]at d;have f:z=y:=(List.cons.inj d).1;subst f;have g:An c ys zs:=Ca (p:=[z]) hs;rw[Ej h a.2 b.2 g]
def ins(c:α->α->Int)(x:α):List α->List α
 |[]=>[x]
 |y::l=>if c x y<=0 then x::y::l else y::ins c x l
def yM(c:α->α->Int):List α->List α
 |[]=>[]
 |x::l=>ins c x (yM c l)
theorem Gl(x:α):∀l:List α,(ins c x l).length=l.length+1
 |[]=>rfl
 |y::l=>by unfold ins;split<;>simp[Gl x l]
theorem Cr:∀l:List α,(yM c l).length=l.length
 |[]=>rfl
 |x::l=>by rw[yM,Gl,Cr l];rfl
def N8{x z:α}:∀ {l:List α},z∈ins c x l->z=x\/z∈l
 |[],hz=>by simpa [ins]using hz
 |y::l,hz=>by
  unfold ins at hz;split at hz
  ·simpa using hz
  ·rcases List.mem_cons.1 hz with rfl|hz
   ·simp
   ·rcases N8 hz with rfl|hz<;>simp[*]
def N9(h:Bb c)(x:α):∀ {l:List α},CG c l->CG c (ins c x l)
 |[],_=>by simp[ins,CG]
 |y::l,d=>by
  have b:=pairwise_cons.1 d;unfold ins;split
  ·rename_i a;refine pairwise_cons.2 ⟨λz hz=> ?_,d⟩;rcases List.mem_cons.1 hz with rfl|hz
   ·exact a
   ·exact h.tr x y z a (b.1 z hz)
  ·rename_i a;refine pairwise_cons.2 ⟨λz hz=> ?_,N9 h x b.2⟩;rcases N8 hz with rfl|hz
   ·have:=h.bo z y;omega
   simp_all
def Ig(h:Bb c):∀l:List α,CG c (yM c l)
 |[]=>List.Pairwise.nil
 |x::l=>N9 h x (Ig h l)
def KR(h:Bb c)(x:α):∀l:List α,An c (x::l) (ins c x l)
 |[]=>nU _
 |y::l=>by
  unfold ins;split
  ·exact nU _
  ·rename_i e;have d:An c (x::y::l) (y::x::l):=by refine zB (xs:=[x]++[y]) (ys:=[y]++[x]) (IM h ?_) (nU l);intro a ha b hb;simp only[List.mem_singleton]at ha hb;subst ha;subst hb;have:=h.bo a b;omega
   exact d.trans (zB (xs:=[y]) (ys:=[y]) (nU _) (KR h x l))
def Gm(h:Bb c):∀l:List α,An c l (yM c l)
 |[]=>nU _
 |x::l=>(zB (xs:=[x]) (ys:=[x]) (nU _) (Gm h l)).trans (KR h x _)
structure By(c:α->α->Int)(a b:Nat)(xs ys:List α):Prop where
 len:ys.length=xs.length
 out:∀k,k<a\/b<=k->ys[k]? =xs[k]?
 inn:∀k,a<=k->k<b->∃k', a<=k'/\ k'< b/\ys[k]? =xs[k']?
 st:An c xs ys
def BU(c:α->α->Int)(a b:Nat)(xs:List α):Prop:=∀(i j:Nat) (x y:α),a<=i->i<j->j<b->xs[i]? =some x->xs[j]? =some y->c x y<=0
def OW(a b:Nat)(xs:List α):By c a b xs xs:=⟨rfl,λ_ _=>rfl,λk d e=>⟨k,d,e,rfl⟩,nU _⟩
theorem By.trans{a:Nat}{xs ys d:List α}(h:By c a b xs ys)(k:By c a b ys d):By c a b xs d where
 len:=k.len.trans h.len;out i X:=(k.out i X).trans (h.out i X);inn i h1 h2:=by obtain⟨j,h3,h4,e⟩:=k.inn i h1 h2;obtain⟨l,f,g,m⟩:=h.inn j h3 h4;grind
 st:=h.st.trans k.st
def By.wide{a d f:Nat}{xs ys:List α}(h:By c a b xs ys)(ha:d<=a)(hb:b<=f):By c d f xs ys where
 len:=h.len;out i X:=h.out i om;inn i h1 h2:=by
  by_cases e:a<=i/\i<b
  ·obtain⟨j,h3,h4,g⟩:=h.inn i e.1 e.2;grind
  ·exact⟨i,h1,h2,h.out i om⟩
 st:=h.st
theorem BU.part{a d e:Nat}{xs:List α}(h:BU c a b xs)(ha:a<=d)(hb:e<=b):BU c d e xs:=λi j x y g f h3=>h i j x y om f om
theorem V9(p u v s:List α)(k:Nat):(p++v++u++s)[k]? =if k<p.length then (p++u++v++s)[k]? else if k<p.length+v.length then (p++u++v++s)[k+u.length]? else if k<p.length+v.length+u.length then (p++u++v++s)[k-v.length]? else (p++u++v++s)[k]? :=WZ
def TV(h:Bb c){p u v s:List α}(a:∀x∈u,∀y∈v,c y x<0):By c p.length (p.length+u.length+v.length) (p++u++v++s) (p++v++u++s) where
 len:=Wl
 out k hk:=WZ
 inn k h1 h2:=by
  rw[V9];repeat' split
  ·omega
  ·exact⟨k+u.length,om,om,rfl⟩
  ·exact⟨k-v.length,om,om,rfl⟩
  ·omega
 st:=by have:An c (p++(u++v)++s) (p++(v++u)++s):=zB (zB (nU _) (IM h a)) (nU _);simp_all
def Ru{xs:List α}{a:Nat}(c:a<=b)(hb:b<=xs.length):∃p s t,xs=p++s++t/\p.length=a/\s.length=b-a:=by
 refine⟨xs.take a,(xs.take b).drop a,xs.drop b, ?_,Wl,Wl⟩;have:xs.take a=(xs.take b).take a:=by rw[List.take_take,Nat.min_eq_left c]
 simp_all
def Rv{xs:List α}{j:Nat}{x:α}(h:xs[j]? =some x):∃p s,xs=p++[x]++s/\p.length=j:=by obtain⟨b,a⟩:=List.getElem?_eq_some_iff.1 h;refine⟨xs.take j,xs.drop (j+1), ?_,Wl⟩;rw[List.append_assoc,List.singleton_append, <-a,List.getElem_cons_drop,List.take_append_drop]
def Fb(c:α->α->Int)(a b:Nat)(xs:List α):List α:=xs.take a++yM c ((xs.take b).drop a)++xs.drop b
def PI{p s t:List α}(h:BU c p.length (p.length+s.length) (p++s++t)):CG c s:=by
 rw[CG,List.pairwise_iff_getElem];intro i j X hj a;refine h (p.length+i) (p.length+j) _ _ om om om ?_ ?_
 ·grind
 ·grind
def aAA{a:Nat}{xs p s t:List α}(e:xs=p++s++t)(c:p.length=a)(d:p.length+s.length=b):xs.take a=p/\(xs.take b).drop a=s/\xs.drop b=t:=WZ
def ME(h:Bb c){a:Nat}(d:a<=b){xs ys:List α}(hb:b<=xs.length)(hs:By c a b xs ys)(r:BU c a b ys):ys=Fb c a b xs:=by
 obtain⟨p,s,t,e,o,x⟩:=Ru d hb;obtain⟨l,s', t', f,g,q⟩:=Ru (xs:=ys) d (by rw[hs.len];exact hb);obtain⟨u,v,w⟩:=aAA (b:=b) e o om;have m:l=p:=by
  apply List.ext_getElem?;intro k;by_cases hk:k<a
  ·have:=hs.out k (.inl hk);grind
  ·simp_all
 have n:t'= t:=by apply List.ext_getElem?;intro k;have:=hs.out (b+k) (.inr om);rw[e,f,List.getElem?_append_right Wl,List.getElem?_append_right Wl]at this;simp_all
 subst m;subst n;have j:An c s s':= by have:=hs.st;rw[e,f]at this;exact Ca (p:=l) (Fc this)
 have i:CG c s':= by refine PI (p:=l) (t:=t') ?_;rw[<-f,g,show a+s'.length=b by omega];exact r
 unfold Fb;rw[u,v,w,f];congr 2;exact(Ej h (Ig h s) i ((Gm h s).symm.trans j)).symm
theorem KS{xs:List α}{n:Nat}(h:n=xs.length):Fb c 0 n xs=yM c xs:=by grind[Fb]
end
section
variable {α:Type} {c:α->α->Int}
def TW{a:Nat}{xs:List α}(h:b<=a+1):BU c a b xs:=λi j x y d e h3=>om
def sw(xs:List α)(j:Nat)(x y:α):List α:=(xs.set (j+1) x).set j y
theorem aCW{P S:List α}{x y:α}{j:Nat}(h:P.length=j):sw (P++[x]++[y]++S) j x y=P++[y]++[x]++S:=by subst h;unfold sw;simp[List.set_append]
def aAB(h:Bb c){xs:List α}{j:Nat}{x y:α}(e1:xs[j]? =some x)(f:xs[j+1]? =some y)(d:c y x<0):By c j (j+2) xs (sw xs j x y):=by
 obtain⟨P,S,e,g⟩:=Rv e1;rw[e,List.getElem?_append_right Wl]at f;have hS:S[0]? =some y:=by rw[<-f];congr 1;simp;omega
 obtain⟨S', rfl⟩:∃S', S=y::S':= by
  cases S with
  |nil=>simp at hS
  |cons z S'=> simp at hS;exact⟨S', by rw[hS]⟩
 have i:xs=P++[x]++[y]++S':= by rw[e];simp
 rw[i,aCW g];have:=TV (p:=P) (u:=[x]) (v:=[y]) (s:=S') h (by intro a ha b hb;simp at ha hb;subst ha;subst hb;exact d);rw[g]at this;exact this
theorem Vl{xs:List α}{j:Nat}{x y:α}(e1:xs[j]? =some x)(c:xs[j+1]? =some y)(k:Nat):(sw xs j x y)[k]? =if k=j then some y else if k=j+1 then some x else xs[k]? :=by
 have d:=(List.getElem?_eq_some_iff.1 e1).1;have e:=(List.getElem?_eq_some_iff.1 c).1;unfold sw;rw[List.getElem?_set,List.getElem?_set];by_cases a:j=k
 ·subst a;simp;omega
 ·by_cases b:j+1=k
  ·subst b;simp;omega
  ·rw[if_neg a,if_neg b,if_neg om,if_neg om]
structure BW(c:α->α->Int)(a i j:Nat)(xs:List α):Prop where
 others:∀(k l:Nat) (x y:α),a<=k->k<l->l<=i->k≠j->l≠j->xs[k]? =some x->xs[l]? =some y->c x y<=0
 behind:∀(l:Nat) (x y:α),j<l->l<=i->xs[j]? =some x->xs[l]? =some y->c x y<=0
def MH{a i:Nat}{xs:List α}(h:BU c a i xs):BW c a i i xs:=⟨λk l x y b d h3 h4 e=>h k l x y b d om,λl x y b d=>om⟩
def BW.step(h:Bb c){a i:Nat}{xs:List α}{x y:α}(e:BW c a i (j+1) xs)(hj:a<=j)(X:j+1<=i)(e1:xs[j]? =some x)(f:xs[j+1]? =some y)(p:c y x<0):BW c a i j (sw xs j x y):=by
 refine⟨λk l u v g m h3 h4 o b ev=> ?_,λl u v g m b ev=> ?_⟩
 ·rw[Vl e1 f]at b ev;rw[if_neg h4]at b;rw[if_neg o]at ev;by_cases n:k=j+1
  ·rw[if_pos n]at b;cases b;rw[if_neg om]at ev;exact e.others j l x v om om h3 om om e1 ev
  ·rw[if_neg n]at b;by_cases d:l=j+1
   ·rw[if_pos d]at ev;cases ev;exact e.others k j u x g om om om om b e1
   ·rw[if_neg d]at ev;exact e.others k l u v g m h3 om om b ev
 ·rw[Vl e1 f]at b ev;rw[if_pos rfl]at b;cases b;rw[if_neg om]at ev;by_cases d:l=j+1
  ·rw[if_pos d]at ev;cases ev;omega
  ·rw[if_neg d]at ev;exact e.behind l y v om m f ev
def BW.stop(h:Bb c){a i:Nat}{xs:List α}(e:BW c a i j xs)(hj:a<=j)(X:j<=i)(o:i<xs.length)(hs:a<j->∀x y,xs[j-1]? =some x->xs[j]? =some y->¬c y x<0):BU c a (i+1) xs:=by
 intro k l u v g m h3 d ev;by_cases f:k=j
 ·subst f;exact e.behind l u v m om d ev
 ·by_cases n:l=j
  ·subst n;have b:l-1<xs.length:=om
   have q:=hs om _ _ (getElem?_eq_getElem b) ev;have r:=h.bo v xs[l-1];by_cases p:k=l-1
   ·subst p;rw[getElem?_eq_getElem b]at d;cases d;omega
   ·have:=e.others k (l-1) u _ g om om f om d (getElem?_eq_getElem b);exact h.tr _ _ _ this om
  ·exact e.others k l u v g m om f n d ev
end
structure A4 where
 path:Ab
 e:Int
def A4.C(a:A4):AV := .agg [Ab.C a.path, .int .i64 a.e]
def aAC(a b:A4):Int:=kJ a.path b.path
theorem A4.K(a:A4):a.C.K=true:=by simp[A4.C,AV.K,aA,Ab.C,dM]
theorem nK(l:List A4):aA (l.map A4.C)=true:=bH A4.K l
theorem yP(n m:Nat)(l:List A4):aE n m (l.map A4.C)=true:=aD n m _ (nK l)
def fcl:AV := .fn (.func 69) [] []
def TX(a b:A4):AN prog 69 [a.C,b.C] (.int .i64 (aAC a b)):=by
 refine FF (b:=a.path.length<=9223372036854775807) ⟨_,func69,rfl,rfl⟩ (by simp[aA,A4.K]) ?_ (λhb=> ?_)
 ·rintro g w vs ⟨v,C, -, ⟨cs, -, hl, -⟩, -⟩;obtain⟨f,e, -, d, -⟩:=hl;have:=Jf d;simp[maxLen]at this;omega
 ·refine AI.plain rfl (by simp[aA,A4.K]) (aS [4] func69 ?_);have c:=KQ a.path b.path hb
  repeat' first|refine cW rfl rfl ?_|refine .s1 ?_|(refine .q ?_ ?_<;>intro O)|refine aH rfl c (aB _) ?_|fail
  exact bY
def Flts.C(l:List A4):AV := .slice (l.map A4.C) .no
theorem Flts.K(l:List A4):(Flts.C l).K=true:=by simp[Flts.C,AV.K,nK]
theorem Ih{a n:Nat}:∀(xs ys:List AV),aE a n (xs++ys)=(aE a n xs&&aE a n ys)
 |[],ys=>by simp[aE]
 |x::xs,ys=>by rw[cons_append,aE,aE,Ih xs ys,Bool.and_assoc]
def PJ(l:Ab)(h:l.length<=1048576):AN prog 67 [Ab.C l] (Ab.C l):=by
 refine AI.plain (by simp[AV.K,Ab.C,dM]) (by simp[AV.K,aA,Ab.C,dM]) (aS [2] func67 ?_);have a:(l.map AU.C).length=l.length:=length_map ..
 refine tC 0 rfl (λhn=> ?_) ?_
 ·repeat' first|refine .seq ?_|refine .rg ?_|refine .rd ?_|refine .block ?_|refine .scope ?_|refine .skip ?_|refine .label ?_|refine .exit ?_|refine .ret ?_|refine .ct ?_|refine .cf ?_|refine .cy ?_|refine .cn ?_|(refine .cond rfl ?_ ?_<;>intro O)|refine cT ?_|refine .nl ?_|refine .dd ?_|refine .ys ?_|refine .no ?_|(refine fH rfl ?_ ?_<;>intro O)|refine .lb ?_|refine .ln ?_|refine .ls ?_|refine .pv ?_|refine .ix ?_|refine .pt ?_|refine .pf ?_|refine .bx ?_|refine .al ?_|refine .st ?_|refine .ad ?_|refine .sb ?_|refine .mf ?_|refine .cl ?_|refine .cw ?_|refine .ck ?_|refine Jd rfl rfl rfl ?_|fail
  exact aP rfl (AC.no (AA.eq hn.symm))
 ·repeat' first|refine .seq ?_|refine .rg ?_|refine .rd ?_|refine .block ?_|refine .scope ?_|refine .skip ?_|refine .label ?_|refine .exit ?_|refine .ret ?_|refine .ct ?_|refine .cf ?_|refine .cy ?_|refine .cn ?_|(refine .cond rfl ?_ ?_<;>intro O)|refine cT ?_|refine .nl ?_|refine .dd ?_|refine .ys ?_|refine .no ?_|(refine fH rfl ?_ ?_<;>intro O)|refine .lb ?_|refine .ln ?_|refine .ls ?_|refine .pv ?_|refine .ix ?_|refine .pt ?_|refine .pf ?_|refine .bx ?_|refine .al ?_|refine .st ?_|refine .ad ?_|refine .sb ?_|refine .mf ?_|refine .cl ?_|refine .cw ?_|refine .ck ?_|refine FA rfl rfl rfl ?_|refine sZ (n:=0) rfl rfl rfl rfl rfl rfl rfl rfl rfl rfl (Hg l) Wg om rfl ?_|fail
  exact aP rfl (AC.no (AA.eq (List.nil_append _)))
theorem MG{β:Type}(f:γ->β){l:List γ}(h:k<l.length):(l.take k).map f++[f l[k]]=(l.take (k+1)).map f:=WN
def Nu(f:A0):A4:=⟨f.path,f.e⟩
theorem Gk(l:List A0):l.map A0.C=(l.map Nu).map A4.C:=by rw[List.map_map];rfl
attribute [local irreducible] B8
def aCX:AV := .iface 280 (.agg [])
def JA(l:List AY)(H:St):B8 prog 118 [.ac (Tbls.C l), .ptr 0 0, .ptr 1 0, .ptr 2 0] none H H:=by
 refine B8.enter func118 rfl rfl rfl rfl rfl rfl rfl (λx h=>W0) ?_
 repeat' first|refine .s1 ?_|(refine .q ?_ ?_<;>intro O)|refine NU rfl rfl rfl rfl ?_|fail
 exact⟨.inl rfl,rfl⟩
def Rz(l:List AY)(hf:BN 1048576 l)(o e:AV)(vs:List AV)(a:vs=[.int .i64 0, .int .i64 0, .str [], .slice [] .nil, .slice [] .nil]):
  B8 prog 118 [.ac (Tbls.C l), .ptr 0 0, .ptr 1 0, .ptr 2 0] (some aCX) ⟨[.cells [o], .cells vs, .cells [e]],[]⟩ ⟨[.cells [Tbls.C l], .cells fF, .cells [.int .i64 11]],[]⟩:=by
 subst a;have ht:=OU l hf.len hf.ag hf.aq;refine B8.enter func118 rfl rfl rfl rfl rfl rfl rfl (λx h=>by cases h;exact⟨_,_,rfl⟩) ?_
 repeat' first|refine .s1 ?_|(refine .q ?_ ?_<;>intro O)|refine NU rfl rfl rfl rfl ?_|refine aH rfl ht (aB _) ?_|fail
 exact⟨.inl rfl,rfl⟩
def aCY(l:List AY)(c:BF){B:Nat}(hf:BN B l)(g:B+c.args.length+1<=1048576):
  AN prog 65 [Tbls.C l,c.C] (.tup [Tbls.C (f8 l c).1,(f8 l c).2.1.C, .int .i64 (f8 l c).2.2]):=by
 have a:BN 1048576 l:=hf.le om;have ht:=OU l a.len a.ag a.aq;refine AI.plain uN X8 (Ph [.cell 4 30, .cell 5 43, .cell 6 62] func65 rfl rfl rfl rfl rfl rfl ?_)
 repeat' first|refine cW rfl rfl ?_|refine .s1 ?_|(refine .q ?_ ?_<;>intro O)|fail|fail
 refine⟨rfl,_,rfl,(JA l ⟨[],[]⟩).da,λD=> ?_⟩;by_cases hb:(c.name==kY)=true
 ·have d:=aBD l c (by simpa using hb);have hk:uL c.name=true:=by rw[show c.name=kY by simpa using hb];rfl
  have e:f8 l c=(l,bP,11):=by unfold f8;rw[hk,hb];rfl
  rw[e]
  repeat' first|refine .s1 ?_|(refine .q ?_ ?_<;>intro O)|refine TB rfl d (aB _) ?_|fail
  exact⟨_,Rz l a _ _ _ rfl,_,rfl,_,rfl,qI⟩
 ·have hb': (c.name==kY)=false:=by simpa using hb
  have b:=doF l c hb' hf g;by_cases he:(f8 l c).2.2=0
  ·have f:((f8 l c).2.2 != 0)=false:=by rw[he];rfl
   repeat' first|refine .s1 ?_|(refine .q ?_ ?_<;>intro O)|refine aH rfl b (aB _) ?_|fail
   exact⟨_,JA l _,_,rfl,_,rfl,aG _⟩
  ·have f:((f8 l c).2.2 != 0)=true:=by simpa using he
   have e1:=LC l c he
   repeat' first|refine .s1 ?_|(refine .q ?_ ?_<;>intro O)|refine aH rfl b (aB _) ?_|refine aH rfl ht (aB _) ?_|fail
   refine⟨_,JA l _,_,rfl,_,rfl, ?_⟩;rw[e1];exact aG _
end Go.Proofs.YtimbiifcnhgcoaaGreatDoor
namespace Go.Av
open Go
def KT[AL]{H:St}{i:Nat}{ys:List AV}{t0 m:Tk}{T1 T': List Tok}(hT:H.T[k]? =some (.aa xs))(X:xs[i]? =some (.slice ys t0))(h:AK H (.slice ys t0) ⟨H.B,T1⟩ (.slice ys m))(y:T1[k]? =some (.aa xs))(x:jX k (.aa (xs.set i (.slice ys m))) T1 some=some T'):
  AK H z0 ⟨H.B,T'⟩ z0:=λg w v o hr=>by
 obtain⟨kl,z⟩:=d7 _ _ _ _ _ x
 have a3:k<g.tk.length:=by rw[o.lenT];exact(List.getElem?_eq_some_iff.1 hT).1
 have f:g.tk[k]? =some g.tk[k]:=getElem?_eq_getElem a3
 obtain⟨t1,t2,t3,Vs,t4,t5,t6,t7⟩:=o.tok k _ _ f hT
 obtain⟨V,hV,l⟩:=t4.get X
 obtain⟨g1,e1,b,r1⟩:=h g w V o l
 refine⟨g1,e1, ?_,Aa.mono e1.le _ _ hr⟩
 rw[<-Option.some.inj z]
 refine⟨b.lenB,by simpa using b.lenT,b.ob,b.nodup,b.noim,λj t r hj ht=> ?_,b.tkz,b.tkd,b.imlt,b.gl⟩
 by_cases e:j=k
 ·subst e
  simp only[List.getElem?_set_self kl,Option.some.injEq]at ht
  subst ht
  obtain⟨s1,s2,s3,Ws,n,s5,s6,s7⟩:=b.tok j _ r hj y
  have hsame:∀(p:Addr),r.base=some p->Ws[i]? =some V:=by
   intro p hp
   obtain⟨r', d,hh⟩:=e1.le.tk j _ f
   rw[hj]at d
   cases d
   have a4:r=g.tk[j]:=by
    rcases hh with h|h
    ·exact h
    ·have h1:=h.1
     have hl:=t1
     have hs:=s1
     omega
   subst a4
   have c:i<Ws.length:=by rw[n.length];exact(List.getElem?_eq_some_iff.1 X).1
   obtain⟨m1,m2⟩:=(t7 p hp).2 i _ hV
   obtain⟨n1,n2⟩:=(s7 p hp).2 i _ (getElem?_eq_getElem c)
   obtain⟨W,hW,u⟩:=n.get X
   rw[getElem?_eq_getElem c]at hW
   cases hW
   obtain⟨a,cap,sz,us,a6,_⟩:=u
   obtain⟨a', a8,ao,ar,a5,_⟩:=l
   rw[getElem?_eq_getElem c]
   have a1:=(m2 0 V Zh).2.1
   have a2:=(n2 0 Ws[i] (by rw[a6];rfl)).2.1
   rw[a1]at a2
   exact a2.symm
  cases hb:r.base with
  |none=>
   have:=s5 hb
   subst this
   have h0:=n.length
   have:i<xs.length:=(List.getElem?_eq_some_iff.1 X).1
   simp at h0
   omega
  |some p=>
   have a0:=hsame p hb
   refine⟨by simpa using s1,s2,s3,Ws, ?_,(λh=>by rw[hb]at h;cases h),s6,λq hq=> ?_⟩
   ·have:=n.set i r1
    rwa [rQ a0]at this
   ·rw[hb]at hq
    cases hq
    exact s7 p hb
 ·rw[List.getElem?_set_ne (Ne.symm e)]at ht
  exact b.tok j t r hj ht
end Go.Av
namespace Go.Proofs.YtimbiifcnhgcoaaGreatDoor
open Go Go.Av Go.Proofs.Tryz
attribute [local irreducible] AB AD AN AI Av.AU AZ
def doR(X:List AV)(L:List AY)(c:BF)(n:Nat)(g:X.length=n)(hn:n<=1048576)(a:aA X=true)(f:AN prog 65 [Tbls.C L,c.C] (.tup [Tbls.C (f8 L c).1,(f8 L c).2.1.C, .int .i64 (f8 L c).2.2])):
  AI prog 27 [.ptr 0 0,c.C] ⟨[.cells [Tbls.C L, .aa 0 1 n 0 n]],[.aa X]⟩
   (λe Y=>e = .ret (.tup [(f8 L c).2.1.C, .int .i64 (f8 L c).2.2])/\Y=⟨[.cells [Tbls.C (f8 L c).1, .aa 0 1 (n+1) 0 (n+1)]],[.aa (X++[.slice [] .nil])]⟩):=by
 have b:aE 1 1 (X++[.slice [] .nil])=true:=by rw[oL,aD _ _ _ a];rfl
 refine gI (nB:=1) (mT:=1) (cE [.cell 4 43, .tmp 5] func27 ?_) (le_refl _) (le_refl _)
  (aF _ _ _ W3) Zz (by simp[-cons_append,aL,Tok.ab,b])
 generalize f8 L c=r at *
 repeat' first|refine .br ?_|refine bJ (d:=7) rfl rfl rfl rfl rfl ?_|refine .s1 ?_|(refine .q ?_ ?_<;>intro O)|refine aH rfl f (aB _) ?_|refine b7 rfl ?_|refine fT rfl ?_|refine bC (agg:=true) rfl rfl rfl rfl rfl rfl rfl rfl rfl rfl rfl ?_|refine fD rfl rfl rfl rfl rfl rfl ?_|refine eG (m:=n+1) rfl rfl rfl rfl rfl rfl rfl rfl g rfl rfl Wg om rfl ?_|fail
 exact⟨_,rfl,_,_,rfl,eM _ _,rfl,rfl⟩
end Go.Proofs.YtimbiifcnhgcoaaGreatDoor
namespace Go.Av
open Go
def RA[AL]{P:Program}{H:St}(a:kP H.T (.len 0) some=some T'):AK H z0 ⟨H.B,T'⟩ z0:=λg w v c hr=>by
 obtain⟨g', e1,b,_⟩:=rI (H:=H) (agg:=true) (z:=1) (t := .nil) (xs:=[]) rfl rfl c (u := .slice none 0 0) ⟨none,0,0,[],rfl,le_refl _,zero_le _,⟨rfl,rfl⟩,rfl,λ_=>⟨rfl,rfl⟩,λp h=>W0⟩
 refine⟨g', e1, ?_,Aa.mono e1.le _ _ hr⟩
 rw[<-Option.some.inj (eQ _ _ _ _ a)];exact b
end Go.Av
namespace Go.Proofs.YtimbiifcnhgcoaaGreatDoor
open Go Go.Av Go.Proofs.Tryz
attribute [local irreducible] AB AD AN AI Av.AU AZ
def MI(s:AJ)(d:AR)(A:List AF)(tb:AG)(w:List Sl)(v:AH)(h:v.kind=0)(t:Ac)(p:Ab)(st:AS)(i:Bool)(ht:t.name.length<=68719476736)(g:isT t=false){t0 t1 t2:Tok}(f:aL 2 4 [t0,t1,t2, .aa [(lL false bP).ak]]=true):
  AI prog 63 [.ptr 0 0, .ao 3 10 1 0 0,t.C,v.C,jM .nilp tb [] ⟨[],0,0⟩ w p] ⟨evB s d A st,[t0,t1,t2, .aa [knG 0 i]]⟩ (λe Y=>e = .ret (.tup [])/\Y=⟨evB s d A st,[t0,t1,t2, .aa [(lL false bP).ak]]⟩):=by
 have b:=wIs t om;have c:=SM t om;refine gI (nB:=2) (mT:=4) (aS [] func63 ?_) (le_refl _) (le_refl _) rfl (cN _ _ _ _ _ om) f;have j:(v.kind==0)=true:=by rw[h];rfl
 unfold evB;rw[g]at b;have a:∀(x:List Ob),_:=λ(x:List Ob)=>Nw s d A rdV lyV (.cells (kR st.L st.R.length)::x) [t0,t1,t2, .aa [knG 0 false]] st.F 3 p rfl
 repeat' first|refine AD.bx (v := .agg [_,_,_,_,_,_,_,_]) ?_|refine .br ?_|refine .s1 ?_|(refine .q ?_ ?_<;>intro O)|refine b7 rfl ?_|refine fT rfl ?_|refine bC (agg:=true) rfl rfl rfl rfl rfl rfl rfl rfl rfl rfl rfl ?_|refine dR rfl (a _) (aB _) ?_|fail
 exact⟨_,_,rfl,eJ (k:=3) rfl (iN 0 false _ _ _ _) rfl,rfl,rfl⟩
def Bl(pl:Pl):Prop:=∀u row w p m st,(pl u row w p m st).1.cnt+2 * st.c<=2 * (pl u row w p m st).2.c
def tV(m:Bool)(st a:AS)(h:a.c=st.c+1):(mP m).cnt+2 * st.c<=2 * a.c:=by
 have:(mP m).cnt=1:=by unfold mP;rw[Nd.cnt,iW];rfl
 omega
def Gn(m:Bool)(v:AH)(st a:AS)(h:a.c=st.c+1):(lL m v).cnt+2 * st.c<=2 * a.c:=by
 have:(lL m v).cnt=1:=by unfold lL;rw[Nd.cnt,iW];rfl
 omega
mutual
theorem Gp(s:AJ)(pl:Pl)(hpl:Bl pl)(tb:AG)(w:List Sl):∀(v:AH) (t:Ac) (p:Ab) (st:AS),(dD s pl tb w v t p st).1.cnt+2 * st.c<=2 * (dD s pl tb w v t p st).2.c
 | .mk k n str l m,t,p,st=>by
  rw[dD]
  dsimp only
  split
  ·split
   ·exact tV _ _ _ rfl
   ·exact Gn _ _ _ _ rfl
  split
  ·split
   ·exact tV _ _ _ rfl
   ·have h:=Gq s pl hpl tb w l (cB t) p 0 st.ah
    have e:st.ah.c=st.c+1:=rfl
    rw[Nd.cnt,List.length_nil]
    dsimp only
    omega
  split
  ·split
   ·exact tV _ _ _ rfl
   ·exact Gn _ _ _ _ rfl
  split
  ·exact tV _ _ _ rfl
  unfold xB
  split
  ·exact tV _ _ _ rfl
  split
  ·split
   ·exact tV _ _ _ rfl
   ·exact Gn _ _ _ _ rfl
  split
  ·exact tV _ _ _ rfl
  ·have h:=hpl (cP st.ah.L ⟨tb,str⟩).row.aw (cP st.ah.L ⟨tb,str⟩).row w p (isT t) (st.ah.read ⟨tb,str⟩)
   have e:(st.ah.read ⟨tb,str⟩).c=st.c+1:=rfl
   omega
theorem Gq(s:AJ)(pl:Pl)(hpl:Bl pl)(tb:AG)(w:List Sl):∀(l:List AH) (t:Ac) (p:Ab) (i:Nat) (st:AS),iW (cC s pl tb w l t p i st).1+2 * st.c<=2 * (cC s pl tb w l t p i st).2.c
 |[],_,_,_,st=>by rw[cC,iW];dsimp only;omega
 |v::l,t,p,i,st=>by
  rw[cC]
  dsimp only
  rw[iW]
  have a:=Gp s pl hpl tb w v t (p++[⟨[],i⟩]) st
  have b:=Gq s pl hpl tb w l t p (i+1) (dD s pl tb w v t (p++[⟨[],i⟩]) st).2
  omega
end
def Gr(s:AJ)(d:AR)(A:List AF)(pl:Pl)(hpl:Bl pl)(f:Bool)(u:AG)(row:Row)(g:AT)(p:Ab)(st:AS):(b6 s d A pl f u row g p st).1.cnt+1+2 * st.c<=2 * (b6 s d A pl f u row g p st).2.c:=by
 have b:∀(m:Bool) (a:AS),a.c=st.c+1->(mP m).cnt+1+2 * st.c<=2 * a.c:=λm a h=>by
  have:(mP m).cnt=1:=by unfold mP;rw[Nd.cnt,iW];rfl
  omega
 have j:∀(m:Bool) (v:AH) (a:AS),a.c=st.c+1->(lL m v).cnt+1+2 * st.c<=2 * a.c:=λm v a h=>by
  have:(lL m v).cnt=1:=by unfold lL;rw[Nd.cnt,iW];rfl
  omega
 have i:∀tb w v t p (e:AS),e.c=st.c+1->(dD s pl tb w v t p e).1.cnt+1+2 * st.c<=2 * (dD s pl tb w v t p e).2.c:=λtb w v t p e h=>by have:=Gp s pl hpl tb w v t p e;omega
 unfold b6;dsimp only;split
 ·exact j _ _ _ rfl
 split
 ·exact b _ _ rfl
 split
 ·split
  ·split
   ·exact b _ _ rfl
   ·exact i _ _ _ _ _ _ rfl
  ·exact b _ _ rfl
 ·exact i _ _ _ _ _ _ rfl
def Ii{α:Type}(a:α->AS->Nd×AS)(hf:∀g st,(a g st).1.cnt+1+2 * st.c<=2 * (a g st).2.c):∀(l:List α) (st:AS),iW (bX a l st).1+l.length+2 * st.c<=2 * (bX a l st).2.c
 |[],st=>by rw[bX,iW];simp
 |g::l,st=>by
  have b:=hf g st
  have d:=Ii a hf l (a g st).2
  rw[bX]
  dsimp only
  rw[iW,List.length_cons]
  omega
def zH(s:AJ)(d:AR)(A:List AF)(pl:Pl)(hpl:Bl pl)(a:Bool)(u:AG)(row:Row)(w:List Sl)(p:Ab)(m:Bool)(st:AS)(b:AT->AS->Nd×AS)(f:∀g st,b g st=b6 s d A pl a u row g (p++[⟨g.key,0⟩]) st):
  (Nd.mk 2 m bP ((bF s d A u w).map AT.key) (bX b (bF s d A u w) st.ah).1).cnt+2 * st.c<=2 * (bX b (bF s d A u w) st.ah).2.c:=by have h:=Ii b (λg st=>by rw[f];exact Gr s d A pl hpl a u row g _ st) (bF s d A u w) st.ah;have e:st.ah.c=st.c+1:=rfl;rw[Nd.cnt,length_map];omega
def l5(s:AJ)(d:AR)(A:List AF):∀n:Nat,Bl (bV s d A n false)
 |0=>λu row w p m st=>by
  have e1:(bV s d A 0 false u row w p m st).1.cnt=1:=by
   rw[bV];dsimp only;rw[Nd.cnt,iW];rfl
  have a:(bV s d A 0 false u row w p m st).2.c=st.c+1000000000:=rfl
  omega
 |n+1=>λu row w p m st=>zH s d A _ (l5 s d A n) false u row w p m st _ (λ_ _=>rfl)
def wkR(s:AJ)(d:AR)(A:List AF)(F:List A0):List AV:=
 [.slice (s.ai.map Ah.C) .no, .str s.query, .str s.av, .slice (d.ops.map Ak.C) .no, .slice (d.aj.map Af.C) .no, .slice (A.map AF.C) .no, .fn (.func 20) [] [.ac (.ptr 2 0), .ac (.ptr 1 0)], .fn (.func 23) [.ptr 2 0] [], .slice (F.map A0.C) (.own 2 2)]
def rnR(L:List AY)(n:Nat):List AV:=[Tbls.C L, .aa 4 1 n 0 n]
def knR(ks:List AG)(xs:List AV):AV := .agg [.int .i64 2, .bool false, .int .i64 0, .int .i64 0, .str [], .slice [] .nil, .slice [] .nil, .slice (ks.map AV.str) (.own 6 1), .slice [] .nil, .slice xs (.own 7 1)]
def RB(s:AJ)(d:AR)(A:List AF)(F:List A0){N:Nat->Nat}(h0:Q 0=2)(a:Q 1=1)(g0:N 0=2):(Ob.cells (rE s d A rdV lyV F)).af Q N = .cells (wkR s d A F):=by have hF:aA (F.map A0.C)=true:=bH (λf=>Xl) F;simp only[Ob.af,rE,wkR,rdV,lyV,aX,AV.af,Tk.af,h0,a,g0,aU _ _ _ (iS _),aU _ _ _ (kD _),aU _ _ _ (uR _),aU _ _ _ (aR _),aU _ _ _ hF]
def RC(L:List AY)(n:Nat){N:Nat->Nat}(a:N 1=4):(Ob.cells (kR L n)).af Q N = .cells (rnR L n):=by simp only[Ob.af,kR,rnR,aX,AV.af,a,cX _ _ _ (Tbls.K L)]
theorem sF(l:List Ae):aA (l.map Ae.C)=true:=bH Ae.K l
theorem zI{Q N:Nat->Nat}{j:Nat}(a:N 2=j):∀R:List (List Ae),aX Q N (kI R)=rdJ j R
 |[]=>rfl
 |[r]=>by simp only[kI,rdJ,aX,AV.af,Tk.af,a,aU _ _ _ (sF r)]
 |r::q::l=>by
  rw[kI,rdJ,aX,zI a (q::l)]
  simp only[AV.af,Tk.af,aU _ _ _ (sF r)]
def JB{N:Nat->Nat}(b:N 4=6)(c:N 5=7)(a:List AG)(xs:List Nd):aX Q N [knP false a (xs.map λy => .ac y.ak)]=[knR a (xs.map λy => .ac y.ak)]:=by simp only[knP,knR,aX,AV.af,Tk.af,b,c,aU _ _ _ (aT a),aU _ _ _ (gS xs)]
def Cs(x0 x3:Ob)(s:AJ)(d:AR)(A:List AF)(st:AS):List Ob:=[x0, .cells (rnR st.L st.R.length), .cells (wkR s d A st.F),x3]
def DN(st:AS)(kn:AV)(a b:Nat):List Tok:=[.len 2, .len 2, .len st.F.length, .aa [kn], .aa (rdJ 5 st.R), .len (eD st.R).length, .len a, .len b]
def Fd{nB:Nat}(h:3<=nB):Bp nB [2,1]:=⟨Wd,λi X=>Yy⟩
def EK(v:AH)(F:List A0)(R:List (List Ae))(L:List AY):AV := .agg [.int .i64 v.kind, .int .i64 v.n, .str v.s, .slice v.lv .no, .slice v.mv .no, .slice (F.map A0.C) .no, .slice (kE R) .no,Tbls.C L]
def mvT(st:AS):List Tok:=[.len st.F.length, .aa (kE st.R), .len 0]
theorem fW(R:List (List Ae)):aA (kE R)=true:=bH (λr=>by simp[AV.K,rR]) R
theorem mU(R:List (List Ae)):(kE R).length=R.length:=length_map _
theorem qN(n m:Nat)(st:AS):aL n m (mvT st)=true:=by simp[mvT,aL,Tok.ab,aD _ _ _ (fW _)]
theorem tW:∀R:List (List Ae),eD (R++[[]])=[]
 |[]=>rfl
 |[r]=>rfl
 |r::q::l=>tW (q::l)
def RD{H:St}{R:List (List Ae)}{J:Nat}(hT:H.T[1]? =some (.aa (kE R++[.slice [] .nil])))(c:dN H.T=some J)(a:kP (H.T.set 1 (.aa (rdJ J (R++[[]])))) (.len 0) some=some T'):AK H z0 ⟨H.B,T'⟩ z0:=by
 have b:=(List.getElem?_eq_some_iff.1 hT).1;have X:(kE R++[.slice [] .nil])[R.length]? =some (AV.slice [] .nil):=by rw[List.getElem?_append_right (by rw[mU];exact le_refl _),mU,Nat.sub_self];rfl
 have hs:(kE R++[AV.slice [] .nil]).set R.length (.slice [] (.own J 2))=rdJ J (R++[[]]):=by rw[KO,List.set_append_right _ _ (by rw[mU];exact le_refl _),mU,Nat.sub_self];rfl
 refine KT (k:=1) (i:=R.length) (T1:=H.T++[.len 0]) hT X (k9 (k:=J) (z:=2) rfl c (oQ _ _ _)) (by rw[List.getElem?_append_left b];exact hT) ?_;rw[hs,gJ YA, <-a,oQ,List.set_append_left _ _ b]
theorem Vm{L:List AY}{n:Nat}{N:Nat->Nat}(g:N 0=1):(Ob.cells [Tbls.C L, .aa 0 1 n 0 n]).af Q N = .cells (kR L n):=by simp only[Ob.af,kR,aX,AV.af,g,cX _ _ _ (Tbls.K L)]
def RE{B:List Ob}{L:List AY}{n:Nat}(b:B[1]? =some (.cells (kR L n))){N:Nat->Nat}(g:N 0=1):
  ∀(k i:Nat) (ob:Ob),([1]:List Nat)[k]? =some i->([.cells [Tbls.C L, .aa 0 1 n 0 n]]:List Ob)[k]? =some ob->B[i]? =some (ob.af Q N)
 |0,i,ob,h,a=>by
  cases h;cases a;rw[b,Vm g]
 |k+1,i,ob,h,a=>W0
def RF{T:List Tok}{X:List AV}(a:T[1]? =some (.aa X))(b:aA X=true){N:Nat->Nat}:
  ∀(k i:Nat) (t:Tok),([1]:List Nat)[k]? =some i->([.aa X]:List Tok)[k]? =some t->T[i]? =some (t.af Q N)
 |0,i,t,h,ht=>by
  cases h;cases ht;rw[a];simp only[Tok.af,aU _ _ _ b]
 |k+1,i,t,h,ht=>W0
def Vn(a b:Ob)(r:List Ob)(L:List AY)(n:Nat){N:Nat->Nat}(g:N 0=1):eZ (a::b::r) [1] (([.cells [Tbls.C L, .aa 0 1 n 0 n]]:List Ob).map (Ob.af Q N))=a :: .cells (kR L n)::r:=by have e:=Vm (L:=L) (n:=n) (Q:=Q) g;show (a::(Ob.cells [Tbls.C L, .aa 0 1 n 0 n]).af Q N::r)++[]=_;rw[e,List.append_nil]
def Vo(a b:Tok)(r:List Tok)(X:List AV)(c:aA X=true){N:Nat->Nat}:eZ (a::b::r) [1] (([.aa X]:List Tok).map (Tok.af Q N))=a::Tok.aa X::r:=by show (a::Tok.aa (aX Q N X)::r)++[]=_;rw[aU _ _ _ c,List.append_nil]
theorem Oa(s:AJ)(d:AR)(A:List AF)(F:List A0){N:Nat->Nat}(h0:Q 0=0)(a:Q 1=1)(g0:N 0=0):(Ob.cells (rE s d A rdV lyV F)).af Q N = .cells (rE s d A rdV lyV F):=by have hF:aA (F.map A0.C)=true:=bH (λf=>Xl) F;simp only[Ob.af,rE,rdV,lyV,aX,AV.af,Tk.af,h0,a,g0,aU _ _ _ (iS _),aU _ _ _ (kD _),aU _ _ _ (uR _),aU _ _ _ (aR _),aU _ _ _ hF]
theorem Oc(L:List AY)(n:Nat){N:Nat->Nat}(a:N 1=1):(Ob.cells (kR L n)).af Q N = .cells (kR L n):=by simp only[Ob.af,kR,aX,AV.af,a,cX _ _ _ (Tbls.K L)]
def aAD(s:AJ)(d:AR)(A:List AF)(st:AS){B:List Ob}(b:B[0]? =some (.cells (rE s d A rdV lyV st.F)))(c:B[1]? =some (.cells (kR st.L st.R.length))){N:Nat->Nat}(h0:Q 0=0)(f:Q 1=1)(g0:N 0=0)(e:N 1=1):
  ∀(k i:Nat) (ob:Ob),([0,1]:List Nat)[k]? =some i->(evB s d A st)[k]? =some ob->B[i]? =some (ob.af Q N)
 |0,i,ob,h,a=>by
  cases h;cases a
  rw[b,Oa s d A st.F h0 f g0]
 |1,i,ob,h,a=>by
  cases h;cases a
  rw[c,Oc st.L st.R.length e]
 |k+2,i,ob,h,a=>W0
def aAE(st:AS)(a:AV)(hk:a.K=true)(hz:(eD st.R).length=0){T:List Tok}{j:Nat}(t0:T[0]? =some (.len st.F.length))(t1:T[1]? =some (.aa (rdJ j st.R)))(t2:T[j]? =some (.len 0))(c:T[6]? =some (.aa [a])){N:Nat->Nat}(b:N 2=j):
  ∀(k i:Nat) (t:Tok),([0,1,j,6]:List Nat)[k]? =some i->(evT st++[.aa [a]])[k]? =some t->T[i]? =some (t.af Q N)
 |0,i,t,h,ht=>by cases h;cases ht;rw[t0];rfl
 |1,i,t,h,ht=>by
  cases h;cases ht
  rw[t1]
  exact congrArg (λx=>some (Tok.aa x)) (zI b st.R).symm
 |2,i,t,h,ht=>by cases h;cases ht;rw[t2,hz];rfl
 |3,i,t,h,ht=>by
  cases h;cases ht;rw[c]
  simp only[Tok.af,aX,cX _ _ _ hk]
 |k+4,i,t,h,ht=>W0
def aCZ(s:AJ)(d:AR)(A:List AF)(st:AS)(a b:Ob)(r:List Ob){N:Nat->Nat}(h0:Q 0=0)(e:Q 1=1)(g0:N 0=0)(c:N 1=1):eZ (a::b::r) [0,1] ((evB s d A st).map (Ob.af Q N)) = .cells (rE s d A rdV lyV st.F) :: .cells (kR st.L st.R.length)::r:=by show ((Ob.cells (rE s d A rdV lyV st.F)).af Q N::(Ob.cells (kR st.L st.R.length)).af Q N::r)++[]=_;rw[Oa s d A st.F h0 e g0,Oc st.L st.R.length c,List.append_nil]
def aC0(st:AS)(d:AV)(hk:d.K=true)(a b c e f g h i j:Tok){N:Nat->Nat}(k:N 2=8):eZ [a,b,c,e,f,g,h,i,j] [0,1,8,6] ((evT st++[Tok.aa [d]]).map (Tok.af Q N))=[.len st.F.length, .aa (rdJ 8 st.R),c,e,f,g, .aa [d],i, .len (eD st.R).length]:=by show [Tok.len st.F.length, .aa (aX Q N (kI st.R)),c,e,f,g, .aa (aX Q N [d]),i, .len (eD st.R).length]=_;rw[zI k,aX,aX,cX _ _ _ hk]
def Ij:∀R:List (List Ae),AA (kE R++[.slice [] .nil]) (kE (R++[[]]))
 |[]=>AA.cons (AC.no (aB _)) (aB _)
 |r::R=>AA.cons (aG _) (Ij R)
def KU(st:AS)(p:Ab)(e:Int)(l:List Tok):Tok.len (st.F.length+1) :: .aa (kE st.R) :: .len 0::l=mvT (st.bad p e)++l:=by unfold mvT AS.bad;rw[length_append];rfl
def zJ(st:AS)(L:List AY):AS:=⟨L,st.F,st.R++[[]],st.c+1⟩
def doV:AV := .fn (.func 27) [.ptr 1 0] []
abbrev Ik(s:AJ)(A:List AF)(u:AG)(x:Sl):List AF×Int:=dU s (aK s u x.name).1.params x.args A
abbrev E5(s:AJ)(u:AG)(x:Sl):BO:=(ofB s u (aK s u x.name).1).1
abbrev wE(s:AJ)(A:List AF)(u:AG)(x:Sl):BF:=o9 (aK s u x.name).1 (E5 s u x) (Ik s A u x).1
def TY(s:AJ)(d:AR)(A:List AF)(hx:Am s d A)(pl:Pl)(u:AG)(row:Row)(hrow:row.aq.length<=1048576)(f:AG)(x:Sl)(C:List Sl)(l:List Sl)(p:Ab)(st:AS)(m:Bool)(h:List AG)(xs:List Nd)(hF:st.F.length<=4096)(hR:st.R.length<=1048576)(ak:x.ok/\x.size<=1048576)(bn:aC Sl.size (x::C)<=68719476736)(hp:p.length<=4096)
  (bs:h.length<=1048576) (bv:xs.length<=1048576)
  (hno:x.name≠aY->(Ik s A u x).2=0->(E5 s u x).how≠3->(E5 s u x).how≠2/\(iC row (E5 s u x).col).kind=0/\isT (aK s u x.name).1.t=false)
  (a1:x.name≠aY->(Ik s A u x).2=0->(E5 s u x).how=3->AN prog 65 [Tbls.C st.L,(wE s A u x).C] (.tup [Tbls.C (f8 st.L (wE s A u x)).1,(f8 st.L (wE s A u x)).2.1.C, .int .i64 (f8 st.L (wE s A u x)).2.2]))
  (Di:x.name≠aY->(Ik s A u x).2=0->(E5 s u x).how=3->(f8 st.L (wE s A u x)).2.2=0->
   Bo s d A 63 [.ptr 0 0, .ao 3 10 1 0 0,(aK s u x.name).1.t.C,(f8 st.L (wE s A u x)).2.1.C,jM .nilp (E5 s u x).table [] ⟨[],0,0⟩ (bO (x::C)) (p++[⟨f,0⟩])] (zJ st (f8 st.L (wE s A u x)).1) (knG 0 (isT (aK s u x.name).1.t))
    (dD s pl (E5 s u x).table (bO (x::C)) (f8 st.L (wE s A u x)).2.1 (aK s u x.name).1.t (p++[⟨f,0⟩]) (zJ st (f8 st.L (wE s A u x)).1))):
  AI prog 26 [.ptr 0 0,plE (.ao 3 10 1 0 0) u row l p,AT.C ⟨f,x::C⟩,doV] ⟨evB s d A st,mvT st++[.aa [knP m h (xs.map λy => .ac y.ak)], .len h.length, .len xs.length]⟩
   (λe Y=>e = .ret (.tup [])/\Y=⟨evB s d A (b6 s d A pl true u row ⟨f,x::C⟩ (p++[⟨f,0⟩]) st).2,mvT (b6 s d A pl true u row ⟨f,x::C⟩ (p++[⟨f,0⟩]) st).2++
    [.aa [knP m (h++[f]) ((xs++[(b6 s d A pl true u row ⟨f,x::C⟩ (p++[⟨f,0⟩]) st).1]).map λy => .ac y.ak)], .len (h.length+1), .len (xs.length+1)]⟩):=by
 have bu:=hx.hs;obtain⟨f1,f2⟩:=jT hx.so u x.name;have bq:(aK s u x.name).1.size=(aK s u x.name).1.name.length+aC AP.size (aK s u x.name).1.params+(aK s u x.name).1.t.size+aC AO.size (aK s u x.name).1.ar+4:=rfl;have bp:(aK s u x.name).1.t.name.length<=(aK s u x.name).1.t.size:=X7
 have a3:AI prog 54 [.ao 3 10 1 0 0, .str f] ⟨evB s d A st,mvT st++[.aa [knP m h (xs.map λy => .ac y.ak)], .len h.length, .len xs.length]⟩ (λe Y=>e = .ret (.ao 6 10 1 0 0)/\
   Y=⟨evB s d A st,mvT st++[.aa [.agg [.int .i64 2, .bool m, .int .i64 0, .int .i64 0, .str [], .slice [] .nil, .slice [] .nil, .slice (h.map AV.str++[.str f]) (.own 4 1), .slice [] .nil, .slice ((xs.map λy => .ac y.ak)++[.ao 6 10 1 0 0]) (.own 5 1)]], .len (h.length+1), .len (xs.length+1), .aa [kn0 false]]⟩):=
  Vj (length_map _) (length_map _) om om
 have bt:=aBF p ⟨f,0⟩ om;have g:=Q9 s d A hx st u f x C ak.2 ak.1 (qN 2 3 st);have hI:=wIs (aK s u x.name).1.t om;have hO:=bOf s u (aK s u x.name).1 om om;have hT:=MV u;have bm:=Th (x::C) om;have x0:(List.map Sl.C (x::C))[0]? =some x.C:=rfl;have b3:=cN s d A st 3 om;have t3:=qN 2 3 st;have al:∀r:Nd×AS,AI prog 26 [.ptr 0 0,plE (.ao 3 10 1 0 0) u row l p,AT.C ⟨f,x::C⟩,doV] ⟨evB s d A st,mvT st++[.aa [knP m h (xs.map λy => .ac y.ak)], .len h.length, .len xs.length]⟩
   (λe b5=>∃v ab,e = .ret v/\AK b5 v ab (.tup [])/\ab.B.take 2=evB s d A r.2/\ab.T.take 6=mvT r.2++[.aa [knP m (h++[f]) ((xs++[r.1]).map λy => .ac y.ak)], .len (h.length+1), .len (xs.length+1)])-> 
   AI prog 26 [.ptr 0 0,plE (.ao 3 10 1 0 0) u row l p,AT.C ⟨f,x::C⟩,doV] ⟨evB s d A st,mvT st++[.aa [knP m h (xs.map λy => .ac y.ak)], .len h.length, .len xs.length]⟩
   (λe Y=>e = .ret (.tup [])/\Y=⟨evB s d A r.2,mvT r.2++[.aa [knP m (h++[f]) ((xs++[r.1]).map λy => .ac y.ak)], .len (h.length+1), .len (xs.length+1)]⟩):=λr hr=>by
  have aw:aE 2 6 ((xs++[r.1]).map λy => .ac y.ak)=true:=aD _ _ _ (gS _);have ax:aE 2 6 ((h++[f]).map AV.str)=true:=aD _ _ _ (aT _);refine gI (nB:=2) (mT:=6) hr (le_refl _) (le_refl _) rfl (cN _ _ _ _ _ om) ?_;rw[gZ,qN];simp only[aL,Tok.ab,aE,AV.ab,knP,aw,ax];rfl
 refine al _ (aS [] func26 ?_);have a2:aE 2 3 [.ptr 0 0, .str u,AT.C ⟨f,x::C⟩]=true:=by have:=aF 2 3 _ (AT.K ⟨f,x::C⟩);rw[aE,aE,aE,this];rfl
 unfold b6 doV;dsimp only[List.headD];by_cases z:x.name=aY
 ·have e1:(x.name==aY)=true:=by simp[z]
  unfold aY at e1;rw[if_pos z,if_pos z]at g;rw[if_pos z];generalize aK s u x.name=fr at *
  have w:(AV.tup [fr.1.C, .slice (([]:List AF).map AF.C) .no, .int .i64 0]).ab 2 3=true:=aF _ _ _ WH
  repeat' first|refine .br ?_|refine .s1 ?_|(refine .q ?_ ?_<;>intro O)|refine dR rfl a3 (aB _) ?_|refine fT rfl ?_|refine iI (B0:=evB s d A st) (B1:=evB s d A st) (T0:=mvT st) (T1:=mvT st) (B:=[]) (T:=[_,_,_,_]) rfl g rfl (.inl rfl) (.inr rfl) (le_refl _) (le_refl _) b3 t3 b3 t3 a2 w (aB _) ?_|refine bC (agg:=true) rfl rfl rfl rfl rfl rfl rfl rfl rfl rfl rfl ?_|fail
  refine⟨_,_,rfl,AK.trans (eJ (k:=6) rfl (Jo 0 (isT fr.1.t) (iF u) _ _) rfl) (cV (k:=3) (i:=0) (c:=9) rfl rfl rfl (nA (bE (k:=6) (n:=1) (j:=0) rfl rfl rfl rfl)) rfl rfl),rfl, ?_⟩;simp only[knP,map_append,map_cons,map_nil];rfl
 have e1:(x.name==aY)=false:=by simp[z]
 unfold aY at e1;rw[if_neg z,if_neg z]at g;rw[if_neg z];have w:(AV.tup [(aK s u x.name).1.C, .slice ((dU s (aK s u x.name).1.params x.args A).1.map AF.C) .no, .int .i64 (dU s (aK s u x.name).1.params x.args A).2]).ab 2 3=true:=aF _ _ _ Yf;have bl:(dU s (aK s u x.name).1.params x.args A).1.length<=1048576:=by have h1:=tQ s true false A (kX s) (mkM s true A (cY s) x.args) (aK s u x.name).1.params;have h2:=aJ (size:=AP.size) AP.au (aK s u x.name).1.params;have h3:=Gc s u x.name;unfold dU;omega
 unfold E5 Ik at hno;unfold wE E5 Ik at a1 Di;generalize dU s (aK s u x.name).1.params x.args A=a at *
 generalize aK s u x.name=fr at *
 by_cases c2:a.2=0
 case neg=>
  have n2:(a.2 != 0)=true:=by simpa using c2
  rw[if_pos c2];have a0:∀(x:List Ob) (e:Int),_:=λ(x:List Ob) (e:Int)=>J5 s d A rdV lyV (.cells (kR st.L st.R.length)::x) (mvT st++[.aa [.agg [.int .i64 2, .bool m, .int .i64 0, .int .i64 0, .str [], .slice [] .nil, .slice [] .nil, .slice (h.map AV.str++[.str f]) (.own 4 1), .slice [] .nil, .slice ((xs.map λy => .ac y.ak)++[.ao 6 10 1 0 0]) (.own 5 1)]], .len (h.length+1), .len (xs.length+1), .aa [knG 0 (isT fr.1.t)], .len 2]) st.F 6 (p++[⟨f,0⟩]) e rfl rfl Wd om
  repeat' first|refine .br ?_|refine bJ (d:=13) rfl rfl rfl rfl rfl ?_|refine b8 13 rfl (bE rfl rfl rfl rfl) ?_|refine .s1 ?_|(refine .q ?_ ?_<;>intro O)|refine dR rfl a3 (aB _) ?_|refine b7 rfl ?_|refine fT rfl ?_|refine iI (B0:=evB s d A st) (B1:=evB s d A st) (T0:=mvT st) (T1:=mvT st) (B:=[]) (T:=[_,_,_,_]) rfl g rfl (.inl rfl) (.inr rfl) (le_refl _) (le_refl _) b3 t3 b3 t3 a2 w (aB _) ?_|refine dR rfl (a0 _ _) (aB _) ?_|refine bC (agg:=true) rfl rfl rfl rfl rfl rfl rfl rfl rfl rfl rfl ?_|fail
  refine⟨_,_,rfl,AK.trans (eJ (k:=6) rfl (iN 3 (isT fr.1.t) _ _ _ _) rfl) (cV (k:=3) (i:=0) (c:=9) rfl rfl rfl (nA (bE (k:=6) (n:=1) (j:=0) rfl rfl rfl rfl)) rfl rfl),rfl, ?_⟩;simp only[knP,map_append,map_cons,map_nil];exact KU st.ah (p++[⟨f,0⟩]) a.2 _
 have n2:(a.2 != 0)=false:=by rw[c2];rfl
 rw[if_neg (by simp[c2])];have au:(ofB s u fr.1).2=false->(ofB s u fr.1).1=sK:=λhb=>by
  unfold ofB at hb ⊢;split at hb
  ·cases hb
  ·rename_i hn;rw[if_neg hn]
 generalize ofB s u fr.1=bb at *
 obtain⟨b,bk⟩:=bb;dsimp only at hO au Di hno a1 ⊢;by_cases c3:b.how=3
 case neg=>
  have n4:(b.how != 3)=true:=by simpa using c3
  obtain⟨c4,c5,c6⟩:=hno z c2 c3;have n3:(b.how==2)=false:=by simpa using c4
  rw[if_neg c3,if_neg c4];have bd:=col row b.col om;have a6:=MI s d A b.table (bO (x::C)) (iC row b.col) c5 fr.1.t (p++[⟨f,0⟩]) st (isT fr.1.t) om c6 (t0 := .len st.F.length) (t1 := .aa (kE st.R)) (t2 := .len 0) (by have:=qN 2 4 st;unfold mvT at this;simp only[aL,Bool.and_true,Bool.and_eq_true]at this ⊢;exact⟨this.1,this.2.1,this.2.2,by rw[Tok.ab,aE,aF _ _ _ (eA _)];rfl⟩)
  have av:dD s pl b.table (bO (x::C)) (iC row b.col) fr.1.t (p++[⟨f,0⟩]) st.ah=(lL false bP,st.ah.ah):=by rw[DK,if_pos c5,if_neg (by simp[c6])]
  rw[av];have q1:=cN s d A st 3 om;have q2:aL 2 3 (mvT st++[.aa [knG 0 (isT fr.1.t)]])=true:=by rw[gZ,qN];rfl
  have q3:=cN s d A st 4 om;have q4:aL 2 4 (mvT st++[.aa [knG 0 (isT fr.1.t)]])=true:=by rw[gZ,qN];rfl
  have q6:aL 2 3 (mvT st++[.aa [(lL false bP).ak]])=true:=by rw[gZ,qN,aL,Tok.ab,aE,aF _ _ _ (eA _)];rfl
  have q7:=aD 2 3 _ (mJ fr.1.t (iC row b.col) b.table [] ⟨[],0,0⟩ (bO (x::C)) (p++[⟨f,0⟩]));have q8:aE 2 4 (AV.ptr 0 0::AV.ao 3 10 1 0 0::[fr.1.t.C,(iC row b.col).C,jM .nilp b.table [] ⟨[],0,0⟩ (bO (x::C)) (p++[⟨f,0⟩])])=true:=by have:=aD 2 4 _ (mJ fr.1.t (iC row b.col) b.table [] ⟨[],0,0⟩ (bO (x::C)) (p++[⟨f,0⟩]));rw[aE,aE,this];rfl
  repeat' first|refine .br ?_|refine bJ (d:=13) rfl rfl rfl rfl rfl ?_|refine b8 13 rfl (bE rfl rfl rfl rfl) ?_|refine .s1 ?_|(refine .q ?_ ?_<;>intro O)|refine dR rfl a3 (aB _) ?_|refine b7 rfl ?_|refine fT rfl ?_|refine iI (B0:=evB s d A st) (B1:=evB s d A st) (T0:=mvT st) (T1:=mvT st) (B:=[]) (T:=[_,_,_,_]) rfl g rfl (.inl rfl) (.inr rfl) (le_refl _) (le_refl _) b3 t3 b3 t3 a2 w (aB _) ?_|refine tO (B0:=evB s d A st) (B1:=evB s d A st) (T0:=mvT st) (T1:=mvT st) (x0 := .aa [knG 0 (isT fr.1.t)]) (x1 := .aa [(lL false bP).ak]) (M:=[_,_,_]) (M2:=[_]) (pre:=[.ptr 0 0]) (o:=[_,_,_]) rfl a6 rfl rfl rfl q1 q2 q3 q4 q1 q6 rfl q7 q8 rfl (aB _) ?_|refine bC (agg:=true) rfl rfl rfl rfl rfl rfl rfl rfl rfl rfl rfl ?_|fail
  refine⟨_,_,rfl,cV (k:=3) (i:=0) (c:=9) rfl rfl rfl (nA (bE (k:=6) (n:=1) (j:=0) rfl rfl rfl rfl)) rfl rfl,rfl, ?_⟩;simp only[knP,map_append,map_cons,map_nil];rfl
 have n3:(b.how==2)=false:=by rw[c3];rfl
 have n4:(b.how != 3)=false:=by rw[c3];rfl
 rw[if_pos c3,if_pos rfl];have a1:=a1 z c2 c3;have Di:=Di z c2 c3;have bo:=aDj s fr.1 b a.1 om;have ad:=BF.K (o9 fr.1 b a.1);have ah:=doR (kE st.R) st.L (o9 fr.1 b a.1) st.R.length (mU _) hR (fW _) a1;have zz:st.ah.L=st.L:=rfl;rw[zz];generalize o9 fr.1 b a.1=cm at *
 generalize f8 st.L cm=r at *
 have ac:aA (kE st.R++[.slice [] .nil])=true:=by rw[xA,fW];rfl
 have aj:AA [.ptr 1 0,cm.C] (aX (emb 4 [1]) (emb 8 [1]) [.ptr 0 0,cm.C]):=by rw[aX,aX,aX,cX _ _ _ ad,AV.af];exact aB _
 have ai:(AV.tup [r.2.1.C, .int .i64 r.2.2]).af (emb 4 [1]) (emb 8 [1]) = .tup [r.2.1.C, .int .i64 r.2.2]:=cX _ _ _ W3;have ag:aE 1 1 [.ptr 0 0,cm.C]=true:=by rw[aE,aE,aF _ _ _ ad];rfl
 have ae:aQ 1 1 [.cells [Tbls.C st.L, .aa 0 1 st.R.length 0 st.R.length]]=true:=Zz
 have af:aL 1 1 [.aa (kE st.R)]=true:=by rw[aL,Tok.ab,aD _ _ _ (fW _)];rfl
 have s4:Bp 4 [1]:=⟨Wd,λi X=>Yy⟩;have s8:Bp 8 [1]:=⟨Wd,λi X=>Yy⟩;have aa:(st.R++[[]]).length=st.R.length+1:=YM
 by_cases c5:r.2.2=0
 case neg=>
  have n5:(r.2.2 != 0)=true:=by simpa using c5
  rw[if_pos c5];have a0:∀(x:List Ob) (e:Int),_:=λ(x:List Ob) (e:Int)=>J5 s d A rdV lyV (.cells (kR r.1 (st.R.length+1))::x) [.len st.F.length, .aa (kE st.R++[.slice [] .nil]), .len 0, .aa [.agg [.int .i64 2, .bool m, .int .i64 0, .int .i64 0, .str [], .slice [] .nil, .slice [] .nil, .slice (h.map AV.str++[.str f]) (.own 4 1), .slice [] .nil, .slice ((xs.map λy => .ac y.ak)++[.ao 6 10 1 0 0]) (.own 5 1)]], .len (h.length+1), .len (xs.length+1), .aa [knG 0 (isT fr.1.t)], .len 2] st.F 6 (p++[⟨f,0⟩]) e rfl rfl Wd om
  have az:=Ij st.R;have ay:(kE (st.R++[[]])).length=(kE st.R++[AV.slice [] .nil]).length:=by rw[mU,aa,length_append,mU];rfl
  repeat' first|refine .br ?_|refine bJ (d:=13) rfl rfl rfl rfl rfl ?_|refine b8 13 rfl (bE rfl rfl rfl rfl) ?_|refine .s1 ?_|(refine .q ?_ ?_<;>intro O)|refine dR rfl a3 (aB _) ?_|refine Mv rfl rfl rfl rfl ?_|refine b7 rfl ?_|refine fT rfl ?_|refine iI (B0:=evB s d A st) (B1:=evB s d A st) (T0:=mvT st) (T1:=mvT st) (B:=[]) (T:=[_,_,_,_]) rfl g rfl (.inl rfl) (.inr rfl) (le_refl _) (le_refl _) b3 t3 b3 t3 a2 w (aB _) ?_|refine Hl (nB:=4) (nT:=8) [1] [1] rfl rfl ah rfl rfl s4 s8 rfl rfl (RE rfl rfl) (RF rfl (fW _)) ae af ag aj ai (Vn _ _ _ _ _ rfl) (Vo _ _ _ _ ac) ?_|refine dR rfl (a0 _ _) (aB _) ?_|refine bC (agg:=true) rfl rfl rfl rfl rfl rfl rfl rfl rfl rfl rfl ?_|fail
  refine⟨_,_,rfl,AK.trans (DM (k:=1) rfl az ay rfl) (AK.trans (eJ (k:=6) rfl (iN 3 (isT fr.1.t) _ _ _ _) rfl) (cV (k:=3) (i:=0) (c:=9) rfl rfl rfl (nA (bE (k:=6) (n:=1) (j:=0) rfl rfl rfl rfl)) rfl rfl)), ?_, ?_⟩
  ·show [Ob.cells (rE s d A rdV lyV (st.F++[⟨p++[⟨f,0⟩],r.2.2⟩])), .cells (kR r.1 (st.R.length+1))]=[Ob.cells (rE s d A rdV lyV (st.F++[⟨p++[⟨f,0⟩],r.2.2⟩])), .cells (kR r.1 (st.R++[[]]).length)];rw[aa]
  ·simp only[knP,map_append,map_cons,map_nil];exact KU (zJ st r.1) (p++[⟨f,0⟩]) r.2.2 _
 have n5:(r.2.2 != 0)=false:=by rw[c5];rfl
 rw[if_neg (by simp[c5])];have a6:=Di c5;unfold Bo at a6;have eS:(⟨r.1,st.ah.F,st.ah.R++[[]],st.ah.c⟩:AS)=zJ st r.1:=rfl;rw[eS];have q1:=cN s d A (zJ st r.1) 4 om;have q2:=pZ 2 4 om (zJ st r.1) (knG 0 (isT fr.1.t)) rfl;have q7:=mJ fr.1.t r.2.1 b.table [] ⟨[],0,0⟩ (bO (x::C)) (p++[⟨f,0⟩]);have q8:aE 2 4 (AV.ptr 0 0::AV.ao 3 10 1 0 0::[fr.1.t.C,r.2.1.C,jM .nilp b.table [] ⟨[],0,0⟩ (bO (x::C)) (p++[⟨f,0⟩])])=true:=by have:=aD 2 4 _ q7;rw[aE,aE,this];rfl
 have hw:AA (AV.ptr 0 0::AV.ao 6 10 1 0 0::[fr.1.t.C,r.2.1.C,jM .nilp b.table [] ⟨[],0,0⟩ (bO (x::C)) (p++[⟨f,0⟩])]) (aX (emb 4 [0,1]) (emb 9 [0,1,8,6]) (AV.ptr 0 0::AV.ao 3 10 1 0 0::[fr.1.t.C,r.2.1.C,jM .nilp b.table [] ⟨[],0,0⟩ (bO (x::C)) (p++[⟨f,0⟩])])):=by rw[aX,aX,aU _ _ _ q7,AV.af,AV.af];exact aB _
 have aq:∀(a:Ob) (q:List Ob),(a :: .cells (kR r.1 (st.R.length+1))::q)[1]? =some (Ob.cells (kR (zJ st r.1).L (zJ st r.1).R.length)):=λa q=>by show some (Ob.cells (kR r.1 (st.R.length+1)))=some (.cells (kR r.1 (st.R++[[]]).length));rw[aa]
 have hz:(eD (zJ st r.1).R).length=0:=by show (eD (st.R++[[]])).length=0;rw[tW];rfl
 generalize dD s pl b.table (bO (x::C)) r.2.1 fr.1.t (p++[⟨f,0⟩]) (zJ st r.1)=r2 at *
 have b2:Bp 4 [0,1]:=⟨Wd,λi X=>Yy⟩;have b4:Bp 9 [0,1,8,6]:=⟨Wd,λi X=>Yy⟩;have ar:(kE r2.2.R).length=(rdJ 8 r2.2.R).length:=by rw[Jx,mU]
 repeat' first|refine .br ?_|refine bJ (d:=13) rfl rfl rfl rfl rfl ?_|refine b8 13 rfl (bE rfl rfl rfl rfl) ?_|refine b8 0 rfl (RD (R:=st.R) (J:=8) rfl rfl rfl) ?_|refine .s1 ?_|(refine .q ?_ ?_<;>intro O)|refine dR rfl a3 (aB _) ?_|refine Mv rfl rfl rfl rfl ?_|refine b7 rfl ?_|refine fT rfl ?_|refine iI (B0:=evB s d A st) (B1:=evB s d A st) (T0:=mvT st) (T1:=mvT st) (B:=[]) (T:=[_,_,_,_]) rfl g rfl (.inl rfl) (.inr rfl) (le_refl _) (le_refl _) b3 t3 b3 t3 a2 w (aB _) ?_|refine Hl (nB:=4) (nT:=8) [1] [1] rfl rfl ah rfl rfl s4 s8 rfl rfl (RE rfl rfl) (RF rfl (fW _)) ae af ag aj ai (Vn _ _ _ _ _ rfl) (Vo _ _ _ _ ac) ?_|refine lS (nB:=4) (nT:=9) (v := .tup []) [0,1] [0,1,8,6] rfl a6 rfl rfl b2 b4 rfl rfl (aAD s d A (zJ st r.1) rfl (aq _ _) rfl rfl rfl rfl) (aAE (zJ st r.1) (knG 0 (isT fr.1.t)) rfl hz rfl rfl rfl rfl rfl) q1 q2 q8 hw rfl (aCZ s d A r2.2 _ _ _ rfl rfl rfl rfl) (aC0 r2.2 _ (eA _) _ _ _ _ _ _ _ _ _ rfl) ?_|refine bC (agg:=true) rfl rfl rfl rfl rfl rfl rfl rfl rfl rfl rfl ?_|fail
 refine⟨_,_,rfl,AK.trans (DM (k:=1) rfl (Gi 8 r2.2.R) ar rfl) (cV (k:=3) (i:=0) (c:=9) rfl rfl rfl (nA (bE (k:=6) (n:=1) (j:=0) rfl rfl rfl rfl)) rfl rfl),rfl, ?_⟩;simp only[knP,map_append,map_cons,map_nil];rfl
structure CB(W:Nat->List AY->Prop)(st:AS):Prop where
 F:st.F.length<=st.c
 R:st.R.length<=st.c
 W:W st.c st.L
def Bk(s:AJ)(u:AG):Prop:=∀name,name≠aY->(ofB s u (aK s u name).1).1.how≠3->(aK s u name).1=uZ
def EL{s:AJ}{u:AG}(h:Bk s u){name:AG}(a:name≠aY)(b:(ofB s u (aK s u name).1).1.how≠3):(ofB s u (aK s u name).1).1.how≠2/\(iC cJ (ofB s u (aK s u name).1).1.col).kind=0/\isT (aK s u name).1.t=false:=by
 rw[h name a b];unfold ofB;split
 ·decide
 ·decide
def xY(s:AJ)(d:AR)(A:List AF)(pl:Pl)(hpl:Bl pl)(a:Bool)(u:AG)(row:Row)(g:AT)(p:Ab)(st:AS):st.c+1<=(b6 s d A pl a u row g p st).2.c:=by have h:=Gr s d A pl hpl a u row g p st;omega
def Gt{α:Type}(a:α->AS->Nd×AS)(hf:∀g st,st.c+1<=(a g st).2.c)(l:List α)(st:AS):∀j k:Nat,k+j<=l.length->(bX a (l.take k) st).2.c+j<=(bX a (l.take (k+j)) st).2.c
 |0,k,h=>le_refl _
 |j+1,k,h=>by have b:=Gt a hf l st j k om;have d:=nS a l (k+j) om st;grind
section
variable (s:AJ) (d:AR) (A:List AF) (hx:Am s d A) (pl:Pl) (hplk:Aw pl) (u:AG) (W:Nat->List AY->Prop) (hW:BI s A u W) (hno:Bk s u)
include hx hplk hW hno
theorem PK(g:AT)(c0:Nat)(hS:Ai g.O c0)(z:g.O≠[])(p:Ab)(st:AS)(h:CB W st)(O:st.c<400):CB W (b6 s d A pl true u cJ g p st).2:=by
 obtain⟨x,C,l⟩:=List.exists_cons_of_ne_nil z;have m:g.O.headD sl0=x:=by rw[l];rfl
 have o:=hS.all x (by rw[l];simp);have hF:=h.F;have hR:=h.R;have v:∀(L:List AY) (F:List A0) (R:List (List Ae)) (k c:Nat),W k L->k<=c->F.length<=c->R.length<=c->CB W ⟨L,F,R,c⟩:=λL F R k c a b f r=>⟨f,r,hW.mono _ _ _ a b⟩
 have j:∀e:Int,(st.F++[(⟨p,e⟩:A0)]).length<=st.c+1:=λe=>by rw[length_append];exact Nat.succ_le_succ hF
 have r1:(st.R++[[]]).length<=st.c+1:=by rw[length_append];exact Nat.succ_le_succ hR
 unfold b6;dsimp only;split
 ·exact v st.L st.F st.R st.c _ h.W (Nat.le_succ _) om om
 rename_i c1;split
 ·exact v st.L _ st.R st.c _ h.W (Nat.le_succ _) (j _) (by show st.R.length<=st.c+1;omega)
 have i:=hW.b7 st.c st.L g h.W (by unfold hdS;rw[m];exact o.1) (by unfold hdS;rw[m];exact o.2);by_cases q:(ofB s u (aK s u (g.O.headD sl0).name).1).1.how=3
 ·rw[if_pos q,if_pos rfl];have i:=i q O;have eL:st.ah.L=st.L:=rfl;rw[eL];have y:=LC st.L (o9 (aK s u (g.O.headD sl0).name).1 (ofB s u (aK s u (g.O.headD sl0).name).1).1 (dU s (aK s u (g.O.headD sl0).name).1.params (g.O.headD sl0).args A).1);generalize f8 st.L (o9 (aK s u (g.O.headD sl0).name).1 (ofB s u (aK s u (g.O.headD sl0).name).1).1 (dU s (aK s u (g.O.headD sl0).name).1.params (g.O.headD sl0).args A).1)=r at *;by_cases w:r.2.2≠0
  ·rw[if_pos w];refine v r.1 _ _ st.c _ (by rw[y w];exact h.W) (Nat.le_succ _) (j _) r1
  ·rw[if_neg w];have n:At ⟨r.1,st.ah.F,st.ah.R++[[]],st.ah.c⟩:=⟨by show st.F.length<=st.c+1;omega,Wb,Yw,by show (st.R++[[]]).length<=_;omega,hW.bz _ _ i⟩;have k:=nY s pl hplk (ofB s u (aK s u (g.O.headD sl0).name).1).1.table (bO g.O) r.2.1 (aK s u (g.O.headD sl0).name).1.t p _ n;have kc:=Jr s pl hplk (ofB s u (aK s u (g.O.headD sl0).name).1).1.table (bO g.O) r.2.1 (aK s u (g.O.headD sl0).name).1.t p _ n;have a0:st.c+2<=(dD s pl (ofB s u (aK s u (g.O.headD sl0).name).1).1.table (bO g.O) r.2.1 (aK s u (g.O.headD sl0).name).1.t p ⟨r.1,st.ah.F,st.ah.R++[[]],st.ah.c⟩).2.c:=kc;refine⟨k.ok.F, ?_, ?_⟩
   ·rw[k.R];show (st.R++[[]]).length<=_;omega
   ·rw[k.L];exact hW.mono _ _ _ i a0
 ·rw[if_neg q];obtain⟨n2,nk,nt⟩:=EL hno c1 q;rw[if_neg n2,DK,if_pos nk,if_neg (by rw[nt];decide)];exact v st.L st.F st.R st.c _ h.W (by show st.c<=st.c+1+1;omega) (by show st.F.length<=st.c+1+1;omega) (by show st.R.length<=st.c+1+1;omega)
end
def fmT(s:AJ)(d:AR)(A:List AF)(n:Nat)(u:AG)(g:AT)(st:AS):Nd×AS:=b6 s d A (bV s d A n false) true u cJ g ([]++[⟨g.key,0⟩]) st
def Gu(s:AJ)(d:AR)(A:List AF)(hx:Am s d A)(n:Nat)(u:AG)(W:Nat->List AY->Prop)(hW:BI s A u W)(hno:Bk s u)(b:Nat)(a:List AT)(j:∀g∈a,g.O≠[]/\Ai g.O b)(st:AS)(h:CB W st)(O:(bX (fmT s d A n u) a st).2.c<=400):∀k,k<=a.length->CB W (bX (fmT s d A n u) (a.take k) st).2/\st.c+k<=(bX (fmT s d A n u) (a.take k) st).2.c/\(bX (fmT s d A n u) (a.take k) st).2.c+(a.length-k)<=400
 |0,_=>by have:=Gt (fmT s d A n u) (λg st=>xY s d A _ (l5 s d A n) true u cJ g _ st) a st a.length 0 om;rw[Nat.zero_add,take_length]at this;exact⟨h,le_refl _,om⟩
 |k+1,hk=>by obtain⟨m,p,q⟩:=Gu s d A hx n u W hW hno b a j st h O k om;have l:=Gt (fmT s d A n u) (λg st=>xY s d A _ (l5 s d A n) true u cJ g _ st) a st (a.length-(k+1)) (k+1) om;rw[show k+1+(a.length-(k+1))=a.length by omega,take_length]at l;have ht:=nS (fmT s d A n u) a k om st;have o:=xY s d A _ (l5 s d A n) true u cJ a[k] ([]++[⟨a[k].key,0⟩]) (bX (fmT s d A n u) (a.take k) st).2;obtain⟨e,i⟩:=j a[k] (getElem_mem om);have f:=PK s d A hx _ (nZ s d A n) u W hW hno a[k] b i e ([]++[⟨a[k].key,0⟩]) _ m om;rw[ht]at l ⊢;exact⟨f,by show _<=(b6 s d A _ true u cJ a[k] _ _).2.c;omega,om⟩
def TZ(s:AJ)(d:AR)(A:List AF)(hx:Am s d A)(n:Nat)(u:AG)(W:Nat->List AY->Prop)(hW:BI s A u W)(hno:Bk s u)(g:AT)(x:Sl)(C:List Sl)(w:g.O=x::C)(hS:Ai g.O 1)(f:List Sl)(st:AS)(h:CB W st)(a7:1<=st.c)(O:(fmT s d A n u g st).2.c<=400)(m:Bool)(k:List AG)(xs:List Nd)(z:k.length<=1048576)(a2:xs.length<=1048576):
  AI prog 26 [.ptr 0 0,plE (.ao 3 10 1 0 0) u cJ f [],g.C,doV] ⟨evB s d A st,mvT st++[.aa [knP m k (xs.map λy => .ac y.ak)], .len k.length, .len xs.length]⟩
   (λe Y=>e = .ret (.tup [])/\Y=⟨evB s d A (fmT s d A n u g st).2,mvT (fmT s d A n u g st).2++[.aa [knP m (k++[g.key]) ((xs++[(fmT s d A n u g st).1]).map λy => .ac y.ak)], .len (k.length+1), .len (xs.length+1)]⟩):=by
 obtain⟨a,sl⟩:=g;subst w;have aa:=xY s d A _ (l5 s d A n) true u cJ ⟨a,x::C⟩ ([]++[⟨a,0⟩]) st;have i:st.c<400:=by have e:(fmT s d A n u ⟨a,x::C⟩ st).2.c=(b6 s d A (bV s d A n false) true u cJ ⟨a,x::C⟩ ([]++[⟨a,0⟩]) st).2.c:=rfl;omega
 have b:=hS.all x Wb;have hF:=h.F;have hR:=h.R;have l:=hW.b7 st.c st.L ⟨a,x::C⟩ h.W b.1 b.2;have o:=hW.fits st.c st.L ⟨a,x::C⟩ h.W b.1 b.2;have ac:=hx.hs;obtain⟨f1,f2⟩:=jT hx.so u x.name;have a9:(aK s u x.name).1.size=(aK s u x.name).1.name.length+aC AP.size (aK s u x.name).1.params+(aK s u x.name).1.t.size+aC AO.size (aK s u x.name).1.ar+4:=rfl;have a8:(aK s u x.name).1.t.name.length<=(aK s u x.name).1.t.size:=X7
 obtain⟨a6,r⟩:=Cq hx u x b.1 b.2;have a1:aC Sl.size (x::C)<=68719476736:=Nat.le_trans hS.sz Wd;refine TY s d A hx (bV s d A n false) u cJ Wd a x C f [] st m k xs om om b a1 Wd z a2 (λp q j=>EL hno p j) (λp q j=> ?_) (λp q j c4=> ?_)
 ·obtain⟨B,b1,b2⟩:=o j i;exact aCY st.L (wE s A u x) b1 b2
 ·have hT:=hW.bz _ _ (l j i);have hv:=(Fa (L:=st.L) (c:=wE s A u x) (B:=1048576) ⟨(hW.bz _ _ h.W).a8,(hW.bz _ _ h.W).bl⟩ (λm hm=>(r m hm).2)).1;have a0:At (zJ st (f8 st.L (wE s A u x)).1):=⟨by show st.F.length<=st.c+1;omega,by show st.R++[[]]≠[];simp,Yw,by show (st.R++[[]]).length<=_;rw[length_append];simp only[List.length_cons,List.length_nil];omega,hT⟩;have v:(dD s (bV s d A n false) (E5 s u x).table (bO (x::C)) (f8 st.L (wE s A u x)).2.1 (aK s u x.name).1.t ([]++[⟨a,0⟩]) (zJ st (f8 st.L (wE s A u x)).1)).2.c<=4096:=by refine Nat.le_trans ?_ (Nat.le_trans O Wd);unfold fmT b6;dsimp only[List.headD];rw[if_neg p,if_neg (λh=>h q),if_pos j,if_pos rfl,if_neg (λh=>h c4)];exact le_refl _
  exact Mx s d A hx (bV s d A n false) (nZ s d A n) (Ju s d A hx n) (E5 s u x).table (bO (x::C)) _ (f8 st.L (wE s A u x)).2.1 (le_refl _) (aK s u x.name).1.t ([]++[⟨a,0⟩]) (zJ st (f8 st.L (wE s A u x)).1) (isT (aK s u x.name).1.t) om a0 ((tP hS).mono (by show 1<=st.c+1;omega)) (by show 1<=st.c+1;omega) (by show st.c+1<=4096;omega) (.inr hv) v
end Go.Proofs.YtimbiifcnhgcoaaGreatDoor
namespace Go.Av
open Go
variable [AL] {P:Program} [Lay P] {N:Nat} {D:List Deferred} {c:Code} {K:AX->AE->St->Prop} {s:AE} {H:St} {α β:Type}
structure Nx(S:Nat->AE)(H:St)(k:Nat)(g:Prop)(s': AE)(Y:St):Prop where
 sub:Sub (S (k+1)) s'
 ab:aM H.B.length H.T.length (S (k+1))=true
 below:(aQ H.B.length H.T.length (Y.B.take H.B.length)&&aL H.B.length H.T.length (Y.T.take H.T.length))=true
 same:(⟨Y.B.take H.B.length,Y.T.take H.T.length⟩:St)=H
 inv:g
def T3(L:List α)(E:α->AV){b:β}(G:Nat->List α->β)(S:Nat->AE)(hs:Sub (S 0) s)(h0:G 0 L=b)
  (cons:∀(k:Nat) (x:α) (r:List α),x∈L->(L.map E)[k]? =some (E x)->decide ((k:Int)<(L.length:Int))=true->k<L.length->G k (x::r)=b->AB P N D c (thn (Nx S H k (G (k+1) r=b)) K) (S k) H)
  (nil:decide ((L.length:Int)<(L.length:Int))=false->G L.length []=b->AB P N D c (thn (λ_ _=>False) K) (S L.length) H):AB P N D (.loop c) K s H:=by
 refine bK L.length S (λ_=>H) (λk=>G k (L.drop k)=b) hs rfl (by rw[List.drop_zero];exact h0) λk hk hj=> ?_
 by_cases a:k<L.length
 ·rw[drop_eq_getElem_cons a]at hj;refine(cons k L[k] (L.drop (k+1)) (getElem_mem a) Ww Ww a hj).mono λe s' Y h=> ?_
  cases e with
  |normal=>exact⟨a,h.sub,h.ab,h.below,h.same,h.inv⟩
  |exit id=>exact h
  |goto l=>exact h
  |ret=>exact h
  |pan x=>exact h
 ·obtain rfl:k=L.length:=om
  rw[List.drop_length]at hj;refine(nil Wb hj).mono λe s' Y h=> ?_
  cases e with
  |normal=>exact absurd h id
  |exit id=>exact h
  |goto l=>exact h
  |ret=>exact h
  |pan x=>exact h
def mV{t:Nat}{s:AE}{b r:Bool}(h:lk? s t=some (.bool b):=by exact rfl)(hr:b=r:=by first|rfl|simp_all[-List.all_eq_true, -List.all_eq_false]):∃a,Av.ret (gG s [t]) = .ret a/\AC a (.bool r):=aP h (AC.eq (congrArg AV.bool hr))
structure Nz(S:Nat->AE)(Z:Nat->St)(J:Nat->Prop)(H:St)(k:Nat)(s': AE)(Y:St):Prop where
 sub:Sub (S (k+1)) s'
 ab:aM H.B.length H.T.length (S (k+1))=true
 below:(aQ H.B.length H.T.length (Y.B.take H.B.length)&&aL H.B.length H.T.length (Y.T.take H.T.length))=true
 same:(⟨Y.B.take H.B.length,Y.T.take H.T.length⟩:St)=Z (k+1)
 inv:J (k+1)
def fX(L:List α)(E:α->AV)(S:Nat->AE)(Z:Nat->St)(J:Nat->Prop)(h0:J 0)
  (cons:∀(k:Nat) (h:k<L.length),decide ((k:Int)<(L.length:Int))=true->(L.map E)[k]? =some (E L[k])->J k->AB P N D c (thn (Nz S Z J H k) K) (S k) (Z k))
  (nil:decide ((L.length:Int)<(L.length:Int))=false->J L.length->AB P N D c (thn (λ_ _=>False) K) (S L.length) (Z L.length))
  (hs:Sub (S 0) s:=by (repeat' first|exact trivial|refine⟨rfl, ?_⟩)) (hz:Z 0=H:=by exact rfl):AB P N D (.loop c) K s H:=by
 refine bK L.length S Z J hs hz h0 λk hk hj=> ?_
 by_cases a:k<L.length
 ·refine(cons k a Ww Ww hj).mono λe s' Y h=> ?_
  cases e with
  |normal=>exact⟨a,h.sub,h.ab,h.below,h.same,h.inv⟩
  |exit id=>exact h
  |goto l=>exact h
  |ret=>exact h
  |pan x=>exact h
 ·obtain rfl:k=L.length:=om
  refine(nil Wb hj).mono λe s' Y h=> ?_
  cases e with
  |normal=>exact absurd h id
  |exit id=>exact h
  |goto l=>exact h
  |ret=>exact h
  |pan x=>exact h
def mW(L:List α)(E:α->AV)(p:α->Bool)(S:Nat->AE)
  (cons:∀(k:Nat) (h:k<L.length),decide ((k:Int)<(L.length:Int))=true->(L.map E)[k]? =some (E L[k])->L[k]∈L->(p L[k]=false->L.all p=false)->AB P N D c (thn (Nx S H k (p L[k]=true)) K) (S k) H)
  (nil:decide ((L.length:Int)<(L.length:Int))=false->L.all p=true->AB P N D c (thn (λ_ _=>False) K) (S L.length) H)
  (hs:Sub (S 0) s:=by (repeat' first|exact trivial|refine⟨rfl, ?_⟩)):AB P N D (.loop c) K s H:=by
 refine bK L.length S (λ_=>H) (λk=>(L.take k).all p=true) hs rfl Wb λk hk hj=> ?_
 by_cases a:k<L.length
 ·refine(cons k a Ww Ww (getElem_mem a) λh=>List.all_eq_false.2 ⟨_,getElem_mem a,YW⟩).mono λe s' Y h=> ?_
  cases e with
  |normal=>exact⟨a,h.sub,h.ab,h.below,h.same,by rw[List.take_succ_eq_append_getElem a,List.all_append,hj,List.all_cons,h.inv];rfl⟩
  |exit id=>exact h
  |goto l=>exact h
  |ret=>exact h
  |pan x=>exact h
 ·obtain rfl:k=L.length:=om
  rw[take_length]at hj;refine(nil Wb hj).mono λe s' Y h=> ?_
  cases e with
  |normal=>exact absurd h id
  |exit id=>exact h
  |goto l=>exact h
  |ret=>exact h
  |pan x=>exact h
end Go.Av
namespace Go.Proofs.YtimbiifcnhgcoaaGreatDoor
open Go Go.Av Go.Proofs.Tryz
variable [AL] {P:Program} [Lay P] {N:Nat} {s:AE} {H:St}
def pEn{f:FuncId}{fn:Func}{args:List AV}{r:AV}{c:Code}(t:Nat)(hf:P.funcs[f]? =some fn)(h:AB P N [] c (fin [t] (λe _=>∃v,e = .ret v/\AC v r)) (cD 0 args) ⟨[],[]⟩)
  (hb:fn.body=some c:=by exact rfl) (g:fn.ntmps=N:=by exact rfl) (b:(fn.name == "runtime.NumGoroutine")=false:=by exact rfl) (a:Nat.ble args.length N=true:=by exact rfl) (d:fn.results=([t].map ResultVar.tmp).toArray:=by exact rfl)
  (O:r.K=true:=by (first|exact rfl|simp[-List.map_map,AV.K,aA,aT,bZ,aR,b9,jS,iS,aZ,eU,AH.K,Ag.K,Af.K,AJ.K,AR.K,Ac.K]))
  (ha:aA args=true:=by (first|exact rfl|simp[-List.map_map,AV.K,aA,aT,bZ,aR,b9,jS,iS,aZ,eU,AH.K,Ag.K,Af.K,AJ.K,AR.K,Ac.K,Au.K,Sl.K,AP.K,AO.K,Ak.K])):AN P f args r:=
 AI.plain O ha (AI.enter [t] hf hb g b a d Wb h)
def nx{g:Prop}(a:g:=by simp_all[-List.all_eq_true, -List.all_eq_false])(hs:Av.Sub (S (k+1)) s':= by (repeat' first|exact trivial|refine⟨rfl, ?_⟩))
  (hb:aM H.B.length H.T.length (S (k+1))=true:=by simp[aM,AV.ab,aF,AJ.K,Ah.K,Ag.K,AP.K,AR.K,Ac.K,Ak.K,Af.K,Sl.K,Au.K,AO.K,aD,aT,aR,bZ,b9,eU])
  (h3:(aQ H.B.length H.T.length (Y.B.take H.B.length)&&aL H.B.length H.T.length (Y.T.take H.T.length))=true:=by exact rfl) (h4:(⟨Y.B.take H.B.length,Y.T.take H.T.length⟩:St)=H:=by exact rfl):Nx S H k g s' Y:=⟨hs,hb,h3,h4,a⟩
theorem nz{Z:Nat->St}{J:Nat->Prop}(a:J (k+1):=by simp_all[-List.all_eq_true, -List.all_eq_false])(hs:Av.Sub (S (k+1)) s':= by (repeat' first|exact trivial|refine⟨rfl, ?_⟩))
  (hb:aM H.B.length H.T.length (S (k+1))=true:=by simp[-List.map_take, -List.map_map,aM,AV.ab,aF,AJ.K,Ah.K,Ag.K,AP.K,AR.K,Ac.K,Ak.K,Af.K,Sl.K,Au.K,AO.K,aD,aT,aR,bZ,b9,eU])
  (h3:(aQ H.B.length H.T.length (Y.B.take H.B.length)&&aL H.B.length H.T.length (Y.T.take H.T.length))=true:=by first|exact rfl|simp[aQ,aL,Ob.ab,Tok.ab,aE,AV.ab]) (h4:(⟨Y.B.take H.B.length,Y.T.take H.T.length⟩:St)=Z (k+1):=by exact rfl):Nz S Z J H k s' Y:=⟨hs,hb,h3,h4,a⟩
end Go.Proofs.YtimbiifcnhgcoaaGreatDoor
namespace Go.Av
open Go
variable [AL] {P:Program} [Lay P] {N:Nat} {D:List Deferred} {c:Code} {K:AX->AE->St->Prop} {s:AE} {H:St} {α β:Type}
def Od(L:List α)(n:Nat)(hn:n<=L.length)(E:α->AV)(p:α->Bool)(S:Nat->AE)
  (cons:∀(k:Nat) (h:k<L.length),k<n->decide ((k:Int)<(n:Int))=true->(L.map E)[k]? =some (E L[k])->L[k]∈L->(p L[k]=false->(L.take n).all p=false)->AB P N D c (thn (Nx S H k (p L[k]=true)) K) (S k) H)
  (nil:decide ((n:Int)<(n:Int))=false->(L.take n).all p=true->AB P N D c (thn (λ_ _=>False) K) (S n) H)
  (hs:Sub (S 0) s:=by (repeat' first|exact trivial|refine⟨rfl, ?_⟩)):AB P N D (.loop c) K s H:=by
 have e:(L.take n).length=n:=Wl
 have ge:∀k (h:k<n),(L.take n)[k]'om=L[k]'om:=λk h=>Wb
 refine mW (L.take n) E p S (λk h a hx b hp=> ?_) (λa hp=> ?_) hs
 ·have hk:k<n:=om
  rw[ge k hk]at hp ⊢;exact cons k om hk X2 (by simp[show k<L.length by omega]) (getElem_mem _) hp
 ·rw[e]at a ⊢;exact nil a hp
structure Ny{γ:Type}(F:γ->AV)(z:Nat)(T0:List Tok)(M:Nat->List γ)(o:Nat)(S:Nat->AE)(k:Nat)(s': AE)(Y:St):Prop where
 out:lk s' o = .slice ((M (k+1)).map F) (.own T0.length z)
 sub:Sub (S (k+1)) s'
 ab:aM 0 (T0.length+1) (S (k+1))=true
 same:(⟨Y.B.take 0,Y.T.take (T0.length+1)⟩:St)=⟨[],T0++[.len (M (k+1)).length]⟩
theorem EM(m:Nat):∀T0:List Tok,aL 0 m T0=true->∀n:Nat,aL 0 m (T0++[.len n])=true
 |[],_,_=>rfl
 |t::T,h,n=>by rw[aL,Bool.and_eq_true]at h;rw[cons_append,aL,h.1,EM m T h.2];rfl
def Gv(L:List α)(E:α->AV)(F:γ->AV)(z:Nat)(T0:List Tok)(M:Nat->List γ)(o:Nat)(S:Nat->AE)
  (cons:∀(k:Nat) (h:k<L.length),decide ((k:Int)<(L.length:Int))=true->(L.map E)[k]? =some (E L[k])->L[k]∈L->AB P N D c (thn (Ny F z T0 M o S k) K) ((o, .slice ((M k).map F) (.own T0.length z))::S k) ⟨[],T0++[.len (M k).length]⟩)
  (nil:decide ((L.length:Int)<(L.length:Int))=false->AB P N D c (thn (λ_ _=>False) K) ((o, .slice ((M L.length).map F) (.own T0.length z))::S L.length) ⟨[],T0++[.len (M L.length).length]⟩)
  (O:∀l:List γ,aA (l.map F)=true) (g:lk s o = .slice ((M 0).map F) (.own T0.length z)) (hs:Sub (S 0) s:=by (repeat' first|exact trivial|refine⟨rfl, ?_⟩)) (hσ:H=⟨[],T0++[.len (M 0).length]⟩:=by exact rfl) (hT:aL 0 (T0.length+1) T0=true:=by exact rfl):AB P N D (.loop c) K s H:=by
 refine fX L E (λk=>(o, .slice ((M k).map F) (.own T0.length z))::S k) (λk=>⟨[],T0++[.len (M k).length]⟩) (λ_=>True) trivial (λk h f hx _=> ?_) (λf _=>nil f) ⟨g,hs⟩ hσ.symm;refine(cons k h f hx (getElem_mem h)).mono λe s' Y h=> ?_
 cases e with
 |normal=>
  have q:(AV.slice ((M (k+1)).map F) (.own T0.length z)).ab 0 (T0.length+1)=true:=by rw[AV.ab,aD _ _ _ (O _)];simp
  have i:=EM (T0.length+1) T0 hT;have a:=h.same;simp only[St.mk.injEq]at a;have d:H.T.length=T0.length+1:=by rw[hσ];simp
  have b:H.B.length=0:=by rw[hσ];rfl
  refine⟨⟨h.out,h.sub⟩, ?_, ?_, ?_,trivial⟩
  ·rw[d,b];show (AV.ab 0 _ _&&aM 0 _ _)=true;rw[q,h.ab];rfl
  ·rw[d,b,a.2,a.1,i];rfl
  ·rw[d,b,a.2,a.1]
 |exit id=>exact h
 |goto l=>exact h
 |ret=>exact h
 |pan x=>exact h
def KV(L:List α)(E:α->AV)(F:γ->AV)(z:Nat)(M:Nat->List γ)(o:Nat)(S:Nat->AE)(a:M 0=[])
  (cons:∀(k:Nat) (h:k<L.length),decide ((k:Int)<(L.length:Int))=true->(L.map E)[k]? =some (E L[k])->L[k]∈L->AB P N D c (thn (Ny F z [] M o S k) K) ((o, .slice ((M k).map F) (.own 0 z))::S k) ⟨[],[.len (M k).length]⟩)
  (nil:decide ((L.length:Int)<(L.length:Int))=false->AB P N D c (thn (λ_ _=>False) K) ((o, .slice ((M L.length).map F) (.own 0 z))::S L.length) ⟨[],[.len (M L.length).length]⟩)
  (O:∀l:List γ,aA (l.map F)=true) (b:lk? s o=some (.slice [] .nil):=by exact rfl) (hs:Sub (S 0) ((o, .slice [] (.own 0 z))::s):=by (repeat' first|exact trivial|refine⟨rfl, ?_⟩)):AB P N D (.loop c) K s ⟨[],[]⟩:=by refine eX o false z b rfl rfl rfl rfl rfl ?_;refine Gv L E F z [] M o S cons nil O ?_ hs WQ;rw[a];simp[lk]
def qA{t:Nat}{s:AE}{v r:AV}(h:lk? s t=some v:=by exact rfl)(hr:v=r:=by first|rfl|simp_all):∃a,Av.ret (gG s [t]) = .ret a/\AC a r:=aP h (AC.eq hr)
def Fin.rg{t k z:Nat}{s:AE}{r:AV}(h:lk? s t=some (.slice xs (.own k z)):=by exact rfl)(hr:AV.slice xs .no=r:=by first|rfl|simp_all):∃a,Av.ret (gG s [t]) = .ret a/\AC a r:=aP h (hr▸AC.no (aB _))
end Go.Av
namespace Go.Proofs.YtimbiifcnhgcoaaGreatDoor
open Go Go.Av Go.Proofs.Tryz
variable [AL] {P:Program} [Lay P] {N:Nat} {s:AE} {H:St}
theorem ny{F:γ->AV}{z:Nat}{T0:List Tok}{M:Nat->List γ}{o:Nat}{k:Nat}(ys:List γ)(a:M (k+1)=ys)(h0:lk s' o = .slice (ys.map F) (.own T0.length z):=by first|exact rfl|(rw[List.map_append];exact rfl))
  (hs:Sub (S (k+1)) s':= by (repeat' first|exact trivial|refine⟨rfl, ?_⟩)) (hb:aM 0 (T0.length+1) (S (k+1))=true:=by first|exact rfl|simp[aM,AV.ab,aF,aD,aT,AJ.K,AR.K,aZ,bZ,aR,b9,eU])
  (h4:(⟨Y.B.take 0,Y.T.take (T0.length+1)⟩:St)=⟨[],T0++[.len ys.length]⟩:=by first|exact rfl|(rw[List.length_append];exact rfl)):Ny F z T0 M o S k s' Y:=by subst a;exact⟨h0,hs,hb,h4⟩
end Go.Proofs.YtimbiifcnhgcoaaGreatDoor
namespace Go.Av
open Go Go.Proofs.YtimbiifcnhgcoaaGreatDoor
variable [AL] {P:Program} [Lay P] {N:Nat} {s:AE} {H:St}
def AB.wc{D:List Deferred}{c:Code}{K:AX->AE->St->Prop}(h:AB P N D c K s H:=by ((repeat' first|refine .br ?_|refine .s1 ?_|(refine .q ?_ ?_<;>intro O)|fail);all_goals first|exact mV|exact nx|exact qA|exact nx (h3:=by simp[aQ,aL,Ob.ab,aE,AV.ab,aD,bZ,b9,aZ])|fail)):AB P N D c K s H:=h
end Go.Av
namespace Go.Proofs.YtimbiifcnhgcoaaGreatDoor
open Go Go.Av Go.Proofs.Tryz
def mX(d:AR)(l:List Sl):List AG:=d.aj.foldl (λout f=>if f.name∈lZ d l/\f.name∉out then out++[f.name] else out) []
def dH(s:AJ)(u:AG)(x:Sl):AG:=if x.kind=0 then (aK s u x.name).1.t.name else if x.kind=2 then (if x.on=[] then u else x.on) else []
def jU{α:Type}(p:α->α->Bool):List α->List α->Bool
 |_,[]=>true
 |pre,x::l=>(pre.all λy=>p y x)&&jU p (pre++[x]) l
theorem KW{p:γ->γ->Bool}{l:List γ}(h:k<l.length):jU p (l.take k) (l.drop k)=(((l.take k).all λy=>p y l[k])&&jU p (l.take (k+1)) (l.drop (k+1))):=by rw[drop_eq_getElem_cons h,jU, <-List.take_succ_eq_append_getElem h]
def Ct(n:AG):Bool:=n==oH||n==fP
def Oe:AP:=⟨sIf,⟨g7,0,1⟩,false,bP⟩
def xZ(n:AG):AP×Bool:=if Ct n=true then (Oe,true) else (Iv,false)
def wF(x:AO):List AP:=if Ct x.name=true then [Oe] else []
def MJ(a b:List AF):Bool:=decide (a.length=b.length)&&a.all λx=>(bT x.name b).2&&o6 (bT x.name b).1 x.v
def MK(s:AJ)(a b:Ac):Bool:=
 if a.an≠b.an\/a.az≠b.az then false
 else if dT s a.name=true\/dT s b.name=true then a.name==b.name
 else g8 s a.name&&g8 s b.name
def cO(s:AJ)(d:AR):Nat->List Sl->AG->List Au
 |0,_,_=>[]
 |N+1,l,u=>l.flatMap λx=>if x.kind=0 then [⟨u,x⟩] else if x.kind=2 then cO s d N x.O (dH s u x)
   else if x.kind=1 then cO s d N (cM d x.name).1.O (cM d x.name).1.on else []
def oW(s:AJ)(d:AR)(N:Nat)(a b:Au):List Au:=cO s d N a.x.O (dH s a.aw a.x)++cO s d N b.x.O (dH s b.aw b.x)
def pG(s:AJ)(d:AR):Nat->Au->Au->Bool
 |0,_,_=>false
 |N+1,a,b=>if jH a.x≠jH b.x then true
   else if MK s (aK s a.aw a.x.name).1.t (aK s b.aw b.x.name).1.t=false then false
   else jU (pG s d N) [] (oW s d N a b)
def aAF(s:AJ)(n:AG):Bool:=eP s n [1]
def DO(s:AJ)(d:AR):Nat->Au->Au->Bool
 |0,_,_=>false
 |N+1,a,b=>if jH a.x≠jH b.x then true
   else if pG s d (N+1) a b=false then false
   else if a.aw≠b.aw/\aAF s a.aw=true/\aAF s b.aw=true then true
   else (a.x.name==b.x.name&&(MJ a.x.args b.x.args&&jU (DO s d N) [] (oW s d N a b)))
def kS(s:AJ)(d:AR)(N:Nat):List Sl->AG->Bool
 |l,u=>jU (DO s d N) [] (cO s d N l u)&&l.attach.all λ⟨x,_⟩ => !(decide (0<x.O.length) && !kS s d N x.O (dH s u x))
termination_by l=>aC Sl.size l
decreasing_by
 rename_i h
 have h1:=aN (size:=Sl.size) h
 have h2:=x.ay
 omega
theorem PL(s:AJ)(d:AR)(N:Nat)(l:List Sl)(u:AG):kS s d N l u=(jU (DO s d N) [] (cO s d N l u)&&l.all λx => !(decide (0<x.O.length) && !kS s d N x.O (dH s u x))):=by
 rw[kS];congr 1;conv=>rhs;rw[<-List.attach_map_subtype_val l,List.all_map]
 rfl
def JC(s:AJ)(d:AR):Bool:=(d.ops.all λo=>kS s d 64 o.O (aW s o))&&d.aj.all λf=>kS s d 64 f.O f.on
end Go.Proofs.YtimbiifcnhgcoaaGreatDoor
