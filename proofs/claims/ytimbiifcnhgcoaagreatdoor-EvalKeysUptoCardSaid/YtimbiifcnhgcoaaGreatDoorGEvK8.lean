/- Joined texts. -/
import Derived.Test.YtimbiifcnhgcoaaGreatDoorGEvK6
set_option maxRecDepth 100000
set_option maxHeartbeats 16000000
set_option linter.all false
open List (append_nil cons_append drop_zero find?_cons getElem_mem length_append length_cons length_map map_append map_cons take_length take_succ_cons)
open Nat (le_refl sub_self zero_add)
open Go Go.Av Go.Proofs.YtimbiifcnhgcoaaGreatDoor Go.Proofs.Tryz
variable{α:Type}{u:AG}{d:AR}{f:Af}{wr:Bool}{m:Gs}{A:List AF}{args:List AV}{k:Nat}{x:Sl}{H:St}{l:List α}
namespace Go.Proofs.YtimbiifcnhgcoaaGreatDoor
open Go Go.Av Go.Proofs.Tryz
attribute [local irreducible] AB AD AN AI Av.AU AZ
mutual
def szV:AH->Nat
 | .mk _ _ s l m=>1+s.length+szL l+szM m
def szL:List AH->Nat
 |[]=>0
 |v::l=>szV v+szL l
def szM:List AF->Nat
 |[]=>0
 | .mk n v::m=>n.length+szV v+szM m
end
mutual
theorem Hm:∀v:AH,szV v<=v.size
 | .mk _ _ s l m=>by have a:=S6 l;have b:=NB m;rw[szV,AH.size];omega
theorem S6:∀l:List AH,szL l<=iL l
 |[]=>by rw[szL];omega
 |v::l=>by have a:=Hm v;have b:=S6 l;rw[szL,iL];omega
theorem NB:∀m:List AF,szM m<=mR m
 |[]=>by rw[szM];omega
 | .mk n v::m=>by have a:=Hm v;have b:=NB m;rw[szM,mR];omega
end
def aBG(v:AH):szV v=1+v.s.length+szL v.l+szM v.m:=by cases v;rw[szV];rfl
def S7{l:List AH}(h:k<l.length):szL (l.take (k+1))=szL (l.take k)+szV l[k]:=by
 induction l generalizing k with
 |nil=>simp at h
 |cons x l E=>
  cases k with
  |zero=>simp[szL]
  |succ k=>simp only[take_succ_cons,szL,List.getElem_cons_succ];rw[E Wu];omega
def S8{l:List AF}(h:k<l.length):szM (l.take (k+1))=szM (l.take k)+l[k].name.length+szV l[k].v:=by
 induction l generalizing k with
 |nil=>simp at h
 |cons x l E=>
  cases k with
  |zero=>cases x;simp[szM,AF.name,AF.v]
  |succ k=>cases x;simp only[take_succ_cons,szM,List.getElem_cons_succ];rw[E Wu];omega
def S9(l:List AH)(k:Nat):szL (l.take k)<=szL l:=by
 induction l generalizing k with
 |nil=>simp
 |cons x l E=>
  cases k with
  |zero=>simp[szL]
  |succ k=>simp only[take_succ_cons,szL];have:=E k;omega
def Ta(l:List AF)(k:Nat):szM (l.take k)<=szM l:=by
 induction l generalizing k with
 |nil=>simp
 |cons x l E=>
  cases k with
  |zero=>simp[szM]
  |succ k=>cases x;simp only[take_succ_cons,szM];have:=E k;omega
def VM:∀N:Nat,N<=137438953472->∀v:AH,v.size<=N->AN prog 12 [v.C] (.int .i64 (szV v))
 |0,_,v,d=>absurd d X3
 |N+1,o,v,d=>by
  have E:=VM N om;have g:=Hm v;have c:=aBG v;have h:=v.bt;have n:=v.b3;refine AI.plain rfl Wz (aS [2] func12 ?_);refine .ae ?_;refine bK v.l.length (λk=>[(4, .int .i64 k),(3, .int .i64 ((1:Int)+v.s.length+szL (v.l.take k))),(1, .ac v.C)]) (λ_=>⟨[],[]⟩) (λ_=>True) ⟨rfl,congrArg (AV.int .i64) (by simp[szL]),rfl,trivial⟩ rfl trivial λk hk _=> ?_
  by_cases a:k<v.l.length
  ·have e:decide ((k:Int)<(v.lv.length:Int))=true:=by rw[v.bb];simp[a]
   have x1:=lD a;have O:=E v.l[k] (by have:=dK a;omega);have ht:=S7 a;have i:=S9 v.l (k+1);refine .go ?_;exact⟨a,⟨rfl,congrArg (AV.int .i64) WE,rfl,trivial⟩,Wj,rfl,rfl,trivial⟩
  ·have e:decide ((k:Int)<(v.lv.length:Int))=false:=by rw[v.bb];simp;omega
   obtain rfl:k=v.l.length:=om
   refine .go ?_;refine bK v.m.length (λk=>[(5, .int .i64 k),(3, .int .i64 ((1:Int)+v.s.length+szL v.l+szM (v.m.take k))),(1, .ac v.C)]) (λ_=>⟨[],[]⟩) (λ_=>True) ⟨rfl,congrArg (AV.int .i64) (by simp[szM]),rfl,trivial⟩ rfl trivial λj hj _=> ?_
   by_cases b:j<v.m.length
   ·have f:decide ((j:Int)<(v.mv.length:Int))=true:=by rw[v.bn];simp[b]
    have p:=rX b;have O:=E v.m[j].v (by have:=dQ b;omega);have ht:=S8 b;have i:=Ta v.m (j+1);refine .go ?_;exact⟨b,⟨rfl,congrArg (AV.int .i64) WE,rfl,trivial⟩,Wj,rfl,rfl,trivial⟩
   ·have f:decide ((j:Int)<(v.mv.length:Int))=false:=by rw[v.bn];simp;omega
    obtain rfl:j=v.m.length:=om
    refine .go ?_;refine aP rfl (AC.eq (congrArg (AV.int .i64) ?_));rw[take_length,c];omega
def Cb(v:AH)(h:v.size<=137438953472):AN prog 12 [v.C] (.int .i64 (szV v)):=VM _ h v (le_refl _)
def mC(l:List AG):Nat:=aC (λs:AG=>1+s.length) l
def mD(l:List AP):Nat:=aC (λp:AP=>1+p.name.length+szV p.d) l
def gF(l:List AO):Nat:=aC (λd:AO=>1+d.name.length+(1+szM d.args)) l
def rF(l:List Ag):Nat:=aC (λf:Ag=>1+f.name.length+mD f.params+gF f.ar) l
def sR(d:Ah):Nat:=1+d.name.length+mC d.faces+mC d.ax+mD d.params+rF d.fields
def IS(s:AJ):Nat:=aC sR s.ai
def gK{f:α->Nat}(h:k<l.length):aC f (l.take (k+1))=aC f (l.take k)+f l[k]:=by
 induction l generalizing k with
 |nil=>simp at h
 |cons x l E=>
  cases k with
  |zero=>simp[aC]
  |succ k=>simp only[take_succ_cons,aC,List.getElem_cons_succ];rw[E Wu];omega
def fK(f:α->Nat)(l:List α)(k:Nat):aC f (l.take k)<=aC f l:=by
 induction l generalizing k with
 |nil=>simp
 |cons x l E=>
  cases k with
  |zero=>simp[aC]
  |succ k=>simp only[take_succ_cons,aC];have:=E k;omega
def nC{α:Type}{f g:α->Nat}(h:∀x,f x<=g x):∀l:List α,aC f l<=aC g l
 |[]=>le_refl _
 |x::l=>by simp only[aC];have:=h x;have:=nC h l;omega
def Fp(m:List AF):szM m<=aC AF.size m:=by rw[<-iM];exact NB m
def yE(l:List AG):mC l<=dB l:=by have:mC l<=aC (λs:AG=>s.length+1) l:=nC (λ_=>om) l;unfold dB;omega
def D3(l:List AP):mD l<=aC AP.size l:=nC (λp=>by have:=Hm p.d;unfold AP.size;omega) l
def pR(l:List AO):gF l<=aC AO.size l:=nC (λd=>by have:=Fp d.args;unfold AO.size;omega) l
def Qs(l:List Ag):rF l<=aC Ag.size l:=nC (λf=>by have:=D3 f.params;have:=pR f.ar;unfold Ag.size;omega) l
def Tb(d:Ah):sR d<=d.size:=by have:=yE d.faces;have:=yE d.ax;have:=D3 d.params;have:=Qs d.fields;unfold sR Ah.size;omega
def Tc(s:AJ):IS s<=s.size:=by have:IS s<=aC Ah.size s.ai:=nC Tb s.ai;unfold AJ.size;omega
def OZ(l:List AG)(h:mC l<=68719476736)(c:l.length<=68719476736):AN prog 77 [.slice (l.map AV.str) .no] (.int .i64 (mC l)):=by
 refine AI.plain rfl (by simp[aA,AV.K,aT]) (aS [2] func77 ?_);refine .go ?_;refine bK l.length (λk=>[(4, .int .i64 k),(3, .int .i64 (mC (l.take k))),(0, .slice (l.map AV.str) .no)]) (λ_=>⟨[],[]⟩) (λ_=>True) Z9 rfl trivial λk hk _=> ?_
 by_cases a:k<l.length
 ·have b:decide ((k:Int)<(l.length:Int))=true:=by simp[a]
  have x1:=aV (f:=AV.str) a;have ht:mC (l.take (k+1))=mC (l.take k)+(1+l[k].length):=gK a;have d:mC (l.take (k+1))<=mC l:=fK _ l (k+1);refine .go ?_;exact⟨a,⟨rfl,congrArg (AV.int .i64) WE,rfl,trivial⟩,Wj,rfl,rfl,trivial⟩
 ·have b:decide ((k:Int)<(l.length:Int))=false:=by simp;omega
  obtain rfl:k=l.length:=om
  refine .go ?_;refine aP rfl (AC.eq (congrArg (AV.int .i64) ?_));rw[take_length]
def LK(l:List AP)(h:aC AP.size l<=68719476736):AN prog 78 [.slice (l.map AP.C) .no] (.int .i64 (mD l)):=by
 have e:=aJ AP.au l;have c:=D3 l;refine AI.plain rfl (by simp[aA,AV.K,bZ]) (aS [2] func78 ?_);refine .go ?_;refine bK l.length (λk=>[(4, .int .i64 k),(3, .int .i64 (mD (l.take k))),(0, .slice (l.map AP.C) .no)]) (λ_=>⟨[],[]⟩) (λ_=>True) Z9 rfl trivial λk hk _=> ?_
 by_cases a:k<l.length
 ·have b:decide ((k:Int)<(l.length:Int))=true:=by simp[a]
  have x1:=aV (f:=AP.C) a;have hz:=Cb l[k].d (by have:=aN (size:=AP.size) (getElem_mem a);have:=l[k].lens;omega);have ht:mD (l.take (k+1))=mD (l.take k)+(1+l[k].name.length+szV l[k].d):=gK a;have g:mD (l.take (k+1))<=mD l:=fK _ l (k+1);refine .go ?_;exact⟨a,⟨rfl,congrArg (AV.int .i64) WE,rfl,trivial⟩,Wj,rfl,rfl,trivial⟩
 ·have b:decide ((k:Int)<(l.length:Int))=false:=by simp;omega
  obtain rfl:k=l.length:=om
  refine .go ?_;refine aP rfl (AC.eq (congrArg (AV.int .i64) ?_));rw[take_length]
def U4(l:List AO)(h:aC AO.size l<=68719476736):AN prog 79 [.slice (l.map AO.C) .no] (.int .i64 (gF l)):=by
 have i:=aJ AO.au l;have e:=pR l;refine AI.plain rfl (by simp[aA,AV.K,b9]) (aS [2] func79 ?_);refine .go ?_;refine bK l.length (λk=>[(4, .int .i64 k),(3, .int .i64 (gF (l.take k))),(0, .slice (l.map AO.C) .no)]) (λ_=>⟨[],[]⟩) (λ_=>True) Z9 rfl trivial λk hk _=> ?_
 by_cases a:k<l.length
 ·have b:decide ((k:Int)<(l.length:Int))=true:=by simp[a]
  have x1:=aV (f:=AO.C) a;have hz:=Cb (.mk 0 0 [] [] l[k].args) (by have g:=aN (size:=AO.size) (getElem_mem a);have h3:l[k].size=l[k].name.length+aC AF.size l[k].args+3:=rfl;rw[AH.size,iL,iM];simp only[List.length_nil];omega);have c:szV (.mk 0 0 [] [] l[k].args)=1+szM l[k].args:=XU
  rw[c]at hz;have d:AA [AV.agg [.int .i64 0, .int .i64 0, .str [], .slice [] .nil, .slice (l[k].args.map AF.C) .no]] [(AH.mk 0 0 [] [] l[k].args).C]:=by refine AA.cons ?_ (aB _);unfold AH.C;rw[sA,AH.bh];exact AC.agg (AA.cons (aG _) (AA.cons (aG _) (AA.cons (aG _) (AA.cons (AC.no (aB _)) (aB _)))))
  have ht:gF (l.take (k+1))=gF (l.take k)+(1+l[k].name.length+(1+szM l[k].args)):=gK a;have j:gF (l.take (k+1))<=gF l:=fK _ l (k+1);repeat' first|refine aH rfl hz d ?_|refine .s1 ?_|(refine .q ?_ ?_<;>intro O)|fail
  exact⟨a,⟨rfl,congrArg (AV.int .i64) WE,rfl,trivial⟩,Wj,rfl,rfl,trivial⟩
 ·have b:decide ((k:Int)<(l.length:Int))=false:=by simp;omega
  obtain rfl:k=l.length:=om
  refine .go ?_;refine aP rfl (AC.eq (congrArg (AV.int .i64) ?_));rw[take_length]
theorem Ah.b0(d:Ah):aC AP.size d.params<=d.size/\aC Ag.size d.fields<=d.size/\dB d.faces<=d.size/\dB d.ax<=d.size:=WJ
theorem Ag.b0(f:Ag):aC AP.size f.params<=f.size/\aC AO.size f.ar<=f.size/\f.name.length<=f.size/\f.t.name.length<=f.size:=by unfold Ag.size Ac.size;omega
def rG(s:AJ):Bool:=decide (IS s<=4000)
def aBH(s:AJ)(hs:s.size<=68719476736):AN prog 33 [s.C] (.bool (rG s)):=by
 have q:=s.len;have p:=Tc s;refine AI.plain rfl (by simp[aA,AJ.K]) (aS [2] func33 ?_);refine .ae ?_;refine bK s.ai.length (λk=>[(4, .int .i64 k),(3, .int .i64 (aC sR (s.ai.take k):Nat)),(1, .ac s.C)]) (λ_=>⟨[],[]⟩) (λ_=>True) Z9 rfl trivial λk hk _=> ?_
 by_cases a:k<s.ai.length
 ·have h:decide ((k:Int)<(s.ai.length:Int))=true:=by simp[a]
  have x1:=aV (f:=Ah.C) a;have m:=l9 (getElem_mem a);have e:=s.ai[k].lens;have g:=s.ai[k].b0;have t:=OZ s.ai[k].faces (by have:=yE s.ai[k].faces;omega) om;have u:=OZ s.ai[k].ax (by have:=yE s.ai[k].ax;omega) om;have v:=LK s.ai[k].params om;have ht:aC sR (s.ai.take (k+1))=aC sR (s.ai.take k)+sR s.ai[k]:=gK a;have r:aC sR (s.ai.take (k+1))<=IS s:=fK _ s.ai (k+1);have l:sR s.ai[k]=1+s.ai[k].name.length+mC s.ai[k].faces+mC s.ai[k].ax+mD s.ai[k].params+rF s.ai[k].fields:=rfl;refine .go ?_;refine bK s.ai[k].fields.length (λj=>[(6, .int .i64 j),(3, .int .i64 ((aC sR (s.ai.take k):Nat)+1+s.ai[k].name.length+mC s.ai[k].faces+mC s.ai[k].ax+mD s.ai[k].params+rF (s.ai[k].fields.take j))),(1, .ac s.C),(4, .int .i64 k),(5, .ptr 0 0)])
   (λ_=>⟨[.cells [.int .i64 s.ai[k].kind, .str s.ai[k].name, .slice (s.ai[k].faces.map AV.str) .no, .slice (s.ai[k].fields.map Ag.C) .no, .slice (s.ai[k].ax.map AV.str) .no, .slice (s.ai[k].params.map AP.C) .no]],[]⟩) (λ_=>True)
   ⟨rfl,congrArg (AV.int .i64) (by rw[List.take_zero];simp[rF,aC]),rfl,rfl,rfl,trivial⟩ rfl trivial λj hj _=> ?_
  by_cases b:j<s.ai[k].fields.length
  ·have i:decide ((j:Int)<(s.ai[k].fields.length:Int))=true:=by simp[b]
   have y:=aV (f:=Ag.C) b;have n:=aN (size:=Ag.size) (getElem_mem b);have o:=s.ai[k].fields[j].b0;have w:=LK s.ai[k].fields[j].params om;have x:=U4 s.ai[k].fields[j].ar om;have c:rF (s.ai[k].fields.take (j+1))=rF (s.ai[k].fields.take j)+(1+s.ai[k].fields[j].name.length+mD s.ai[k].fields[j].params+gF s.ai[k].fields[j].ar):=gK b;have d:rF (s.ai[k].fields.take (j+1))<=rF s.ai[k].fields:=fK _ _ (j+1);refine .go ?_;exact⟨b,⟨rfl,congrArg (AV.int .i64) (by rw[c];omega),rfl,rfl,rfl,trivial⟩,Wj,by simp[aQ,aL,Ob.ab,aE,AV.ab],rfl,trivial⟩
  ·have i:decide ((j:Int)<(s.ai[k].fields.length:Int))=false:=by simp;omega
   obtain rfl:j=s.ai[k].fields.length:=om
   refine .go ?_;exact⟨a,⟨rfl,congrArg (AV.int .i64) (by rw[ht,take_length];omega),rfl,trivial⟩,Wj,rfl,rfl,trivial⟩
 ·have h:decide ((k:Int)<(s.ai.length:Int))=false:=by simp;omega
  obtain rfl:k=s.ai.length:=om
  refine .go ?_;refine Fin.rb ?_;unfold rG IS;rw[take_length,Bool.eq_iff_iff];simp only[decide_eq_true_eq];omega
def Hn{p:α->Bool}(h:k<l.length)(hj:(l.take k).all p=true)(hp:p l[k]=true):(l.take (k+1)).all p=true:=WX
def Ho{p:α->Bool}(h:k<l.length)(hp:p l[k]=false):l.all p=false:=WZ
def sS{β:Type}{f:β->α->β}{a:β}(h:k<l.length):(l.take (k+1)).foldl f a=f ((l.take k).foldl f a) l[k]:=WX
abbrev aEV(xs:List AG)(n:AG):Prop:=AI prog 103 [.slice (xs.map AV.str) (.own 0 1), .str n] ⟨[],[.len xs.length]⟩ (λe H=>e = .ret (.slice ((cK xs n).map AV.str) (.own 0 1))/\H=⟨[],[.len (cK xs n).length]⟩)
def aDL(xs:List AG)(n:AG)(hx:xs.length<=137438953472):aEV xs n:=by
 have a:=gN xs n om;refine aS [4] func103 ?_;unfold cK;by_cases c:n∈xs
 ·rw[decide_eq_true c]at a;rw[if_pos c];repeat' first|refine aH rfl a hwk ?_|refine .s1 ?_|(refine .q ?_ ?_<;>intro O)|fail
  exact⟨rfl,rfl⟩
 ·rw[decide_eq_false c]at a;rw[if_neg c];repeat' first|refine aH rfl a hwk ?_|refine .s1 ?_|(refine .q ?_ ?_<;>intro O)|refine bW (n:=xs.length) rfl rfl rfl rfl rfl rfl rfl rfl (length_map ..) rfl Wa Wa rfl ?_|fail
  exact⟨Xp,YM⟩
def D4(name:AG)(l:List Ah):(l.foldl (λl x=>iP l x name) []).length<=l.length:=by
 have b:∀(l:List Ah) (a:List AG),(l.foldl (λl x=>iP l x name) a).length<=a.length+l.length:=λl=>by
  induction l with
  |nil=>intro a;simp
  |cons x l E=>
   intro a;rw[List.foldl_cons,length_cons];have c:=E (iP a x name);have d:(iP a x name).length<=a.length+1:=by
    unfold iP;split
    ·exact G1 _ _
    ·omega
   omega
 grind
def D5(s:AJ)(l:List AG):(l.foldl (j7 s) []).length<=l.length:=by
 have b:∀(l:List AG) (a:List AG),(l.foldl (j7 s) a).length<=a.length+l.length:=λl=>by
  induction l with
  |nil=>intro a;simp
  |cons x l E=>
   intro a;rw[List.foldl_cons,length_cons];have c:=E (j7 s a x);have d:(j7 s a x).length<=a.length+1:=by
    unfold j7;split
    ·exact G1 _ _
    ·omega
   omega
 grind
def D6(s:AJ)(name:AG)(hs:s.size<=1048640):AN prog 50 [s.C, .str name] (.slice ((jG s name).map AV.str) .no):=by
 have hf:=Lw s name om;have hz:=g9 (name:=name) (show s.size<=68719476736 by omega);have hl:=s.len;refine AI.plain (aT _) Wn (aS [4] func50 ?_);unfold jG;unfold bN at hf hz;cases j:dW s name with
 |none=>rw[j]at hf;refine .ae ?_;exact aP rfl (AC.no (aB _))
 |some d=>
  rw[j]at hf hz;simp only at hf hz ⊢;by_cases o:d.kind=1
  ·have w:(d.kind==1)=true:=by simp[o]
   rw[if_pos o];refine .ae ?_;exact aP rfl (AC.no (aB _))
  ·have w:(d.kind==1)=false:=by simp[o]
   rw[if_neg o];by_cases p:d.kind=2
   ·have y:(d.kind==2)=true:=by simp[p]
    rw[if_pos p];refine .ae ?_;refine eX 7 false 1 rfl rfl rfl rfl rfl rfl ?_;refine bK s.ai.length (λk=>[(31, .int .i64 k),(30, .int .i64 s.ai.length),(29, .slice (s.ai.map Ah.C) .no),(1, .str name),(7, .slice (((s.ai.take k).foldl (λl x=>iP l x name) []).map AV.str) (.own 0 1))])
     (λk=>⟨[.cells [.int .i64 d.kind, .str d.name, .slice (d.faces.map AV.str) .no, .slice (d.fields.map Ag.C) .no, .slice (d.ax.map AV.str) .no, .slice (d.params.map AP.C) .no]],[.len ((s.ai.take k).foldl (λl x=>iP l x name) []).length]⟩) (λ_=>True) Z9 rfl trivial λk hk _=> ?_
    by_cases e:k<s.ai.length
    ·have t:decide ((k:Int)<(s.ai.length:Int))=true:=by simp[e]
     have x1:=aV (f:=Ah.C) e;have v:=l9 (getElem_mem e);have u:=s.ai[k].lens;have i:=gN s.ai[k].faces name om;have b:=sS (f:=λl x=>iP l x name) (a:=[]) e;have hpl:=D4 name (s.ai.take k);rw[List.length_take]at hpl;have g:=aDL ((s.ai.take k).foldl (λl x=>iP l x name) []) s.ai[k].name om;generalize (s.ai.take k).foldl (λl x=>iP l x name) []=xs at g b;by_cases n:s.ai[k].kind=1
     ·have r1:(s.ai[k].kind==1)=true:=by simp[n]
      by_cases c:name∈s.ai[k].faces
      ·rw[decide_eq_true c]at i;replace b:=b.trans (show iP xs s.ai[k] name=cK xs s.ai[k].name by unfold iP;rw[if_pos ⟨n,c⟩]);repeat' first|refine .s1 ?_|(refine .q ?_ ?_<;>intro O)|refine yA 0 rfl g rfl (aT _) (aT _) (by simp[aA,AV.K]) (aB _) rfl ?_|fail
       exact⟨e,⟨rfl,rfl,rfl,rfl,W4,trivial⟩,WV,Wi,W4,trivial⟩
      ·rw[decide_eq_false c]at i;replace b:=b.trans (show iP xs s.ai[k] name=xs by unfold iP;rw[if_neg (λh=>c h.2)]);refine .go ?_;exact⟨e,⟨rfl,rfl,rfl,rfl,W4,trivial⟩,WV,Wi,W4,trivial⟩
     ·have r1:(s.ai[k].kind==1)=false:=by simp[n]
      replace b:=b.trans (show iP xs s.ai[k] name=xs by unfold iP;rw[if_neg (λh=>n h.1)]);refine .go ?_;exact⟨e,⟨rfl,rfl,rfl,rfl,W4,trivial⟩,WV,Wi,W4,trivial⟩
    ·have t:decide ((k:Int)<(s.ai.length:Int))=false:=by simp;omega
     obtain rfl:k=s.ai.length:=om
     rw[take_length];refine .go ?_;exact aP rfl (AC.no (aB _))
   ·have y:(d.kind==2)=false:=by simp[p]
    rw[if_neg p];by_cases r:d.kind=3
    ·have z:(d.kind==3)=true:=by simp[r]
     rw[if_pos r];refine .ae ?_;refine eX 7 false 1 rfl rfl rfl rfl rfl rfl ?_;refine bK d.ax.length (λk=>[(54, .int .i64 k),(53, .int .i64 d.ax.length),(52, .slice (d.ax.map AV.str) .no),(2, .ac s.C),(7, .slice (((d.ax.take k).foldl (j7 s) []).map AV.str) (.own 0 1))])
      (λk=>⟨[.cells [.int .i64 d.kind, .str d.name, .slice (d.faces.map AV.str) .no, .slice (d.fields.map Ag.C) .no, .slice (d.ax.map AV.str) .no, .slice (d.params.map AP.C) .no]],[.len ((d.ax.take k).foldl (j7 s) []).length]⟩) (λ_=>True) Z9 rfl trivial λk hk _=> ?_
     by_cases e:k<d.ax.length
     ·have t:decide ((k:Int)<(d.ax.length:Int))=true:=by simp[e]
      have x1:=aV (f:=AV.str) e;have m:=SN s d.ax[k] [1] om Wd;have b:=sS (f:=j7 s) (a:=[]) e;have hpl:=D5 s (d.ax.take k);rw[List.length_take]at hpl;have g:=aDL ((d.ax.take k).foldl (j7 s) []) d.ax[k] om;generalize (d.ax.take k).foldl (j7 s) []=xs at g b;cases c:eP s d.ax[k] [1] with
      |true=>
       rw[c]at m;replace b:=b.trans (show j7 s xs d.ax[k]=cK xs d.ax[k] by unfold j7;rw[if_pos c]);repeat' first|refine .s1 ?_|(refine .q ?_ ?_<;>intro O)|refine yA 0 rfl g rfl (aT _) (aT _) (by simp[aA,AV.K]) (aB _) rfl ?_|fail
       exact⟨e,⟨rfl,rfl,rfl,rfl,W4,trivial⟩,WV,Wi,W4,trivial⟩
      |false=>rw[c]at m;replace b:=b.trans (show j7 s xs d.ax[k]=xs by unfold j7;rw[if_neg Zg]);refine .go ?_;exact⟨e,⟨rfl,rfl,rfl,rfl,W4,trivial⟩,WV,Wi,W4,trivial⟩
     ·have t:decide ((k:Int)<(d.ax.length:Int))=false:=by simp;omega
      obtain rfl:k=d.ax.length:=om
      rw[take_length];refine .go ?_;exact aP rfl (AC.no (aB _))
    ·have z:(d.kind==3)=false:=by simp[r]
     rw[if_neg r];refine .ae ?_;exact aP rfl (AC.no (aB _))
def sT(s:AJ)(name:AG)(hs:s.size<=1048640):(jG s name).length<=68719476736:=by
 have hz:=g9 (name:=name) (show s.size<=68719476736 by omega);have b:=s.len;unfold bN at hz;unfold jG;cases a:dW s name with
 |none=>simp
 |some d=>
  rw[a]at hz;simp only at hz ⊢;split
  ·simp
  ·split
   ·have:=D4 name s.ai;omega
   ·split
    ·have:=D5 s d.ax;omega
    ·simp
def U5:List Field:=[{ name := "Name",type:=9,offset:=0,embedded:=false,tag := "",pkgPath := "",byteOffset:=0 },{ name := "Lists",type:=3,offset:=1,embedded:=false,tag := "",pkgPath := "",byteOffset:=16 },{ name := "Musts",type:=3,offset:=2,embedded:=false,tag := "",pkgPath := "",byteOffset:=24 }]
def Td:CR prog 84 U5:=⟨underlying84,Wc,Wc,Wd⟩
def LL(l:List AO)(f:FuncId)(cs:List AV)(p:AO->Bool)(g:l.length<=9223372036854775807)(b:aA cs=true)(hf:∀x∈l,AN prog f (AO.C x::cs) (.bool (p x))):
  AN prog 194 [.slice (l.map AO.C) .no, .fn (.func f) [] cs] (.int .i64 (bG p l 0)):=by
 refine AI.plain rfl (by simp[AV.K,aA,b9,b]) (aS [4] func194 ?_);refine .go ?_;refine bK l.length (λk=>[(8, .int .i64 k),(7, .int .i64 l.length),(0, .slice (l.map AO.C) .no),(1, .fn (.func f) [] cs)]) (λ_=>⟨[],[]⟩) (λk=>bG p l 0=bG p (l.drop k) k) Z9 rfl rfl λk hk hp=> ?_
 by_cases a:k<l.length
 ·have c:decide ((k:Int)<(l.length:Int))=true:=by simp[a]
  have x1:=aV (f:=AO.C) a;have d:=hf l[k] (getElem_mem a);have e:=cR (p:=p) a;repeat' first|refine .s1 ?_|(refine .q ?_ ?_<;>intro O)|fail
  ·refine aP rfl (AC.eq ?_);simp_all
  ·exact⟨a,Z9,Xk,rfl,rfl,Xm⟩
 ·have c:decide ((k:Int)<(l.length:Int))=false:=by simp;omega
  refine .go ?_;refine aP rfl (AC.eq ?_);rw[hp,List.drop_eq_nil_of_le om,bG]
def NC(l:List AT)(f:FuncId)(cs:List AV)(p:AT->Bool)(g:l.length<=9223372036854775807)(b:aA cs=true)(hf:∀x∈l,AN prog f (AT.C x::cs) (.bool (p x))):
  AN prog 127 [.slice (l.map AT.C) .no, .fn (.func f) [] cs] (.int .i64 (bG p l 0)):=by
 refine AI.plain rfl (by simp[AV.K,aA,cH,b]) (aS [4] func127 ?_);refine .go ?_;refine bK l.length (λk=>[(8, .int .i64 k),(7, .int .i64 l.length),(0, .slice (l.map AT.C) .no),(1, .fn (.func f) [] cs)]) (λ_=>⟨[],[]⟩) (λk=>bG p l 0=bG p (l.drop k) k) Z9 rfl rfl λk hk hp=> ?_
 by_cases a:k<l.length
 ·have c:decide ((k:Int)<(l.length:Int))=true:=by simp[a]
  have x1:=aV (f:=AT.C) a;have d:=hf l[k] (getElem_mem a);have e:=cR (p:=p) a;repeat' first|refine .s1 ?_|(refine .q ?_ ?_<;>intro O)|fail
  ·refine aP rfl (AC.eq ?_);simp_all
  ·exact⟨a,Z9,Xk,rfl,rfl,Xm⟩
 ·have c:decide ((k:Int)<(l.length:Int))=false:=by simp;omega
  refine .go ?_;refine aP rfl (AC.eq ?_);rw[hp,List.drop_eq_nil_of_le om,bG]
def Hp(l:List Af)(f:FuncId)(cs:List AV)(p:Af->Bool)(g:l.length<=9223372036854775807)(b:aA cs=true)(hf:∀x∈l,AN prog f (Af.C x::cs) (.bool (p x))):
  AN prog 98 [.slice (l.map Af.C) .no, .fn (.func f) [] cs] (.int .i64 (bG p l 0)):=by
 refine AI.plain rfl (by simp[AV.K,aA,uR,b]) (aS [4] func98 ?_);refine .go ?_;refine bK l.length (λk=>[(8, .int .i64 k),(7, .int .i64 l.length),(0, .slice (l.map Af.C) .no),(1, .fn (.func f) [] cs)]) (λ_=>⟨[],[]⟩) (λk=>bG p l 0=bG p (l.drop k) k) Z9 rfl rfl λk hk hp=> ?_
 by_cases a:k<l.length
 ·have c:decide ((k:Int)<(l.length:Int))=true:=by simp[a]
  have x1:=aV (f:=Af.C) a;have d:=hf l[k] (getElem_mem a);have e:=cR (p:=p) a;repeat' first|refine .s1 ?_|(refine .q ?_ ?_<;>intro O)|fail
  ·refine aP rfl (AC.eq ?_);simp_all
  ·exact⟨a,Z9,Xk,rfl,rfl,Xm⟩
 ·have c:decide ((k:Int)<(l.length:Int))=false:=by simp;omega
  refine .go ?_;refine aP rfl (AC.eq ?_);rw[hp,List.drop_eq_nil_of_le om,bG]
def aBI(A:List AF)(d:AO)(he:A.length<=9223372036854775807)(f:d.args.length<=9223372036854775807):AN prog 196 [.slice (A.map AF.C) .no,d.C] (.bool (HI A d)):=by
 have i:=get sIf d.args f;refine AI.plain rfl (by simp[AV.K,aA,aR,AO.K]) (aS [4] func196 ?_);unfold HI;generalize (bT sIf d.args)=u at *;obtain⟨v,b⟩:=u;have e:=get v.s A he;by_cases c:v.kind=8
 ·have a:(v.kind==8)=true:=by rw[c];rfl
  simp only[if_pos c];generalize (bT v.s A)=g at *;obtain⟨w,h⟩:=g;simp only at e;cases e1:(w.kind==1) with
  |false=>refine .ae ?_;exact aP rfl (AC.eq (by simp[e1]))
  |true=>refine .ae ?_;exact aP rfl (AC.eq (by simp[e1]))
 ·have a:(v.kind==8)=false:=by simpa using c
  simp only[if_neg c];cases e1:(v.kind==1) with
  |false=>refine .ae ?_;exact aP rfl (AC.eq (by simp[e1]))
  |true=>refine .ae ?_;exact aP rfl (AC.eq (by simp[e1]))
def Qt(name:AG)(d:AO):AN prog 195 [d.C, .ac (.str name)] (.bool (d.name==name)):=by refine AI.plain rfl (by simp[AV.K,aA,AO.K]) (aS [3] func195 ?_);refine .ae ?_;exact bY
def uT(A:List AF)(name:AG)(l:List AO):Bool×Bool:=match gQ name l with
 |some d=>(true,HI A d)
 |none=>(false,false)
def LM(A:List AF)(name:AG)(l:List AO)(he:A.length<=9223372036854775807)(h:aC AO.size l<=68719476736):
  AN prog 125 [.slice (A.map AF.C) .no, .str name, .slice (l.map AO.C) .no] (.tup [.bool (uT A name l).1, .bool (uT A name l).2]):=by
 have e:=aJ (size:=AO.size) (λd=>X4) l;have X:=LL l 195 [.ac (.str name)] (λd=>d.name==name) om rfl (λd _=>Qt name d);refine AI.plain rfl (by simp[AV.K,aA,aR,b9]) (aS [6,7] func125 ?_);unfold uT gQ;rcases eN (λd:AO=>d.name==name) l 0 with⟨a,b⟩|⟨j,hj,a,b⟩
 ·rw[a]at X;rw[b];repeat' first|refine .br ?_|refine .s1 ?_|(refine .q ?_ ?_<;>intro O)|fail
  exact cL rfl rfl (aG _)
 ·rw[a,zero_add]at X;rw[b];have x1:=aV (f:=AO.C) hj;have hz:=aN (size:=AO.size) (getElem_mem hj);have c:(l[j]).size=l[j].name.length+aC AF.size l[j].args+3:=rfl;have g:=aJ AF.au l[j].args;have i:=aBI A l[j] he om;repeat' first|refine .br ?_|refine .s1 ?_|(refine .q ?_ ?_<;>intro O)|fail
  exact cL rfl rfl (aG _)
def Te(A:List AF)(l:List AO)(he:A.length<=9223372036854775807)(f:aC AO.size l<=68719476736):
  AN prog 73 [.slice (A.map AF.C) .no, .slice (l.map AO.C) .no] (.bool (iT A l)):=by
 have g:=LM A oH l he f;have h:=LM A fP l he f;have e:iT A l=(!(uT A oH l).2&&(!(uT A fP l).1||(uT A fP l).2)):=by unfold iT uT;cases gQ oH l<;>cases gQ fP l<;>simp
 rw[e];generalize uT A oH l=u at *;generalize uT A fP l=v at *;obtain⟨a,b⟩:=u;obtain⟨c,d⟩:=v;refine AI.plain rfl (by simp[AV.K,aA,aR,b9]) (aS [4] func73 ?_);cases b<;>cases c
 all_goals
  repeat' first|refine .s1 ?_|(refine .q ?_ ?_<;>intro O)|refine aH rfl h (aB _) ?_|refine aH rfl g (aB _) ?_|fail
 all_goals exact bY
def Hq(s:AJ)(u a:AG)(hs:s.size<=1048640):AN prog 76 [s.C, .str u, .str a] (.bool (kV s u a)):=by
 have hp:=D6 s a hs;have c:=sT s a hs;have O:=gN (jG s a) u om;refine AI.plain rfl Wn (aS [6] func76 ?_);unfold kV;cases e1:(a==[]) with
 |true=>refine .ae ?_;exact bY
 |false=>
  cases b:(a==u) with
  |true=>refine .ae ?_;exact bY
  |false=>refine .ae ?_;exact bY
def aEW(x:Sl):AN prog 126 [x.C] (.str (jH x)):=by
 refine AI.plain rfl (by simp[aA,Sl.K]) (aS [2] func126 ?_);unfold jH;by_cases a:x.kind=0
 ·have e1:(x.kind != 0)=false:=by simp[a]
  rw[if_neg Ww];by_cases b:x.bm=[]
  ·have c:(x.bm != [])=false:=by simp[b]
   rw[if_neg X9];refine .ae ?_;exact bY
  ·have c:(x.bm != [])=true:=by simp[b]
   rw[if_pos b];refine .ae ?_;exact bY
 ·have e1:(x.kind != 0)=true:=by simp[a]
  rw[if_pos a];refine .ae ?_;exact bY
end Go.Proofs.YtimbiifcnhgcoaaGreatDoor
namespace Go.Av
open Go
section
variable [AL]
theorem A1.agg{cs a:List AV}(h:Al H cs a):A1 H (.agg cs) (.agg a):=λg w v b ⟨vs,e,hl,h1⟩=>⟨vs,e,h g w _ b hl,h1⟩
def A1.fn{f:Fn}{cs a:List AV}(h:Al H cs a):A1 H (.fn f [] cs) (.fn f [] a):=λg w v b ⟨vs,ws,e,h1,h2⟩=>⟨vs,ws,e,h1,h g w _ b h2⟩
def Lo{i:Nat}{c d:AV}(q:H.B[i]? =some (.cells [c]))(h:A1 H c d)(O:fits false 1 c=true):A1 H (.ptr i 0) (.ac d):=λg w v m hr=>by
 obtain⟨b,hb,rfl⟩:=hr
 obtain⟨J,R,l,o,h3⟩:=m.ob i b _ hb q
 have k:b<w.heap.size:=(Array.getElem?_eq_some_iff.1 l).1
 obtain⟨u,C,e,h4,p⟩:=o
 have a:C=[]:=p
 subst a
 have n:u.cells = #[u]:=((nJ O h4).2.2.1 rfl).1
 refine⟨b,0,u,rfl,λj x hj=>⟨k, ?_,h3 x ?_⟩,h g w u m h4⟩
 ·rw[n]at hj
  have f:J[j]? =some x:=by
   rw[<-Array.getElem?_toList,e]
   rw[<-Array.getElem?_toList]at hj
   exact hj
  unfold World.cell?
  rw[l]
  simpa using f
 ·rw[n]at hj
  have hx:x∈[u]:=List.mem_of_getElem? (by rw[<-Array.getElem?_toList]at hj;exact hj)
  rw[e];exact hx
end
end Go.Av
namespace Go.Proofs.YtimbiifcnhgcoaaGreatDoor
open Go Go.Av Go.Proofs.Tryz
def pA(s:AJ)(d:AR)(A:List AF)(u:AG)(o:AV):List AV:=
 [.slice (s.ai.map Ah.C) .no, .str s.query, .str s.av, .slice (d.ops.map Ak.C) .no, .slice (d.aj.map Af.C) .no, .slice (A.map AF.C) .no, .str u,o, .map 0]
def Cc(i:Nat)(g:AT):AV := .agg [.str g.key, .aa (i+1) 7 g.O.length 0 g.O.length]
def cU:Nat->List AT->List AV
 |_,[]=>[]
 |i,g::l=>Cc i g::cU (i+1) l
def iU(out:List AT):List Tok := .aa (cU 0 out)::out.map λg => .aa (g.O.map Sl.C)
def nE(s:AJ)(d:AR)(A:List AF)(u:AG)(met:List AG)(n:Nat):List Ob:=[.map (met.map λx=>(.str x, .bool true)), .cells (pA s d A u (.aa 0 2 n 0 n))]
def mE(s:AJ)(d:AR)(A:List AF)(u:AG)(m:Gs):St:=⟨nE s d A u m.met m.out.length,iU m.out⟩
theorem sU:∀(i:Nat) (l:List AT),(cU i l).length=l.length
 |_,[]=>rfl
 |i,g::l=>by rw[cU,length_cons,sU (i+1) l,length_cons]
theorem D7:∀(i:Nat) (a b:List AT),cU i (a++b)=cU i a++cU (i+a.length) b
 |i,[],b=>by simp[cU]
 |i,g::a,b=>by rw[cons_append,cU,D7 (i+1) a b,cU,cons_append,length_cons];congr 3;omega
theorem D8:∀(i:Nat) (l:List AT) (j:Nat) (h:j<l.length),(cU i l)[j]? =some (Cc (i+j) l[j])
 |i,g::l,0,_=>by rw[cU];rfl
 |i,g::l,j+1,h=>by
  rw[cU,List.getElem?_cons_succ,D8 (i+1) l j Wu,List.getElem_cons_succ];congr 2;omega
theorem D9:∀(i:Nat) (l:List AT) (j:Nat) (x:AT),(cU i l).set j (Cc (i+j) x)=cU i (l.set j x)
 |_,[],_,_=>by simp[cU]
 |i,g::l,0,x=>by rw[cU,List.set_cons_zero,List.set_cons_zero,cU];rfl
 |i,g::l,j+1,x=>by rw[cU,List.set_cons_succ,List.set_cons_succ,cU, <-D9 (i+1) l j x];congr 3;omega
theorem fA(l:List AT):(iU l).length=l.length+1:=by rw[iU,length_cons,length_map]
theorem Ea(n:Nat):∀(i:Nat) (l:List AT) (m:Nat),i+l.length<m->aE n m (cU i l)=true
 |_,[],_,_=>by rw[cU,aE]
 |i,g::l,m,h=>by
  rw[length_cons]at h
  rw[cU,aE,Ea n (i+1) l m om,Bool.and_true]
  simp only[Cc,AV.ab,aE,Bool.and_true,Bool.true_and]
  exact Nat.ble_eq_true_of_le om
def jI(n:Nat)(l:List AT):aL n (iU l).length (iU l)=true:=by
 rw[fA,iU,aL,Tok.ab,Ea n 0 l _ om,Bool.true_and];have:∀(m:Nat) (l:List AT),aL n m (l.map λg=>Tok.aa (g.O.map Sl.C))=true:=by
  intro m l;induction l with
  |nil=>rfl
  |cons g l E=>rw[map_cons,aL,Tok.ab,E,TG];rfl
 exact this _ l
theorem O1(n m:Nat):∀l:List AG,oS n m (l.map λx=>(AV.str x,AV.bool true))=true
 |[]=>rfl
 |x::l=>by rw[map_cons,oS,O1 n m l];rfl
def oR(s:AJ)(d:AR)(A:List AF)(u:AG)(met:List AG)(n m:Nat)(h:0<m):aQ 2 m (nE s d A u met n)=true:=by rw[nE,aQ,aQ,aQ,Ob.ab,Ob.ab,O1];simp[pA,aE,AV.ab,h]
theorem Eb{x:Sl}:∀ {l:List AT},l.find? (λg=>g.key==jH x)=none->kK x l=l++[⟨jH x,[x]⟩]
 |[],_=>rfl
 |g::l,h=>by
  rw[find?_cons]at h
  split at h
  ·cases h
  ·rename_i e
   rw[kK,if_neg Yi,Eb h];rfl
def IU:∀ {l:List AT} {j:Nat} (h:j<l.length),bG (λg:AT=>g.key==jH x) l 0=(j:Int)->kK x l=l.set j ⟨l[j].key,l[j].O++[x]⟩:=by
 have a:∀(l:List AT) (k j:Nat) (h:j<l.length),bG (λg:AT=>g.key==jH x) l k=((k+j:Nat):Int)->kK x l=l.set j ⟨l[j].key,l[j].O++[x]⟩:=by
  intro l;induction l with
  |nil=>intro k j h;simp at h
  |cons g l E=>
   intro k j h e;rw[bG]at e;by_cases c:(g.key==jH x)=true
   ·rw[if_pos c]at e;obtain rfl:j=0:=om
    rw[kK,if_pos WA];rfl
   ·rw[if_neg c]at e;rw[kK,if_neg WA];cases j with
    |zero=>exfalso;rcases eN (λg:AT=>g.key==jH x) l (k+1) with⟨b,_⟩|⟨i,_,b,_⟩<;>omega
    |succ j=>rw[E (k+1) j Wu (by rw[e];congr 1;omega)];rfl
 intro l j h e;exact a l 0 j h (by rw[e];congr 1;omega)
attribute [local irreducible] AB AD AN AI Av.AU AZ
def Qu(name:AG)(g:AT):AN prog 128 [g.C, .ac (.str name)] (.bool (g.key==name)):=by refine AI.plain rfl (by simp[AV.K,aA,AT.K]) (aS [3] func128 ?_);refine .ae ?_;exact bY
def VN{a:List AT}(hT:H.T=iU a):A1 H (.aa 0 2 a.length 0 a.length) (.slice (a.map AT.C) .no):=by
 have h0:H.T[0]? =some (.aa (cU 0 a)):=by rw[hT];rfl
 have d:∀(l:List AT) (i:Nat),(∀(j:Nat) (h:j<l.length),H.T[i+j+1]? =some (.aa (l[j].O.map Sl.C)))->Al H (cU i l) (l.map AT.C):=by
  intro l;induction l with
  |nil=>intro i _;exact Al.nil
  |cons g l E=>
   intro i h;refine Al.cons (A1.agg (Al.cons (A1.K rfl) (Al.cons ?_ Al.nil))) (E (i+1) λj hj=> ?_)
   ·have c:=h 0 Wb;have b:=A1.aa (z:=7) (lo:=0) (X:=g.O.length) (n:=g.O.length) c Wb (Al.K (aZ _));rw[drop_zero,List.take_of_length_le Wb]at b;exact b
   ·have c:=h (j+1) Xy;rw[show i+(j+1)+1=i+1+j+1 by omega]at c;exact c
 have b:=A1.aa (z:=2) (lo:=0) (X:=a.length) (n:=a.length) h0 (sU 0 a) (d a 0 λj hj=>by rw[hT,iU,zero_add,List.getElem?_cons_succ];simp[hj]);rw[drop_zero,List.take_of_length_le Wb]at b;exact b
def LN{a w:Tok}{S:List Tok}{j:Nat}(h:j<S.length):(a::S.set j w)[j+1]? =some w:=by rw[List.getElem?_cons_succ,List.getElem?_set_self h]
theorem sV(l:List α)(x y:α){n:Nat}(h:l.length=n):(l++[x]).set n y=l++[y]:=by subst h;simp
theorem xG(l:List α)(x:α){n:Nat}(h:l.length=n):(l++[x])[n]? =some x:=by subst h;simp
def aDM(s:AJ)(d:AR)(A:List AF)(u:AG)(met:List AG)(a:List AT)(j:Nat)(hj:j<a.length)(x:Sl)(m:a[j].O.length<=68719476736):
  AB prog Tryz.f74.ntmps [] (wQ 4 (uC Tryz.f74))
   (fin [] (λe Y=>e = .ret (.tup [])/\Y.B.take 2=nE s d A u met a.length/\Y.T=iU (a.set j ⟨a[j].key,a[j].O++[x]⟩)))
   [(3, .ac x.C),(5, .int .i64 j),(0, .ptr 1 0)] ⟨nE s d A u met a.length++[.cells [.str (jH x)]],iU a⟩:=by
 have k:(cU 0 a)[j]? =some (Cc j a[j]):=by rw[D8 0 a j hj,zero_add]
 have hn:=sU 0 a;have hS:(iU a)[j+1]? =some (.aa (a[j].O.map Sl.C)):=by rw[iU,List.getElem?_cons_succ];simp[hj]
 have h:j<(a.map λg=>Tok.aa (g.O.map Sl.C)).length:=Xy
 have i:j+1<(iU a).length:=XG
 have c:(a[j].O.map Sl.C).length=a[j].O.length:=length_map _;have l:(j:Int)=(j:Nat):=rfl;have f:iU (a.set j ⟨a[j].key,a[j].O++[x]⟩) = .aa ((cU 0 a).set j (Cc j ⟨a[j].key,a[j].O++[x]⟩))::(a.map λg=>Tok.aa (g.O.map Sl.C)).set j (.aa (a[j].O.map Sl.C++[x.C])):=by rw[iU, <-D9,List.map_set,zero_add,map_append];rfl
 rw[f];generalize a[j]=g at *
 unfold nE pA
 repeat' first|refine OY rfl rfl rfl rfl rfl Wd Wd Xe (λb=> ?_)|refine b7 rfl ?_|refine .s1 ?_|(refine .q ?_ ?_<;>intro O)|refine fI rfl rfl rfl rfl rfl rfl rfl om (zero_add _) ?_|refine fD rfl rfl rfl hn k rfl ?_|refine jE rfl rfl rfl rfl ?_|refine eG rfl rfl rfl rfl rfl rfl rfl hS c rfl rfl Wa Wa (gJ i) ?_|refine bC (agg:=true) rfl rfl rfl rfl rfl hn k rfl rfl rfl rfl ?_|refine fI (j:=g.O.length) rfl rfl rfl rfl rfl rfl rfl Wa (zero_add _) ?_|refine bC (agg:=true) rfl rfl rfl rfl (LN h) (by rw[length_append,c]) (xG _ _ c) rfl rfl rfl (gJ (by rw[length_cons,List.length_set];omega)) ?_|fail
 ·refine⟨rfl,rfl, ?_⟩;show _::List.set (List.set _ j _) j _=_;rw[List.set_set,sV _ _ _ c];simp only[Cc,length_append];rfl
 ·refine⟨rfl,rfl, ?_⟩;simp only[Cc,length_append];rfl
def xH(x:Sl):∀l:List AT,l.length<=(kK x l).length
 |[]=>by simp[kK]
 |g::l=>by
  rw[kK]
  split
  ·simp
  ·have:=xH x l
   simp only[length_cons];omega
def aBJ(s:AJ)(d:AR)(A:List AF)(u:AG)(m:Gs)(x:Sl)(hl:m.out.length<=68719476736)(hs:∀g∈m.out,g.O.length<=68719476736):
  AI prog 74 [.ptr 1 0,x.C] (mE s d A u m) (λe Y=>e = .ret (.tup [])/\Y=mE s d A u ⟨m.met,kK x m.out⟩):=by
 obtain⟨met,a⟩:=m;simp only at hl hs;have hk:=aEW x;have X:=NC a 128 [.ac (.str (jH x))] (λg=>g.key==jH x) om rfl (λg _=>Qu (jH x) g);have hn:=sU 0 a;refine kQ (AI.mono (o:=λe Y=>e = .ret (.tup [])/\Y.B.take 2=nE s d A u met (kK x a).length/\Y.T=iU (kK x a)) ?_ λe v f=> ?_)
 case refine_2=>
  have a3:=xH x a;refine⟨.tup [],2,v.T.length,f.1,le_refl _, ?_,rfl, ?_, ?_,rfl, ?_⟩
  ·rw[f.2.2,fA];show (iU a).length<=_;rw[fA];omega
  ·rw[f.2.1,f.2.2,fA];exact oR _ _ _ _ _ _ _ om
  ·rw[take_length,f.2.2];exact jI _ _
  ·rw[take_length,f.2.1,f.2.2];rfl
 have n:∀(b:List AT) (j:Nat) (hj:j<b.length) (l:b[j].O.length<=68719476736) (e1:kK x a=b.set j ⟨b[j].key,b[j].O++[x]⟩),
   AB prog Tryz.f74.ntmps [] (wQ 4 (uC Tryz.f74))
    (fin [] (λe Y=>e = .ret (.tup [])/\Y.B.take 2=nE s d A u met (kK x a).length/\Y.T=iU (kK x a)))
    [(3, .ac x.C),(5, .int .i64 j),(0, .ptr 1 0)] ⟨nE s d A u met b.length++[.cells [.str (jH x)]],iU b⟩:=λb j hj l e1=>by
  have h:=aDM s d A u met b j hj x l;rw[<-e1]at h;have h2:b.length=(kK x a).length:=by rw[e1,List.length_set]
  rw[<-h2];exact h
 rcases eN (λg:AT=>g.key==jH x) a 0 with⟨p,q2⟩|⟨j,hj,p,q2⟩
 ·rw[p]at X;have d1:decide ((-1:Int)<0)=true:=rfl;have w:(a++[AT.mk (jH x) []])[a.length]' Wb=AT.mk (jH x) []:=by simp
  have t:=n (a++[⟨jH x,[]⟩]) a.length Wb (by rw[w];simp) (by rw[w,Eb q2,sV _ _ _ rfl];rfl);have r:jX 0 (.aa ((cU 0 a++[AV.agg [.str (jH x), .slice [] .nil]]).set a.length (.agg ([AV.str (jH x), .slice [] .nil].set 1 (.aa (a.length+1) 7 0 0 0)))))
    ((Tok.aa (cU 0 a++[AV.agg [.str (jH x), .slice [] .nil]])::a.map λg=>Tok.aa (g.O.map Sl.C))++[.aa []]) some=some (iU (a++[⟨jH x,[]⟩])):=by
   rw[sV _ _ _ hn,iU,D7,zero_add,map_append];rfl
  have z:=b8 (s:=[(3, .ac x.C),(5, .int .i64 a.length),(0, .ptr 1 0)]) 5 rfl (cV (z0 := .int .i64 a.length) (H:=⟨nE s d A u met (a++[AT.mk (jH x) []]).length++[.cells [.str (jH x)]],Tok.aa (cU 0 a++[AV.agg [.str (jH x), .slice [] .nil]])::a.map λg=>Tok.aa (g.O.map Sl.C)⟩)
   (k:=0) (i:=a.length) (c:=1) (y := .aa (a.length+1) 7 0 0 0) rfl (xG _ _ hn) rfl (kA rfl (by rw[oP];simp) (oQ _ _ _)) rfl r) (AB.weaken t (s':= (5, .int .i64 a.length)::[(3, .ac x.C),(5, .int .i64 a.length),(0, .ptr 1 0)]) (by exact Z9))
  rw[length_append]at z;refine aS [] func74 ?_;unfold mE nE pA
  repeat' first|refine .br ?_|(refine AB.weaken z ?_;exact Z9)|refine b7 rfl ?_|refine .s1 ?_|(refine .q ?_ ?_<;>intro O)|refine xN rfl X (Al.cons (VN rfl) (Al.cons (A1.fn (Al.cons (Lo rfl (A1.K rfl) rfl) Al.nil)) Al.nil)) rfl ?_|refine .vl ?_|refine jE rfl rfl rfl rfl ?_|refine eG rfl rfl rfl rfl rfl rfl rfl rfl hn rfl rfl Wa Wa rfl ?_|fail
 ·rw[p,zero_add]at X;have d1:decide ((j:Int)<0)=false:=decide_eq_false om;have t:=n a j hj (hs _ (getElem_mem hj)) (IU hj (by rw[p,zero_add]));refine aS [] func74 ?_;unfold mE nE pA
  repeat' first|refine .br ?_|(refine AB.weaken t ?_;exact Z9)|refine b7 rfl ?_|refine .s1 ?_|(refine .q ?_ ?_<;>intro O)|refine xN rfl X (Al.cons (VN rfl) (Al.cons (A1.fn (Al.cons (Lo rfl (A1.K rfl) rfl) Al.nil)) Al.nil)) rfl ?_|fail
theorem IV(s:AJ)(d:AR)(A:List AF)(u:AG)(n:Nat):∀(a b:List Sl) (g:Gs),fQ s d A u n (a++b) g=fQ s d A u n b (fQ s d A u n a g)
 |[],b,g=>by rw[List.nil_append,fL]
 |x::a,b,g=>by rw[cons_append,gD,IV s d A u n a b,gD]
def ND(s:AJ)(d:AR)(A:List AF)(u:AG)(n:Nat){l:List Sl}(h:k<l.length)(g:Gs):
  fQ s d A u n (l.take (k+1)) g=jN s d A u n l[k] (fQ s d A u n (l.take k) g):=by rw[List.take_succ_eq_append_getElem h,IV,gD,fL]
def gA(d:AR)(met:List AG):List Af:=d.aj.filter λf=>decide (f.name∉met)
def Dq(out:List AT):Nat:=aC (λg:AT=>g.O.length+1) out
def xI(tot:List AT->Nat)(d:AR)(g:Gs):Nat:=tot g.out+aC (λf:Af=>aC Sl.size f.O) (gA d g.met)
def qK(d:AR)(g:Gs):Nat:=xI Dq d g
def qZ{α:Type}{p q:α->Bool}(w:α->Nat)(a:∀x,q x=true->p x=true):∀(l:List α),aC w (l.filter q)<=aC w (l.filter p)
 |[]=>le_refl _
 |y::l=>by have E:=qZ w a l;cases b:q y<;>cases hp:p y<;>simp_all[aC]<;>omega
def Cd{α:Type}{p q:α->Bool}(w:α->Nat)(a:∀x,q x=true->p x=true){f:α}(hp:p f=true)(b:q f=false):∀(l:List α),f∈l->aC w (l.filter q)+w f<=aC w (l.filter p)
 |y::l,h=>by
  rcases List.mem_cons.1 h with rfl|h
  ·have:=qZ w a l;simp only[List.filter_cons,hp,b,if_true,aC];grind
  ·have E:=Cd w a hp b l h;cases d:q y<;>cases c:p y<;>simp_all[aC]<;>omega
theorem Fq(l:List α):aC (λ_=>1) l=l.length:=by
 induction l with
 |nil=>rfl
 |cons x l E=>rw[aC,E,length_cons];omega
def yF(d:AR)(met:List AG)(nm:AG)(x:Af)(h:decide (x.name∉met++[nm])=true):decide (x.name∉met)=true:=WZ
def NE(d:AR)(met:List AG)(nm:AG):(gA d (met++[nm])).length<=(gA d met).length:=by rw[<-Fq, <-Fq];exact qZ _ (yF d met nm) d.aj
def O2(d:AR)(met:List AG)(nm:AG)(w:Af->Nat):aC w (gA d (met++[nm]))<=aC w (gA d met):=qZ _ (yF d met nm) d.aj
def Ec(d:AR)(met:List AG)(hf:f∈d.aj)(hn:f.name∉met):(gA d (met++[f.name])).length+1<=(gA d met).length:=by rw[<-Fq, <-Fq];exact Cd (λ_=>1) (yF d met f.name) (by simpa using hn) Wb d.aj hf
def uU(d:AR)(met:List AG)(hf:f∈d.aj)(hn:f.name∉met)(w:Af->Nat):aC w (gA d (met++[f.name]))+w f<=aC w (gA d met):=
 Cd w (yF d met f.name) (by simpa using hn) Wb d.aj hf
def jJ{nm:AG}(h:iQ d nm=some f):f∈d.aj/\f.name=nm:=⟨List.mem_of_find?_eq_some h,by simpa using List.find?_some h⟩
def LP(x:Sl):∀l:List AT,Dq (kK x l)<=Dq l+2
 |[]=>by simp[kK,Dq,aC]
 |g::l=>by
  have E:=LP x l;rw[kK];unfold Dq at E ⊢;split
  ·simp only[aC,length_append,length_cons,List.length_nil];omega
  ·simp only[aC];omega
def Bf(tot:List AT->Nat)(s:AJ)(d:AR)(A:List AF)(u:AG)(n:Nat)(l:List Sl)(g:Gs):Prop:=
 xI tot d (fQ s d A u n l g)<=xI tot d g+aC Sl.size l/\(gA d (fQ s d A u n l g).met).length<=(gA d g.met).length
def Tf(a:List AT->Nat)(c:∀x l,a (kK x l)<=a l+x.size)(s:AJ)(d:AR)(A:List AF)(u:AG)(n N:Nat)(j:∀m,n=m+1->∀l g,Bf a s d A u m l g)(E:∀l g,aC Sl.size l<=N->Bf a s d A u n l g)(x:Sl)(w:aC Sl.size x.O<=N)(g:Gs):
  xI a d (jN s d A u n x g)<=xI a d g+x.size/\(gA d (jN s d A u n x g).met).length<=(gA d g.met).length:=by
 have hx:=x.ay;unfold jN;have h:=NE d g.met x.name;have hw:=O2 d g.met x.name (λf:Af=>aC Sl.size f.O);have hk:=c x g.out;by_cases v:iT A x.ar=false
 ·simp_all
 rw[if_neg v];by_cases k:x.kind=0
 ·rw[if_pos k];exact⟨XQ,le_refl _⟩
 rw[if_neg k];by_cases o:x.kind=1
 ·rw[if_pos o];by_cases p:x.name∈g.met
  ·simp_all
  rw[if_neg p];cases hf:iQ d x.name with
  |none=>exact⟨XQ,h⟩
  |some f=>
   obtain⟨y,b⟩:=jJ hf;dsimp only;by_cases q:kV s u f.on=true
   ·rw[if_pos q];cases n with
    |zero=>exact⟨XQ,h⟩
    |succ m=>obtain⟨h3,h4⟩:=j m rfl f.O ⟨g.met++[x.name],g.out⟩;have i:=uU d g.met y (by rw[b];exact p) (λf:Af=>aC Sl.size f.O);rw[b]at i;refine⟨?_,by dsimp only at h4;dsimp only;omega⟩;have e:xI a d ⟨g.met++[x.name],g.out⟩=a g.out+aC (λf:Af=>aC Sl.size f.O) (gA d (g.met++[x.name])):=rfl;have z:xI a d g=a g.out+aC (λf:Af=>aC Sl.size f.O) (gA d g.met):=rfl;grind
   ·rw[if_neg q];exact⟨XQ,h⟩
 rw[if_neg o];by_cases r:x.kind=2
 ·rw[if_pos r];by_cases t:kV s u x.on=true
  ·rw[if_pos t];obtain⟨h3,h4⟩:=E x.O g w;exact⟨om,h4⟩
  ·rw[if_neg t];exact⟨om,le_refl _⟩
 ·rw[if_neg r];exact⟨om,le_refl _⟩
def Fr(a:List AT->Nat)(b:∀x l,a (kK x l)<=a l+x.size)(s:AJ)(d:AR)(A:List AF)(u:AG)(n:Nat)(c:∀m,n=m+1->∀l g,Bf a s d A u m l g):∀(N:Nat) (l:List Sl) (g:Gs),aC Sl.size l<=N->Bf a s d A u n l g
 |_,[],g,_=>by unfold Bf;rw[fL];exact⟨om,le_refl _⟩
 |0,x::l,g,h=>by rw[aC]at h;have:=x.au;omega
 |N+1,x::l,g,h=>by rw[aC]at h;have hx:=x.ay;obtain⟨e,f⟩:=Fr a b s d A u n c N l (jN s d A u n x g) (by have:=x.au;omega);obtain⟨h3,h4⟩:=Tf a b s d A u n N c (λl g h=>Fr a b s d A u n c N l g h) x om g;unfold Bf;rw[gD,aC];omega
def Ed(a:List AT->Nat)(b:∀x l,a (kK x l)<=a l+x.size)(s:AJ)(d:AR)(A:List AF)(u:AG):∀(n:Nat) (l:List Sl) (g:Gs),Bf a s d A u n l g
 |0,l,g=>Fr a b s d A u 0 (λm h=>absurd h om) _ l g (le_refl _)
 |n+1,l,g=>Fr a b s d A u (n+1) (λm h l g=>(Nat.succ.inj h)▸Ed a b s d A u n l g) _ l g (le_refl _)
def LQ(s:AJ)(d:AR)(A:List AF)(u:AG)(n:Nat)(l:List Sl)(g:Gs):qK d (fQ s d A u n l g)<=qK d g+aC Sl.size l/\(gA d (fQ s d A u n l g).met).length<=(gA d g.met).length:=
 Ed Dq (λx l=>Nat.le_trans (LP x l) (by have:=x.ay;omega)) s d A u n l g
def Hr(out:List AT):Nat:=aC (λg:AT=>aC Sl.size g.O) out
theorem LR{α:Type}(f:α->Nat)(x:α):∀l:List α,aC f (l++[x])=aC f l+f x
 |[]=>by simp[aC]
 |y::l=>by rw[cons_append,aC,aC,LR f x l];omega
def IW(x:Sl):∀l:List AT,Hr (kK x l)<=Hr l+x.size
 |[]=>by simp[kK,Hr,aC]
 |g::l=>by
  have E:=IW x l;rw[kK];unfold Hr at E ⊢;split
  ·simp only[aC,LR];omega
  ·simp only[aC];omega
def Hs(s:AJ)(d:AR)(A:List AF)(u:AG)(l:List Sl):Hr (bF s d A u l)<=aC Sl.size l+aC (λf:Af=>aC Sl.size f.O) d.aj:=by obtain⟨a,_⟩:=Ed Hr IW s d A u d.aj.length l ⟨[],[]⟩;unfold xI at a;rw[show gA d ([]:List AG)=d.aj from List.filter_eq_self.2 Wb]at a;have:Hr ([]:List AT)=0:=rfl;unfold bF;grind
def CC(Q:Sl->Prop)(out:List AT):Prop:=∀g∈out,g.O≠[]/\∀x∈g.O,Q x
def Ht{Q:Sl->Prop}{x:Sl}(hx:Q x):∀ {l:List AT},CC Q l->CC Q (kK x l)
 |[],_=>λg c=>by obtain rfl:=List.mem_singleton.1 c;simp_all
 |g::l,h=>by
  have c:=h g Wb;have E:=Ht hx (l:=l) λg' a=>h g' Ww
  rw[kK];split
  ·intro g' a;rcases List.mem_cons.1 a with rfl|a
   ·exact⟨Wb,λy b=>by
     rcases List.mem_append.1 b with b|b
     ·exact c.2 y b
     ·obtain rfl:=List.mem_singleton.1 b;exact hx⟩
   ·exact h g' Ww
  ·intro g' a;rcases List.mem_cons.1 a with rfl|a
   ·exact c
   ·exact E g' a
def Tg(s:AJ)(d:AR)(A:List AF)(u:AG)(Q:Sl->Prop)(hQ:∀x,Q x->∀y∈x.O,Q y)(hF:∀f∈d.aj,∀y∈f.O,Q y):∀(n N:Nat) (l:List Sl) (g:Gs),aC Sl.size l<=N->(∀x∈l,Q x)->CC Q g.out->CC Q (fQ s d A u n l g).out:=by
 intro n;induction n with
 |zero=>
  intro N;induction N with
  |zero=>intro l g h b a;cases l with
   |nil=>rw[fL];exact a
   |cons x l=>rw[aC]at h;have:=x.au;omega
  |succ N E=>intro l g h b a;cases l with
   |nil=>rw[fL];exact a
   |cons x l=>
    rw[aC]at h;have hx:=x.ay;rw[gD];refine E l _ om (λy i=>b y YC) ?_;have c:=Ht (b x Wb) a;have e:=E x.O g om (hQ x (b x Wb)) a;unfold jN;repeat' split
    all_goals first|exact a|exact c|exact e|(exfalso;omega)
 |succ n j=>
  intro N;induction N with
  |zero=>intro l g h b a;cases l with
   |nil=>rw[fL];exact a
   |cons x l=>rw[aC]at h;have:=x.au;omega
  |succ N E=>intro l g h b a;cases l with
   |nil=>rw[fL];exact a
   |cons x l=>
    rw[aC]at h;have hx:=x.ay;rw[gD];refine E l _ om (λy i=>b y YC) ?_;have c:=Ht (b x Wb) a;have e:=E x.O g om (hQ x (b x Wb)) a;unfold jN;by_cases k:iT A x.ar=false
    ·rw[if_pos k];exact a
    rw[if_neg k];by_cases m:x.kind=0
    ·rw[if_pos m];exact c
    rw[if_neg m];by_cases o:x.kind=1
    ·rw[if_pos o];by_cases p:x.name∈g.met
     ·rw[if_pos p];exact a
     rw[if_neg p];cases hf:iQ d x.name with
     |none=>exact a
     |some f=>
      dsimp only;split
      ·exact j _ f.O ⟨g.met++[x.name],g.out⟩ (le_refl _) (hF f (jJ hf).1) a
      ·exact a
    rw[if_neg o];split
    ·split
     ·exact e
     ·exact a
    ·exact a
def NF(s:AJ)(d:AR)(A:List AF)(u:AG)(Q:Sl->Prop)(hQ:∀x,Q x->∀y∈x.O,Q y)(hF:∀f∈d.aj,∀y∈f.O,Q y)(l:List Sl)(b:∀x∈l,Q x):CC Q (bF s d A u l):=
 Tg s d A u Q hQ hF _ _ l ⟨[],[]⟩ (le_refl _) b (λg a=>by cases a)
def LS(d:AR)(g:Gs):g.out.length<=qK d g/\∀x∈g.out,x.O.length<=qK d g:=by have a:=aJ (size:=λg:AT=>g.O.length+1) (λ_=>om) g.out;refine⟨by unfold qK xI Dq;omega,λx hx=> ?_⟩;have:=aN (size:=λg:AT=>g.O.length+1) hx;unfold qK xI Dq;omega
def U6:Af:=⟨[],[],[],[]⟩
def cM(d:AR)(name:AG):Af×Bool:=match iQ d name with
 |some f=>(f,true)
 |none=>(U6,false)
def IX{t1 t2:Tk}:AC (.agg [.str [], .str [], .slice [] t1, .slice [] t2]) U6.C:=
 AC.agg (AA.cons (aG _) (AA.cons (aG _) (AA.cons (AC.no (aB _)) (AA.cons (AC.no (aB _)) (aB _)))))
def aBK(name:AG)(f:Af):AN prog 171 [f.C, .ac (.str name)] (.bool (f.name==name)):=by refine AI.plain rfl Yu (aS [3] func171 ?_);refine .ae ?_;exact bY
def VO(d:AR)(name:AG)(c:d.aj.length<=68719476736):AN prog 101 [d.C, .str name] (.tup [(cM d name).1.C, .bool (cM d name).2]):=by
 have X:=Hp d.aj 171 [.ac (.str name)] (λf=>f.name==name) om rfl (λf _=>aBK name f);refine AI.plain Yu Yv (cE [.cell 4 120, .tmp 5] func101 ?_);unfold cM iQ;rcases eN (λf:Af=>f.name==name) d.aj 0 with⟨a,b⟩|⟨j,hj,a,b⟩
 ·rw[a]at X;rw[b];refine .ae ?_;exact aI rfl (AC.tup (AA.cons IX (aB _)))
 ·rw[a,zero_add]at X;rw[b];have x1:=aV (f:=Af.C) hj;refine .ae ?_;exact aO
def LT:∀l:List AG,xM (l.map λx=>(AV.str x,AV.bool true))=true
 |[]=>rfl
 |x::l=>by rw[map_cons,xM];exact LT l
theorem LU(k:AG):∀l:List AG,(vT k (l.map λx=>(AV.str x,AV.bool true))).getD (.bool false) = .bool (decide (k∈l))
 |[]=>by simp[vT]
 |x::l=>by
  rw[map_cons,vT];by_cases e:x=k
  ·simp_all
  ·rw[if_neg e,LU k l];grind
theorem O3{k:AG}:∀ {l:List AG},k∉l->Ci k (.bool true) (l.map λx=>(AV.str x,AV.bool true))=(l++[k]).map λx=>(AV.str x,AV.bool true)
 |[],_=>rfl
 |x::l,h=>by
  have a:x≠k:=λe=>h Z1
  rw[map_cons,Ci,if_neg a,O3 (l:=l) (λb=>h X9)];rfl
def LW{s:AJ}{f:FuncId}{R:Gs}(c:m.out.length<=R.out.length)
  (h:AI prog f args (mE s d A u m) (λe Y=>e = .ret (.tup [])/\Y.B.take 2=nE s d A u R.met R.out.length/\Y.T=iU R.out)):
  AI prog f args (mE s d A u m) (λe Y=>e = .ret (.tup [])/\Y=mE s d A u R):=by
 refine kQ (AI.mono h λe b a=>⟨.tup [],2,b.T.length,a.1,le_refl _, ?_,rfl, ?_, ?_,rfl, ?_⟩)
 ·rw[a.2.2,fA];show (iU m.out).length<=_;rw[fA];omega
 ·rw[a.2.1,a.2.2,fA];exact oR _ _ _ _ _ _ _ om
 ·rw[take_length,a.2.2];exact jI _ _
 ·rw[take_length,a.2.1,a.2.2];rfl
def U7(s:AJ)(d:AR)(A:List AF)(u:AG)(hs:s.size<=1048576)(y:d.aj.length<=1048576)(m R:Gs)(name:AG)(n:m.out.length<=R.out.length)
  (ha:name∈m.met->R=m) (hb:name∉m.met->(∀f,iQ d name=some f->kV s u f.on=false)->R=⟨m.met++[name],m.out⟩)
  (O:name∉m.met->∀f,iQ d name=some f->kV s u f.on=true->AI prog 32 [.ptr 1 0, .slice (f.O.map Sl.C) .no] (mE s d A u ⟨m.met++[name],m.out⟩) (λe Y=>e = .ret (.tup [])/\Y=mE s d A u R)):
  AI prog 75 [.ptr 1 0, .str name] (mE s d A u m) (λe Y=>e = .ret (.tup [])/\Y=mE s d A u R):=by
 have hf:=VO d name om;have g:=LU name m.met;have b:=LT m.met;have o:name∉m.met->∀(c:Ob) (B1:List Ob),List.set (.map (m.met.map λx=>(AV.str x,AV.bool true))::c::B1) 0 (.map (Ci name (.bool true) (m.met.map λx=>(AV.str x,AV.bool true)))) = .map ((m.met++[name]).map λx=>(AV.str x,AV.bool true))::c::B1:=λh c B1=>by rw[O3 h];rfl
 refine LW n (aS [] func75 ?_);unfold cM at hf;by_cases j:name∈m.met
 ·rw[decide_eq_true j]at g;rw[ha j];unfold mE nE pA
  repeat' first|refine .s1 ?_|(refine .q ?_ ?_<;>intro O)|refine b7 rfl ?_|refine Cj underlying113 underlying9 rfl rfl rfl rfl b g ?_|fail
  exact⟨rfl,rfl,rfl⟩
 rw[decide_eq_false j]at g;have a:=o j;cases i:iQ d name with
 |none=>
  rw[i]at hf;rw[hb j (λf hf=>by rw[i]at hf;cases hf)];unfold mE nE pA
  repeat' first|refine .s1 ?_|(refine .q ?_ ?_<;>intro O)|refine b7 rfl ?_|refine Cj underlying113 underlying9 rfl rfl rfl rfl b g ?_|refine vU underlying113 underlying9 rfl rfl rfl rfl b (a _ _) ?_|fail
  exact⟨rfl,rfl,rfl⟩
 |some f=>
  rw[i]at hf;dsimp only at hf;have k:=Hq s u f.on om;cases p:kV s u f.on with
  |false=>
   rw[p]at k;rw[hb j (λz l=>by rw[i]at l;cases l;exact p)];unfold mE nE pA
   repeat' first|refine .s1 ?_|(refine .q ?_ ?_<;>intro O)|refine b7 rfl ?_|refine Cj underlying113 underlying9 rfl rfl rfl rfl b g ?_|refine vU underlying113 underlying9 rfl rfl rfl rfl b (a _ _) ?_|fail
   exact⟨rfl,rfl,rfl⟩
  |true=>
   rw[p]at k;have ht:=O j f i p;have r:(iU m.out).length<=(iU R.out).length:=by rw[fA,fA];omega
   have t:=oR s d A u (m.met++[name]) m.out.length (iU m.out).length XG;have v:=oR s d A u R.met R.out.length (iU R.out).length XG;have w:aE 2 (iU m.out).length [.ptr 1 0, .slice (f.O.map Sl.C) .no]=true:=Yr
   unfold mE at ht ⊢;unfold nE pA
   repeat' first|refine .s1 ?_|(refine .q ?_ ?_<;>intro O)|refine b7 rfl ?_|refine Cj underlying113 underlying9 rfl rfl rfl rfl b g ?_|refine vU underlying113 underlying9 rfl rfl rfl rfl b (a _ _) ?_|refine dE rfl ht rfl rfl r t (jI _ _) v (jI _ _) w rfl (aB _) ?_|fail
   exact⟨rfl,rfl,rfl⟩
def Bh(s:AJ)(d:AR)(A:List AF)(u:AG)(n:Nat)(l:List Sl)(m:Gs):Prop:=
 (gA d m.met).length<=n->qK d m+aC Sl.size l<=68719476736->
  AI prog 32 [.ptr 1 0, .slice (l.map Sl.C) .no] (mE s d A u m) (λe Y=>e = .ret (.tup [])/\Y=mE s d A u (fQ s d A u n l m))
def Dr(s:AJ)(d:AR)(A:List AF)(u:AG):∀(n:Nat) (N:Nat) (l:List Sl) (g:Gs),aC Sl.size l<=N->g.out.length<=(fQ s d A u n l g).out.length:=by
 intro n;induction n with
 |zero=>
  intro N;induction N with
  |zero=>intro l g h;cases l with
   |nil=>rw[fL];exact le_refl _
   |cons x l=>rw[aC]at h;have:=x.au;omega
  |succ N E=>intro l g h;cases l with
   |nil=>rw[fL];exact le_refl _
   |cons x l=>
    rw[aC]at h;have hx:=x.ay;rw[gD];refine Nat.le_trans ?_ (E l _ om);have a:=xH x g.out;have b:=E x.O g om;unfold jN;repeat' split
    all_goals first|exact le_refl _|exact a|exact b|(exfalso;omega)
 |succ n c=>
  intro N;induction N with
  |zero=>intro l g h;cases l with
   |nil=>rw[fL];exact le_refl _
   |cons x l=>rw[aC]at h;have:=x.au;omega
  |succ N E=>intro l g h;cases l with
   |nil=>rw[fL];exact le_refl _
   |cons x l=>
    rw[aC]at h;have hx:=x.ay;rw[gD];refine Nat.le_trans ?_ (E l _ om);have a:=xH x g.out;have b:=E x.O g om;have h3:=λf:Af=>c _ f.O ⟨g.met++[x.name],g.out⟩ (le_refl _)
    unfold jN;by_cases e:iT A x.ar=false
    ·rw[if_pos e];exact le_refl _
    rw[if_neg e];by_cases i:x.kind=0
    ·rw[if_pos i];exact a
    rw[if_neg i];by_cases j:x.kind=1
    ·rw[if_pos j];by_cases k:x.name∈g.met
     ·rw[if_pos k];exact le_refl _
     rw[if_neg k];cases iQ d x.name with
     |none=>exact le_refl _
     |some f=>
      dsimp only;split
      ·exact h3 f
      ·exact le_refl _
    rw[if_neg j];split
    ·split
     ·exact b
     ·exact le_refl _
    ·exact le_refl _
def Qv{s:AJ}{n:Nat}(hk:x.kind=1)(a:iT A x.ar=true)(h:x.name∈m.met):jN s d A u n x m=m:=by grind[jN]
def NG{s:AJ}{n:Nat}(hk:x.kind=1)(a:iT A x.ar=true)(h:x.name∉m.met)(hf:∀f,iQ d x.name=some f->kV s u f.on=false):
  jN s d A u n x m=⟨m.met++[x.name],m.out⟩:=by grind[jN]
theorem NH{s:AJ}{n:Nat}(hk:x.kind=1)(a:iT A x.ar=true)(h:x.name∉m.met)(hf:iQ d x.name=some f)(ha:kV s u f.on=true):
  jN s d A u (n+1) x m=fQ s d A u n f.O ⟨m.met++[x.name],m.out⟩:=by grind[jN]
def NI(s:AJ)(d:AR)(A:List AF)(u:AG)(hs:s.size<=1048576)(g:d.aj.length<=1048576)(n:Nat)(j:∀k,n=k+1->∀l m,Bh s d A u k l m)
  (x:Sl) (m:Gs) (v:(gA d m.met).length<=n) (hp:qK d m+x.size<=68719476736) (hk:x.kind=1) (i:iT A x.ar=true):
  AI prog 75 [.ptr 1 0, .str x.name] (mE s d A u m) (λe Y=>e = .ret (.tup [])/\Y=mE s d A u (jN s d A u n x m)):=by
 have b:m.out.length<=(jN s d A u n x m).out.length:=by
  have:=Dr s d A u n (aC Sl.size [x]) [x] m (le_refl _)
  rwa [gD,fL]at this
 refine U7 s d A u hs g m _ x.name b (λh=>Qv hk i h) (λh hf=>NG hk i h hf) (λh f hf c=> ?_);obtain⟨o,a⟩:=jJ hf;have p:=Ec d m.met o (by rw[a];exact h);have q:=uU d m.met o (by rw[a];exact h) (λf:Af=>aC Sl.size f.O);rw[a]at p q;have r:qK d m=Dq m.out+aC (λf:Af=>aC Sl.size f.O) (gA d m.met):=rfl;have t:qK d ⟨m.met++[x.name],m.out⟩=Dq m.out+aC (λf:Af=>aC Sl.size f.O) (gA d (m.met++[x.name])):=rfl;cases n with
 |zero=>omega
 |succ k=>rw[NH hk i h hf c];exact j k rfl f.O ⟨m.met++[x.name],m.out⟩ Wg om
def NJ(s:AJ)(d:AR)(A:List AF)(u:AG)(hs:s.size<=1048576)(z:d.aj.length<=1048576)(he:A.length<=1048576)(n:Nat)(a3:∀k,n=k+1->∀l m,Bh s d A u k l m):
  ∀(N:Nat) (l:List Sl) (m:Gs),aC Sl.size l<=N->Bh s d A u n l m
 |N,l,m,hN=>λhu hp=>by
  have ak:=aJ Sl.au l;refine LW (Dr s d A u n _ l m (le_refl _)) (aS [] func32 ?_);refine .go ?_;change AB _ _ _ _ _ _ _;refine FP (λn' s' H=>∃k:Nat,n'= l.length-k/\k<=l.length/\H=mE s d A u (fQ s d A u n (l.take k) m)/\s'= [(8, .int .i64 k),(7, .int .i64 l.length),(6, .slice (l.map Sl.C) .no),(0, .ptr 1 0)])
   (s0:=[(8, .int .i64 (0:Nat)),(7, .int .i64 l.length),(6, .slice (l.map Sl.C) .no),(0, .ptr 1 0)]) Z9 ⟨0,rfl,Nat.zero_le _,by rw[List.take_zero,fL],rfl⟩ ?_
  rintro n' s' H ⟨k,rfl,hk,rfl,rfl⟩;by_cases h1:k<l.length
  ·have d1:decide ((k:Int)<(l.length:Int))=true:=by simp[h1]
   have x1:=aV (f:=Sl.C) h1;have o:=ND s d A u n h1 m;obtain⟨p1,p2⟩:=LQ s d A u n (l.take k) m;have am:=gK (f:=Sl.size) h1;have al:=fK Sl.size l (k+1);have a1:=Dr s d A u n _ [l[k]] (fQ s d A u n (l.take k) m) (le_refl _);rw[gD,fL, <-o]at a1;generalize ab:fQ s d A u n (l.take k) m=st at *;generalize a7:fQ s d A u n (l.take (k+1)) m=R at *;have an:=l[k].ay;have aj:aC Sl.size l[k].O<N:=om
   have a8:Bh s d A u n l[k].O st:=NJ s d A u hs z he n a3 (N-1) l[k].O st om;have t:=NI s d A u hs z n a3 l[k] st om om;have ah:=aJ (size:=AO.size) (λd=>X4) l[k].ar;generalize l[k]=x at *;have a0:=Te A x.ar om om;obtain⟨o1,o2⟩:=LS d st;have a:=aBJ s d A u st x om (λg hg=>by have:=o2 g hg;omega);have j:=Hq s u x.on om;have e:(iU st.out).length<=(iU R.out).length:=by rw[fA,fA];omega
   have p:=oR s d A u st.met st.out.length (iU st.out).length XG;have h:=oR s d A u R.met R.out.length (iU R.out).length XG;have fin:∀(B1:List Ob) (s1:AE),Av.Sub [(8, .int .i64 ((k+1:Nat):Int)),(7, .int .i64 l.length),(6, .slice (l.map Sl.C) .no),(0, .ptr 1 0)] s1->
     ∃m', m'< l.length-k/\∃s2 nB mT,(mE s d A u st).B.length<=nB/\(mE s d A u st).T.length<=mT/\Av.Sub s2 s1/\aM nB mT s2=true/\aQ nB mT ((nE s d A u R.met R.out.length++B1).take nB)=true/\aL nB mT ((iU R.out).take mT)=true/\
      ∃k': Nat,m'= l.length-k'/\ k'<= l.length/\(⟨(nE s d A u R.met R.out.length++B1).take nB,(iU R.out).take mT⟩:St)=mE s d A u (fQ s d A u n (l.take k') m)/\s2=[(8, .int .i64 k'),(7, .int .i64 l.length),(6, .slice (l.map Sl.C) .no),(0, .ptr 1 0)]:=λB1 s1 a2=>by
    refine⟨l.length-(k+1),om,_,2,(iU R.out).length,le_refl _,e,a2,Wj,h,by rw[take_length];exact jI _ _,k+1,rfl,om, ?_,rfl⟩;rw[take_length,a7];rfl
   cases i:iT A x.ar with
   |false=>
    rw[i]at a0;have c:R=st:=by rw[o];unfold jN;rw[if_pos i]
    subst c;unfold mE nE pA;repeat' first|refine .s1 ?_|(refine .q ?_ ?_<;>intro O)|refine b7 rfl ?_|fail
    exact fin _ _ Z9
   |true=>
    rw[i]at a0;by_cases v:x.kind=0
    ·have e1:(x.kind==0)=true:=by rw[v];rfl
     have c:R=⟨st.met,kK x st.out⟩:=by rw[o];unfold jN;rw[if_neg YC,if_pos v]
     rw[<-c]at a;have b:aE 2 (iU st.out).length [.ptr 1 0,x.C]=true:=Yr
     unfold mE at a ⊢;unfold nE pA;repeat' first|refine .s1 ?_|(refine .q ?_ ?_<;>intro O)|refine b7 rfl ?_|refine dE rfl a rfl rfl e p (jI _ _) h (jI _ _) b rfl (aB _) ?_|fail
     exact fin _ _ Z9
    have e1:(x.kind==0)=false:=by simpa using v
    by_cases w:x.kind=1
    ·have e2:(x.kind==1)=true:=by rw[w];rfl
     have r:=t w i;rw[<-o]at r;have b:aE 2 (iU st.out).length [.ptr 1 0, .str x.name]=true:=Yr
     unfold mE at r ⊢;unfold nE pA;repeat' first|refine .s1 ?_|(refine .q ?_ ?_<;>intro O)|refine b7 rfl ?_|refine dE rfl r rfl rfl e p (jI _ _) h (jI _ _) b rfl (aB _) ?_|fail
     exact fin _ _ Z9
    have e2:(x.kind==1)=false:=by simpa using w
    by_cases y:x.kind=2
    ·have e3:(x.kind==2)=true:=by rw[y];rfl
     cases c4:kV s u x.on with
     |true=>
      rw[c4]at j;have c:R=fQ s d A u n x.O st:=by rw[o];unfold jN;rw[if_neg YC,if_neg v,if_neg w,if_pos y,if_pos c4]
      have ht:=a8 om om;rw[<-c, <-x.bc]at ht;have b:aE 2 (iU st.out).length [.ptr 1 0, .slice x.sv .no]=true:=Yr
      unfold mE at ht ⊢;unfold nE pA;repeat' first|refine .s1 ?_|(refine .q ?_ ?_<;>intro O)|refine b7 rfl ?_|refine dE rfl ht rfl rfl e p (jI _ _) h (jI _ _) b rfl (aB _) ?_|fail
      exact fin _ _ Z9
     |false=>
      rw[c4]at j;have c:R=st:=by rw[o];unfold jN;rw[if_neg YC,if_neg v,if_neg w,if_pos y,if_neg (by simp[c4])]
      subst c;unfold mE nE pA;repeat' first|refine .s1 ?_|(refine .q ?_ ?_<;>intro O)|refine b7 rfl ?_|fail
      exact fin _ _ Z9
    ·have e3:(x.kind==2)=false:=by simpa using y
     have c:R=st:=by rw[o];unfold jN;rw[if_neg YC,if_neg v,if_neg w,if_neg y]
     subst c;unfold mE nE pA;repeat' first|refine .s1 ?_|(refine .q ?_ ?_<;>intro O)|refine b7 rfl ?_|fail
     exact fin _ _ Z9
  ·have d1:decide ((k:Int)<(l.length:Int))=false:=by simp;omega
   obtain rfl:k=l.length:=om
   rw[take_length];unfold mE nE pA;refine .go ?_;exact⟨rfl,rfl,rfl⟩
termination_by N=>N
def LX(s:AJ)(d:AR)(A:List AF)(u:AG)(hs:s.size<=1048576)(a:d.aj.length<=1048576)(he:A.length<=1048576):∀(n:Nat) (l:List Sl) (m:Gs),Bh s d A u n l m
 |0,l,m=>NJ s d A u hs a he 0 (λk h=>om) _ l m (le_refl _)
 |n+1,l,m=>NJ s d A u hs a he (n+1) (λk h l m=>by obtain rfl:n=k:=om;exact LX s d A u hs a he n l m) _ l m (le_refl _)
def O4(B:List Ob)(v:AV):∀(done C:List AT),
  AK ⟨B, .aa (done.map AT.C++cU done.length C)::(done.map (λg=>Tok.len (g.O.length+1))++C.map λg=>Tok.aa (g.O.map Sl.C))⟩ v
   ⟨B, .aa ((done++C).map AT.C)::(done++C).map (λg=>Tok.len (g.O.length+1))⟩ v
 |done,[]=>by
  rw[cU,List.map_nil,append_nil,append_nil,append_nil]
  exact eM _ _
 |done,g::C=>by
  have E:=O4 B v (done++[g]) C
  refine AK.trans ?_ (by rw[List.append_assoc]at E;exact E)
  have a:(done.map AT.C).length=done.length:=length_map _
  have b:(done.map (λg=>Tok.len (g.O.length+1))).length=done.length:=length_map _
  have hx:(done.map AT.C++cU done.length (g::C))[done.length]? =some (Cc done.length g):=by
   rw[List.getElem?_append_right om,a,sub_self,cU];rfl
  have ht:(Tok.aa (done.map AT.C++cU done.length (g::C))::(done.map (λg=>Tok.len (g.O.length+1))++(g::C).map λg=>Tok.aa (g.O.map Sl.C)))[done.length+1]? =some (.aa (g.O.map Sl.C)):=by
   rw[List.getElem?_cons_succ,List.getElem?_append_right om,b,sub_self];rfl
  have d:=cA (H:=⟨B,Tok.aa (done.map AT.C++cU done.length (g::C))::(done.map (λg=>Tok.len (g.O.length+1))++(g::C).map λg=>Tok.aa (g.O.map Sl.C))⟩)
   (k:=done.length+1) (z:=7) (n:=g.O.length) (lo:=0) (X:=g.O.length) ht (length_map _) (gJ Wb)
  rw[drop_zero,List.take_of_length_le Wb]at d
  have e:=cV (z0:=v) (k:=0) (i:=done.length) (c:=1) rfl hx rfl d rfl (gJ Wb)
  have e1:∀(n:Nat) (y:AV),(done.map AT.C++cU n (g::C)).set done.length y=done.map AT.C++(y::cU (n+1) C):=λn y=>by
   rw[List.set_append,if_neg om,a,sub_self,cU];rfl
  have f:∀(y:Tok),(done.map (λg=>Tok.len (g.O.length+1))++(g::C).map λg=>Tok.aa (g.O.map Sl.C)).set done.length y=done.map (λg=>Tok.len (g.O.length+1))++(y::C.map λg=>Tok.aa (g.O.map Sl.C)):=λy=>by
   rw[List.set_append,if_neg om,b,sub_self]
   rfl
  rw[List.set_cons_succ,f,List.set_cons_zero,e1]at e
  rw[map_append,map_append,List.append_assoc,List.append_assoc,length_append]
  exact e
def O5(s:AJ)(d:AR)(A:List AF)(u:AG)(l:List Sl)(hs:s.size<=1048576)(o:aC (λf:Af=>aC Sl.size f.O) d.aj+aC Sl.size l<=68719476736)(i:d.aj.length<=1048576)(he:A.length<=1048576):
  AN prog 8 [s.C,d.C, .slice (A.map AF.C) .no, .str u, .slice (l.map Sl.C) .no] (.slice ((bF s d A u l).map AT.C) .no):=by
 have c:=LX s d A u hs i he d.aj.length l ⟨[],[]⟩ (List.length_filter_le _ _) (by
  have:qK d ⟨[],[]⟩=aC (λf:Af=>aC Sl.size f.O) d.aj:=by unfold qK xI;rw[show gA d []=d.aj from List.filter_eq_self.2 Wb];simp[Dq,aC]
  omega)
 unfold bF;have b:(iU ([]:List AT)).length<=(iU (fQ s d A u d.aj.length l ⟨[],[]⟩).out).length:=by rw[fA,fA];simp
 generalize fQ s d A u d.aj.length l ⟨[],[]⟩=R at *
 have e:=oR s d A u [] 0 (iU []).length XG;have h:=oR s d A u R.met R.out.length (iU R.out).length XG;have m:aE 2 (iU []).length [.ptr 1 0, .slice (l.map Sl.C) .no]=true:=Yr
 unfold mE at c;have j:=O4 (nE s d A u R.met R.out.length++[]) (.aa 0 2 R.out.length 0 R.out.length) [] R.out;have a:=cA (H:=⟨nE s d A u R.met R.out.length++[], .aa (R.out.map AT.C)::R.out.map (λg=>Tok.len (g.O.length+1))⟩) (k:=0) (z:=2) (n:=R.out.length) (lo:=0) (X:=R.out.length) rfl (length_map _) rfl;rw[drop_zero,List.take_of_length_le Wb]at a;refine jF Xa YP (aS [10] func8 ?_)
 repeat' first|refine AD.bx (v := .agg [_,_,_,_,_,_,_,_, .map 0]) ?_|refine .br ?_|refine fV 1 7 rfl rfl (kA (z:=2) rfl rfl rfl) rfl ?_|refine .s1 ?_|(refine .q ?_ ?_<;>intro O)|refine Pf rfl rfl ?_|refine b7 rfl ?_|refine dE (B:=[]) rfl c rfl rfl b e (jI _ _) h (jI _ _) m rfl (aB _) ?_|fail
 exact⟨_,_,rfl,AK.trans j a⟩
def Th(l:List Sl)(r:aC Sl.size l<=68719476736):AN prog 64 [.slice (l.map Sl.C) .no] (.slice ((bO l).map Sl.C) .no):=by
 have h:=aJ Sl.au l;have c:∀k,k<=l.length->(bO (l.take k)).length<=aC Sl.size (l.take k):=λk _=>by
  generalize l.take k=q;induction q with
  |nil=>simp[bO,aC]
  |cons x q E=>
   have b:=aJ Sl.au x.O;have p:=x.ay;have h3:bO (x::q)=x.O++bO q:=by simp[bO]
   rw[h3,length_append,aC];omega
 refine AI.plain (by simp[AV.K,aZ]) (by simp[AV.K,aA,aZ]) (aS [2] func64 ?_);refine .go ?_;change AB _ _ _ _ _ _ _;refine eX 3 true 7 rfl rfl rfl rfl rfl rfl ?_;refine bK l.length (λk=>[(8, .int .i64 k),(7, .int .i64 l.length),(6, .slice (l.map Sl.C) .no),(3, .slice ((bO (l.take k)).map Sl.C) (.own 0 7))]) (λk=>⟨[],[.len (bO (l.take k)).length]⟩) (λ_=>True) Z9 rfl trivial λk hk _=> ?_
 by_cases b:k<l.length
 ·have e:decide ((k:Int)<(l.length:Int))=true:=by simp[b]
  have x1:=aV (f:=Sl.C) b;have hb:bO (l.take (k+1))=bO (l.take k)++l[k].O:=by rw[List.take_succ_eq_append_getElem b];unfold bO;rw[List.flatMap_append,List.flatMap_cons,List.flatMap_nil,append_nil]
  have g:=c k om;have m:=fK Sl.size l k;have o:=aN (size:=Sl.size) (getElem_mem b);have j:=aJ Sl.au l[k].O;have i:=l[k].ay;have a:=l[k].cj;have d:=l[k].bc;generalize l[k]=x at *
  repeat' first|refine .s1 ?_|(refine .q ?_ ?_<;>intro O)|refine bW (n:=(bO (l.take k)).length) rfl rfl rfl rfl rfl rfl rfl rfl (length_map _) (by rw[d];exact FX _) (by rw[a];dsimp only;omega) Zs rfl ?_|fail
  refine⟨b,⟨rfl,rfl,rfl, ?_,trivial⟩,WV,WO, ?_,trivial⟩
  ·rw[hb,map_append, <-d];rfl
  ·rw[hb,length_append, <-a];rfl
 ·have e:decide ((k:Int)<(l.length:Int))=false:=by simp;omega
  obtain rfl:k=l.length:=om
  rw[take_length];refine .go ?_;exact aP rfl (AC.no (aB _))
def mkE(s:AJ)(wr within:Bool)(A:List AF):AV := .agg [.slice (s.ai.map Ah.C) .no, .str s.query, .str s.av, .bool wr, .bool within, .slice (A.map AF.C) .no]
theorem eC(s:AJ)(wr within:Bool)(A:List AF):(mkE s wr within A).K=true:=by simp[mkE,AV.K,aA,iS,aR]
def VE.C(x:AH×Int):AV := .tup [x.1.C, .int .i64 x.2]
theorem VE.K(x:AH×Int):(VE.C x).K=true:=by simp[VE.C,AV.K,aA,AH.K]
def bQ{e:Int}{t1 t2:Tk}:AC (.tup [.agg [.int .i64 0, .int .i64 0, .str [], .slice [] t1, .slice [] t2], .int .i64 e]) (VE.C (bP,e)):=AC.tup (AA.cons cF (aB _))
theorem kC(name:AG):∀A:List AF,bT name A=match oI A name with|some x=>(x,true)|none=>(bP,false)
 |[]=>rfl
 |m::l=>by
  have E:=kC name l
  unfold oI at E ⊢
  rw[bT,find?_cons]
  cases c:m.name==name with
  |true=>simp
  |false=>simp only[Bool.false_eq_true,if_false];exact E
def Ti(s:AJ)(wr within:Bool)(A:List AF)(v:AH)(he:A.length<=9223372036854775807):AN prog 291 [mkE s wr within A,v.C] (.bool (fS wr A v)):=by
 have c:=get v.s A he;rw[kC]at c;refine AI.plain rfl (by simp[AV.K,aA,eC,AH.K]) (aS [4] func291 ?_);unfold fS;cases wr with
 |false=>refine .ae ?_;exact bY
 |true=>
  by_cases b:v.kind=8
  ·have e:(v.kind != 8)=false:=by simp[b]
   have a:(v.kind==8)=true:=X9
   rw[a];cases d:oI A v.s with
   |none=>rw[d]at c;refine .ae ?_;exact bY
   |some x=>rw[d]at c;refine .ae ?_;exact bY
  ·have e:(v.kind != 8)=true:=by simp[b]
   have a:(v.kind==8)=false:=X9
   rw[a];refine .ae ?_;exact bY
def U8(name:AG)(v:AH)(h0 : -9223372036854775808<=v.n)(w:v.n<=9223372036854775807):AN prog 333 [.str name,v.C] (VE.C (oX name v)):=by
 have X:=IK v.n h0 w;have ht:=MV (Lib.itoa v.n);refine AI.plain (VE.K _) W3 (cE [.cell 4 43, .tmp 5] func333 ?_);unfold oX;have x:∀ {b c d e:Bool},True:=trivial;by_cases f:v.kind=2
 ·have y:(v.kind==2)=true:=by simp[f]
  have u:(v.kind==1)=false:=by simp[f]
  have t:(v.kind==4)=false:=by simp[f]
  by_cases i:name=C9
  ·have j:(name==[73,110,116])=true:=by rw[i];rfl
   have m:(name==[73,68])=false:=Ya
   by_cases hr:v.n < -2147483648
   ·have z:decide (v.n < -2147483648)=true:=decide_eq_true hr;rw[if_pos ⟨i,f, .inl hr⟩];refine .ae ?_;exact aI rfl bQ
   ·have z:decide (v.n < -2147483648)=false:=decide_eq_false hr;by_cases g:2147483647<v.n
    ·have r2:decide (2147483647<v.n)=true:=decide_eq_true g;rw[if_pos ⟨i,f, .inr g⟩];refine .ae ?_;exact aI rfl bQ
    ·have r2:decide (2147483647<v.n)=false:=decide_eq_false g;rw[if_neg (λh=>h.2.2.elim hr g),if_neg (λh=>by rw[i]at h;exact absurd h.1 Wd),if_pos (.inl ⟨i,f⟩)];refine .ae ?_;exact aO
  ·have j:(name==[73,110,116])=false:=by simpa [C9]using i
   rw[if_neg (λh=>i h.1)];by_cases a:name=sID
   ·have k:(name==[73,68])=true:=by rw[a];rfl
    rw[if_pos ⟨a,f⟩];refine .ae ?_;exact aO
   ·have k:(name==[73,68])=false:=by simpa [sID]using a
    rw[if_neg (λh=>a h.1),if_neg (by rintro (h|h|h)<;>first|exact i h.1|omega)];cases b4:(name==[66,111,111,108,101,97,110])<;>cases p:(name==[83,116,114,105,110,103])
    all_goals
     refine .ae ?_;exact aI rfl bQ
 ·have y:(v.kind==2)=false:=by simp[f]
  rw[if_neg (λh=>f h.2.1),if_neg (λh=>f h.2)];by_cases q:v.kind=1
  ·have u:(v.kind==1)=true:=by simp[q]
   have t:(v.kind==4)=false:=by simp[q]
   by_cases o:name=g7
   ·have j:(name==[73,110,116])=false:=by rw[o];rfl
    have m:(name==[66,111,111,108,101,97,110])=true:=by rw[o];rfl
    have k:(name==[73,68])=false:=by rw[o];rfl
    rw[if_pos (.inr (.inl ⟨o,q⟩))];refine .ae ?_;exact aO
   ·have m:(name==[66,111,111,108,101,97,110])=false:=by simpa [g7]using o
    rw[if_neg (by rintro (h|h|h)<;>first|exact o h.1|omega)];cases j:(name==[73,110,116])<;>cases k:(name==[73,68])<;>cases p:(name==[83,116,114,105,110,103])
    all_goals
     refine .ae ?_;exact aI rfl bQ
  ·have u:(v.kind==1)=false:=by simp[q]
   by_cases r:v.kind=4
   ·have t:(v.kind==4)=true:=by simp[r]
    by_cases l:name=dC
    ·have j:(name==[73,110,116])=false:=by rw[l];rfl
     have m:(name==[66,111,111,108,101,97,110])=false:=by rw[l];rfl
     have k:(name==[73,68])=false:=by rw[l];rfl
     have p:(name==[83,116,114,105,110,103])=true:=by rw[l];rfl
     rw[if_pos (.inr (.inr ⟨.inl l,r⟩))];refine .ae ?_;exact aO
    ·have p:(name==[83,116,114,105,110,103])=false:=by simpa [dC]using l
     by_cases a:name=sID
     ·have j:(name==[73,110,116])=false:=by rw[a];rfl
      have m:(name==[66,111,111,108,101,97,110])=false:=WQ
      have k:(name==[73,68])=true:=WQ
      rw[if_pos (.inr (.inr ⟨.inr a,r⟩))];refine .ae ?_;exact aO
     ·have k:(name==[73,68])=false:=by simpa [sID]using a
      rw[if_neg (by rintro (h|h|h)<;>first|exact h.1.elim l a|omega)];cases j:(name==[73,110,116])<;>cases m:(name==[66,111,111,108,101,97,110])
      all_goals
       refine .ae ?_;exact aI rfl bQ
   ·have t:(v.kind==4)=false:=by simp[r]
    rw[if_neg om];cases j:(name==[73,110,116])<;>cases m:(name==[66,111,111,108,101,97,110])<;>cases k:(name==[73,68])<;>cases p:(name==[83,116,114,105,110,103])
    all_goals
     refine .ae ?_;exact aI rfl bQ
def aDN(s:AJ)(wr within:Bool)(A:List AF)(d:Ah)(v:AH)(b:d.ax.length<=9223372036854775807):AN prog 334 [mkE s wr within A,d.C,v.C] (VE.C (uJ wr d v.kind v.s)):=by
 have O:=gN d.ax v.s b;have ht:=MV v.s;refine AI.plain (VE.K _) Zf (cE [.cell 6 43, .tmp 7] func334 ?_);unfold uJ;by_cases a:v.s∈d.ax
 ·rw[decide_eq_true a]at O;cases wr with
  |true=>
   by_cases k:v.kind=5
   ·have q:(v.kind != 5)=false:=by simp[k]
    rw[if_pos ⟨by rw[if_pos rfl];exact k,a⟩];refine .ae ?_;exact aO
   ·have q:(v.kind != 5)=true:=by simp[k]
    rw[if_neg (λh=>k (by have:=h.1;rwa [if_pos rfl]at this))];refine .ae ?_;exact aI rfl bQ
  |false=>
   by_cases k:v.kind=4
   ·have q:(v.kind != 4)=false:=by simp[k]
    rw[if_pos ⟨by rw[if_neg Wd];exact k,a⟩];refine .ae ?_;exact aO
   ·have q:(v.kind != 4)=true:=by simp[k]
    rw[if_neg (λh=>k (by have:=h.1;rwa [if_neg Wd]at this))];refine .ae ?_;exact aI rfl bQ
 ·rw[decide_eq_false a]at O;rw[if_neg (λh=>a h.2)];cases wr with
  |true=>
   cases q:(v.kind != 5)
   all_goals
    refine .ae ?_;exact aI rfl bQ
  |false=>
   cases q:(v.kind != 4)
   all_goals
    refine .ae ?_;exact aI rfl bQ
theorem uV(s:AJ)(wr:Bool)(A:List AF)(dfl:AP->VE)(nm:AG):∀m:List AF,zZ (mkM s wr A dfl m) nm=(m.find? λx=>x.name==nm).map λx=>(x.name,x.v,λt=>qG s wr A dfl t x.v)
 |[]=>by rw[mkM];rfl
 | .mk n v::m=>by
  have E:=uV s wr A dfl nm m
  unfold zZ at E ⊢
  rw[mkM,find?_cons,find?_cons]
  show (match n==nm with|true=>_|false=>_)=Option.map _ (match n==nm with|true=>_|false=>_)
  cases n==nm with
  |true=>rfl
  |false=>exact E
def LY(s:AJ)(within:Bool)(dfl:AP->VE)(p:AP):AH×Bool×Int:=
 if p.has=true/\(within=false\/dT s p.t.name=true) then ((dfl p).1,true,(dfl p).2) else if isT p.t=true then (bP,false,9) else (bP,false,0)
theorem Hu{s:AJ}{within:Bool}{g:List AF}{dfl D:AP->VE}{p:AP}(h:oI g p.name=none):o8 s wr within A D (mkM s wr A dfl g) p=LY s within D p:=by unfold o8 LY;rw[uV];unfold oI at h;rw[Option.map_eq_none_iff]at h;rw[h];rfl
theorem Hv{s:AJ}{within:Bool}{g:List AF}{dfl D:AP->VE}{p:AP}{x:AH}(h:oI g p.name=some x):o8 s wr within A D (mkM s wr A dfl g) p=if fS wr A x=true then ((qG s wr A dfl p.t x).1,true,(qG s wr A dfl p.t x).2) else LY s within D p:=by
 unfold o8 LY;rw[uV];unfold oI at h;rw[Option.map_eq_some_iff]at h;obtain⟨m,a,rfl⟩:=h;rw[a];simp only[Option.map_some,Option.bind_some];by_cases c:fS wr A m.v=true
 ·rw[if_pos c,if_pos c]
 ·rw[if_neg c,if_neg c]
def M3.C(x:AH×Bool×Int):AV := .tup [x.1.C, .bool x.2.1, .int .i64 x.2.2]
theorem M3.K(x:AH×Bool×Int):(M3.C x).K=true:=by simp[M3.C,AV.K,aA,AH.K]
def yG{b:Bool}{e:Int}{t1 t2:Tk}:AC (.tup [.agg [.int .i64 0, .int .i64 0, .str [], .slice [] t1, .slice [] t2], .bool b, .int .i64 e]) (M3.C (bP,b,e)):=AC.tup (AA.cons cF (aB _))
def Ds(s:AJ)(t:Tk):AC (.agg [.slice (s.ai.map Ah.C) .no, .str s.query, .str s.av, .bool true, .bool false, .slice [] t]) (mkE s true false []):=
 AC.agg (AA.cons (aG _) (AA.cons (aG _) (AA.cons (aG _) (AA.cons (aG _) (AA.cons (aG _) (AA.cons (AC.no (aB _)) (aB _)))))))
def O6(s:AJ)(hs:s.size<=68719476736)(wr within:Bool)(A g:List AF)(dfl D:AP->VE)(p:AP)(he:A.length<=68719476736)(z:g.length<=68719476736)(hp:p.t.name.length<=68719476736)
  (y:∀x∈g,AN prog 292 [mkE s wr within A,p.t.C,x.v.C] (VE.C (qG s wr A dfl p.t x.v)))
  (k:p.has=true->(within=false\/dT s p.t.name=true)->AN prog 292 [mkE s true false [],p.t.C,p.d.C] (VE.C (D p))):
  AN prog 244 [mkE s wr within A,p.C, .slice (g.map AF.C) .no] (M3.C (o8 s wr within A D (mkM s wr A dfl g) p)):=by
 have o:=get p.name g om;have b:=SO s p.t.name hs;have X:=wIs p.t om;rw[kC]at o;refine AI.plain (M3.K _) (by simp[AV.K,aA,eC,AP.K,aR]) (cE [.cell 6 43, .tmp 7, .tmp 8] func244 ?_);cases h:oI g p.name with
 |none=>
  rw[Hu h];rw[h]at o;unfold LY;cases i:p.has with
  |false=>
   rw[if_neg Wb];cases f:isT p.t<;>rw[f]at X
   all_goals
    refine .ae ?_;exact aI rfl yG
  |true=>
   cases within with
   |false=>
    rw[if_pos ⟨rfl, .inl rfl⟩];have a:=k i (.inl rfl);generalize D p=r at a;obtain⟨n,l⟩:=r;unfold VE.C at a;simp only at a
    repeat' first|refine .br ?_|refine .s1 ?_|(refine .q ?_ ?_<;>intro O)|refine aH rfl a (AA.cons (Ds s _) (aB _)) ?_|fail
    exact aO
   |true=>
    cases e:dT s p.t.name with
    |true=>
     rw[e]at b;rw[if_pos ⟨rfl, .inr rfl⟩];have a:=k i (.inr e);generalize D p=r at a;obtain⟨n,l⟩:=r;unfold VE.C at a;simp only at a
     repeat' first|refine .br ?_|refine .s1 ?_|(refine .q ?_ ?_<;>intro O)|refine aH rfl a (AA.cons (Ds s _) (aB _)) ?_|fail
     exact aO
    |false=>
     rw[e]at b;rw[if_neg Wb];cases f:isT p.t<;>rw[f]at X
     all_goals
      refine .ae ?_;exact aI rfl yG
 |some x=>
  rw[Hv h];rw[h]at o;have j:=Ti s wr within A x om;cases c:fS wr A x with
  |true=>
   rw[c]at j;rw[if_pos rfl];have hx:∃m∈g,m.v=x:=by unfold oI at h;rw[Option.map_eq_some_iff]at h;obtain⟨m,u,w⟩:=h;exact⟨m,List.mem_of_find?_eq_some u,w⟩
   obtain⟨m,hm,rfl⟩:=hx;have ha:=y m hm;generalize qG s wr A dfl p.t m.v=r at ha;obtain⟨n,l⟩:=r;unfold VE.C at ha;simp only at ha;refine .ae ?_;exact aO
  |false=>
   rw[c]at j;rw[if_neg Wd];unfold LY;cases i:p.has with
   |false=>
    rw[if_neg Wb];cases f:isT p.t<;>rw[f]at X
    all_goals
     refine .ae ?_;exact aI rfl yG
   |true=>
    cases within with
    |false=>
     rw[if_pos ⟨rfl, .inl rfl⟩];have a:=k i (.inl rfl);generalize D p=r at a;obtain⟨n,l⟩:=r;unfold VE.C at a;simp only at a
     repeat' first|refine .br ?_|refine .s1 ?_|(refine .q ?_ ?_<;>intro O)|refine aH rfl a (AA.cons (Ds s _) (aB _)) ?_|fail
     exact aO
    |true=>
     cases e:dT s p.t.name with
     |true=>
      rw[e]at b;rw[if_pos ⟨rfl, .inr rfl⟩];have a:=k i (.inr e);generalize D p=r at a;obtain⟨n,l⟩:=r;unfold VE.C at a;simp only at a
      repeat' first|refine .br ?_|refine .s1 ?_|(refine .q ?_ ?_<;>intro O)|refine aH rfl a (AA.cons (Ds s _) (aB _)) ?_|fail
      exact aO
     |false=>
      rw[e]at b;rw[if_neg Wb];cases f:isT p.t<;>rw[f]at X
      all_goals
       refine .ae ?_;exact aI rfl yG
end Go.Proofs.YtimbiifcnhgcoaaGreatDoor
