/- Joined texts. -/
import Derived.Test.YtimbiifcnhgcoaaGreatDoorGEvK17
set_option maxRecDepth 100000
set_option maxHeartbeats 16000000
set_option linter.all false
open List (append_nil length_append length_map map_append map_map take_length)
open Nat (le_refl zero_le)
open Bool (and_eq_true)
open Go Go.Av Go.Proofs.YtimbiifcnhgcoaaGreatDoor Go.Proofs.Tryz
variable{α:Type}{u:AG}{d:AR}{l:List Sl}{N:Nat}
namespace Go.Proofs.YtimbiifcnhgcoaaGreatDoor
open Go Go.Av Go.Proofs.Tryz
attribute [local irreducible] AB AD AN AI Av.AU AZ
def C2(s:AJ)(u name:AG)(hs:s.size<=1048576):AN prog 91 [s.C, .str u, .str name] (.tup [(aK s u name).1.C, .bool (aK s u name).2]):=by
 have e:=EQ s u hs;have hF:=zK s u hs;have q:=(g9 (name:=u) (show s.size<=68719476736 by omega)).2.2.2.1;have e1 := @I1 s u name;have n := @I2 s u name;have o := @I3 s u name;refine AI.plain WH Wn (cE [.cell 6 139, .tmp 7] func91 ?_);by_cases c:name=aY/\g8 s u=true
 ·obtain⟨a,i⟩:=c;rw[e1 a i];subst a;rw[i]at e;have l:(aY==[95,95,116,121,112,101,110,97,109,101])=true:=by decide
  refine .ae ?_;refine aI rfl ?_;exact AC.tup (AA.cons gX (aB _))
 have hn:(name==[95,95,116,121,112,101,110,97,109,101])=true->g8 s u=false:=λhx=>by
  have:name=aY:=by unfold aY;simpa using hx
  cases g:g8 s u with
  |false=>rfl
  |true=>exact absurd ⟨this,g⟩ c
 by_cases k:(bN s u).1.kind=1\/(bN s u).1.kind=2
 ·rw[o c k];have t:((bN s u).1.kind != 1)=true->((bN s u).1.kind != 2)=false:=λhx=>by
   rcases k with k|k
   ·rw[k]at hx;cases hx
   ·rw[k];rfl
  generalize bN s u=r at *
  obtain⟨d,ok⟩:=r;dsimp only at *
  cases h:name==[95,95,116,121,112,101,110,97,109,101]
  all_goals try rw[hn h]at e
  all_goals cases l:d.kind != 1
  all_goals try have y:=t l
  all_goals
   refine .ae ?_;refine bK d.fields.length (λk=>[(10, .int .i64 k),(2, .str name),(6, .ptr 0 0),(8, .ptr 1 0)])
    (λ_=>⟨[.cells [.str [], .slice [] .nil, .str [], .int .i64 0, .int .i64 0, .slice [] .nil], .cells [.int .i64 d.kind, .str d.name, .slice (d.faces.map AV.str) .no, .slice (d.fields.map Ag.C) .no, .slice (d.ax.map AV.str) .no, .slice (d.params.map AP.C) .no]],[]⟩)
    (λk=>Qh d.fields name=(d.fields.drop k).find? (λf=>f.name==name)) Z9 rfl rfl λk hk hp=> ?_
   by_cases b:k<d.fields.length
   ·have m:decide ((k:Int)<(d.fields.length:Int))=true:=by simp[b]
    have x1:=aV (f:=Ag.C) b;have j:=x9 (p:=λf:Ag=>f.name==name) b;cases a:d.fields[k].name==name
    ·refine .go ?_;exact⟨b,Z9,Wj,Wi,rfl,by rw[hp,j,if_neg Ww]⟩
    ·refine .go ?_;refine aI rfl (AC.eq ?_);rw[hp,j,if_pos a];rfl
   ·have m:decide ((k:Int)<(d.fields.length:Int))=false:=by simp;omega
    refine .go ?_;refine aI rfl ?_;rw[hp,List.drop_eq_nil_of_le om];exact AC.tup (AA.cons gX (aB _))
 ·rw[n c k];have v:((bN s u).1.kind != 1)=true:=by rw[bne_iff_ne];exact λx=>k (.inl x)
  have w:((bN s u).1.kind != 2)=true:=by rw[bne_iff_ne];exact λx=>k (.inr x)
  cases h:name==[95,95,116,121,112,101,110,97,109,101]
  ·refine .ae ?_;refine aI rfl ?_;exact AC.tup (AA.cons gX (aB _))
  ·rw[hn h]at e;refine .ae ?_;refine aI rfl ?_;exact AC.tup (AA.cons gX (aB _))
def uA(s:AJ)(name:AG)(hs:s.size<=1048576):AN prog 170 [s.C, .str name] (.slice ((jG s name).map AV.str) .no):=by
 have hf:=zK s name hs;have hz:=g9 (name:=name) (show s.size<=68719476736 by omega);have hl:=s.len;refine AI.plain (aT _) Wn (aS [4] func170 ?_);unfold jG;unfold bN at hf hz;cases m:dW s name with
 |none=>rw[m]at hf;refine .ae ?_;exact aP rfl (AC.no (aB _))
 |some d=>
  rw[m]at hf hz;simp only at hf hz ⊢;by_cases r:d.kind=1
  ·have z:(d.kind==1)=true:=by simp[r]
   rw[if_pos r];repeat' first|refine eX 7 false 1 rfl rfl rfl rfl rfl rfl ?_|refine .br ?_|refine .s1 ?_|(refine .q ?_ ?_<;>intro O)|refine bW (n:=0) rfl rfl rfl rfl rfl rfl rfl rfl rfl rfl Wa Wa rfl ?_|fail
   exact aP rfl (AC.no (aB _))
  ·have z:(d.kind==1)=false:=by simp[r]
   rw[if_neg r];by_cases t:d.kind=2
   ·have q2:(d.kind==2)=true:=by simp[t]
    rw[if_pos t];refine .ae ?_;refine eX 7 false 1 rfl rfl rfl rfl rfl rfl ?_;refine bK s.ai.length (λk=>[(8, .int .i64 k),(1, .str name),(2, .ac s.C),(7, .slice (((s.ai.take k).foldl (λl x=>iP l x name) []).map AV.str) (.own 0 1))])
     (λk=>⟨[.cells [.int .i64 d.kind, .str d.name, .slice (d.faces.map AV.str) .no, .slice (d.fields.map Ag.C) .no, .slice (d.ax.map AV.str) .no, .slice (d.params.map AP.C) .no]],[.len ((s.ai.take k).foldl (λl x=>iP l x name) []).length]⟩) (λ_=>True) Z9 rfl trivial λk hk _=> ?_
    by_cases e:k<s.ai.length
    ·have v:decide ((k:Int)<(s.ai.length:Int))=true:=by simp[e]
     have x1:=aV (f:=Ah.C) e;have y:=l9 (List.getElem_mem e);have w:=s.ai[k].lens;have j:=Cv s.ai[k].faces name om;have b:=sS (f:=λl x=>iP l x name) (a:=[]) e;have hpl:=D4 name (s.ai.take k);rw[List.length_take]at hpl;generalize (s.ai.take k).foldl (λl x=>iP l x name) []=xs at b hpl;have g:=Cv xs s.ai[k].name om;by_cases p:s.ai[k].kind=1
     ·have w1:(s.ai[k].kind==1)=true:=by simp[p]
      by_cases c:name∈s.ai[k].faces
      ·rw[decide_eq_true c]at j;replace b:=b.trans (show iP xs s.ai[k] name=cK xs s.ai[k].name by unfold iP;rw[if_pos ⟨p,c⟩]);unfold cK at b;by_cases i:s.ai[k].name∈xs
       ·rw[decide_eq_true i]at g;rw[if_pos i]at b;refine .go ?_;exact⟨e,⟨rfl,rfl,rfl,W4,trivial⟩,Wr,Wi,W4,trivial⟩
       ·rw[decide_eq_false i]at g;rw[if_neg i]at b;repeat' first|refine .s1 ?_|(refine .q ?_ ?_<;>intro O)|refine bW (n:=xs.length) rfl rfl rfl rfl rfl rfl rfl rfl (length_map ..) rfl Wa Wa rfl ?_|fail
        exact⟨e,⟨rfl,rfl,rfl,YL,trivial⟩,Wr,Wi,Y8,trivial⟩
      ·rw[decide_eq_false c]at j;replace b:=b.trans (show iP xs s.ai[k] name=xs by unfold iP;rw[if_neg (λh=>c h.2)]);refine .go ?_;exact⟨e,⟨rfl,rfl,rfl,W4,trivial⟩,Wr,Wi,W4,trivial⟩
     ·have w1:(s.ai[k].kind==1)=false:=by simp[p]
      replace b:=b.trans (show iP xs s.ai[k] name=xs by unfold iP;rw[if_neg (λh=>p h.1)]);refine .go ?_;exact⟨e,⟨rfl,rfl,rfl,W4,trivial⟩,Wr,Wi,W4,trivial⟩
    ·have v:decide ((k:Int)<(s.ai.length:Int))=false:=by simp;omega
     obtain rfl:k=s.ai.length:=om
     rw[take_length];refine .go ?_;exact aP rfl (AC.no (aB _))
   ·have q2:(d.kind==2)=false:=by simp[t]
    rw[if_neg t];by_cases u:d.kind=3
    ·have q3:(d.kind==3)=true:=by simp[u]
     rw[if_pos u];refine .ae ?_;refine eX 7 false 1 rfl rfl rfl rfl rfl rfl ?_;refine bK d.ax.length (λk=>[(10, .int .i64 k),(2, .ac s.C),(5, .ptr 0 0),(7, .slice (((d.ax.take k).foldl (j7 s) []).map AV.str) (.own 0 1))])
      (λk=>⟨[.cells [.int .i64 d.kind, .str d.name, .slice (d.faces.map AV.str) .no, .slice (d.fields.map Ag.C) .no, .slice (d.ax.map AV.str) .no, .slice (d.params.map AP.C) .no]],[.len ((d.ax.take k).foldl (j7 s) []).length]⟩) (λ_=>True) Z9 rfl trivial λk hk _=> ?_
     by_cases e:k<d.ax.length
     ·have v:decide ((k:Int)<(d.ax.length:Int))=true:=by simp[e]
      have x1:=aV (f:=AV.str) e;have o:=wI s d.ax[k] hs;have b:=sS (f:=j7 s) (a:=[]) e;have hpl:=D5 s (d.ax.take k);rw[List.length_take]at hpl;generalize (d.ax.take k).foldl (j7 s) []=xs at b hpl;have g:=Cv xs d.ax[k] om;cases c:eP s d.ax[k] [1] with
      |true=>
       rw[c]at o;replace b:=b.trans (show j7 s xs d.ax[k]=cK xs d.ax[k] by unfold j7;rw[if_pos c]);unfold cK at b;by_cases i:d.ax[k]∈xs
       ·rw[decide_eq_true i]at g;rw[if_pos i]at b;refine .go ?_;exact⟨e,⟨rfl,rfl,rfl,W4,trivial⟩,Wr,Wi,W4,trivial⟩
       ·rw[decide_eq_false i]at g;rw[if_neg i]at b;repeat' first|refine .s1 ?_|(refine .q ?_ ?_<;>intro O)|refine bW (n:=xs.length) rfl rfl rfl rfl rfl rfl rfl rfl (length_map ..) rfl Wa Wa rfl ?_|fail
        exact⟨e,⟨rfl,rfl,rfl,YL,trivial⟩,Wr,Wi,Y8,trivial⟩
      |false=>rw[c]at o;replace b:=b.trans (show j7 s xs d.ax[k]=xs by unfold j7;rw[if_neg Zg]);refine .go ?_;exact⟨e,⟨rfl,rfl,rfl,W4,trivial⟩,Wr,Wi,W4,trivial⟩
     ·have v:decide ((k:Int)<(d.ax.length:Int))=false:=by simp;omega
      obtain rfl:k=d.ax.length:=om
      rw[take_length];refine .go ?_;exact aP rfl (AC.no (aB _))
    ·have q3:(d.kind==3)=false:=by simp[u]
     rw[if_neg u];refine .ae ?_;exact aP rfl (AC.no (aB _))
def aAQ(a b:Ac)(ha:a.name.length<=68719476736)(hb:b.name.length<=68719476736):AN prog 282 [a.C,b.C] (.bool (aAy a b)):=by
 have c:=kT a om;have d:=kT b om;refine AI.plain rfl (by simp[AV.K,aA,Ac.K]) (aS [4] func282 ?_);unfold aAy;cases e:cG a<;>rw[e]at c
 ·repeat' first|refine .br ?_|refine .s1 ?_|(refine .q ?_ ?_<;>intro O)|refine aH rfl c (aB _) ?_|fail
  exact bY
 cases f:cG b<;>rw[f]at d
 ·repeat' first|refine .br ?_|refine aH rfl c (aB _) ?_|refine aH rfl d (aB _) ?_|refine .s1 ?_|(refine .q ?_ ?_<;>intro O)|fail
  exact bY
 cases g:(a.name==b.name)
 ·repeat' first|refine .br ?_|refine aH rfl c (aB _) ?_|refine aH rfl d (aB _) ?_|refine .s1 ?_|(refine .q ?_ ?_<;>intro O)|fail
  exact bY
 cases h:(a.an==b.an)
 ·repeat' first|refine .br ?_|refine aH rfl c (aB _) ?_|refine aH rfl d (aB _) ?_|refine .s1 ?_|(refine .q ?_ ?_<;>intro O)|fail
  exact bY
 repeat' first|refine .br ?_|refine aH rfl c (aB _) ?_|refine aH rfl d (aB _) ?_|refine .s1 ?_|(refine .q ?_ ?_<;>intro O)|refine Sa (r:=OQ b.az a.az) rfl rfl rfl ?_|fail
 exact bY
theorem aEA{α:Type}(p:α->Bool):∀l:List α,(!l.any λx => !p x)=l.all p
 |[]=>rfl
 |x::l=>by rw[List.any_cons,List.all_cons, <-aEA p l];cases p x<;>simp
def aEC(p q:α->Bool)(h:∀x,q x = !p x)(l:List α):(!l.any p)=l.all q:=WZ
def Oj{α:Type}{g:α->AG}{size:α->Nat}(h:∀x,(g x).length+1<=size x):∀l:List α,dB (l.map g)<=aC size l+1
 |[]=>by simp[dB,aC]
 |x::l=>by have a:=Oj h l;have b:=h x;unfold dB at *;simp only[List.map_cons,aC];omega
def wK(s:AJ)(l:List AP):List AG:=(l.filter (JW s)).map λp=>p.t.name
def MQ(s:AJ){l:List AP}{k:Nat}(h:k<l.length):wK s (l.take (k+1))=wK s (l.take k)++(if JW s l[k]=true then [l[k].t.name] else []):=by unfold wK;rw[List.take_succ_eq_append_getElem h,List.filter_append,map_append];grind
def DQ(s:AJ)(l:List AP):(wK s l).length<=l.length:=by unfold wK;rw[length_map];exact List.length_filter_le ..
def K2(s:AJ)(name:AG)(hs:s.size<=1048576):AI prog 265 [s.C, .str name] ⟨[],[]⟩ (λe m=>e = .ret (.slice ((iA s name).map AV.str) (.own 0 1))/\m=⟨[],[.len (iA s name).length]⟩):=by
 have hf:=zK s name hs;have hz:=g9 (name:=name) (show s.size<=68719476736 by omega);refine kQ (aS [4] func265 ?_);unfold iA;generalize bN s name=r at hf hz;obtain⟨x,ok⟩:=r;simp only at hf hz ⊢;refine .ae ?_;refine eX 5 false 1 rfl rfl rfl rfl rfl rfl ?_;by_cases j:x.kind=5
 ·have w:(x.kind==5)=true:=by simp[j]
  rw[if_pos j];refine bK x.params.length (λk=>[(8, .int .i64 k),(2, .ac s.C),(5, .slice ((wK s (x.params.take k)).map AV.str) (.own 0 1)),(6, .ptr 0 0)])
   (λk=>⟨[.cells [.int .i64 x.kind, .str x.name, .slice (x.faces.map AV.str) .no, .slice (x.fields.map Ag.C) .no, .slice (x.ax.map AV.str) .no, .slice (x.params.map AP.C) .no]],[.len (wK s (x.params.take k)).length]⟩) (λ_=>True)
   Z9 rfl trivial λk hk _=> ?_
  by_cases d:k<x.params.length
  ·have l:decide ((k:Int)<(x.params.length:Int))=true:=by simp[d]
   have x1:=aV (f:=AP.C) d;have g:=MN s x.params[k].t.name 5 5 5 hs;rw[RS]at g;have a:=MQ s d;have i:=DQ s (x.params.take k);rw[List.length_take]at i;unfold JW at a;generalize wK s (x.params.take k)=xs at a i;have e1:(x.params[k].t.an==0)=decide (x.params[k].t.an=0):=Yb
   have v:(x.params[k].t.az==1)=decide (x.params[k].t.az=1):=Yb
   have c:∀b,b=false->(if b=true then [x.params[k].t.name] else ([]:List AG))=[]:=λb h=>by rw[h];rfl
   cases o:decide (x.params[k].t.an=0)<;>rw[o]at e1 a
   ·rw[Bool.false_and,c _ rfl,append_nil]at a;refine .go ?_;exact⟨d,⟨rfl,rfl,WQ,rfl,trivial⟩,Wr,Wi,WQ,trivial⟩
   cases p:decide (x.params[k].t.az=1)<;>rw[p]at v a
   ·rw[Bool.false_and,Bool.and_false,c _ rfl,append_nil]at a;refine .go ?_;exact⟨d,⟨rfl,rfl,WQ,rfl,trivial⟩,Wr,Wi,WQ,trivial⟩
   cases u:eP s x.params[k].t.name [5]<;>rw[u]at g a
   ·rw[c (true&&(true&&false)) rfl,append_nil]at a;refine .go ?_;exact⟨d,⟨rfl,rfl,WQ,rfl,trivial⟩,Wr,Wi,WQ,trivial⟩
   rw[if_pos (show (true&&(true&&true))=true from rfl)]at a
   repeat' first|refine .s1 ?_|(refine .q ?_ ?_<;>intro O)|refine bW (n:=xs.length) rfl rfl rfl rfl rfl rfl rfl rfl (length_map ..) rfl Wa Wa rfl ?_|fail
   exact⟨d,⟨rfl,rfl,by rw[a,map_append];rfl,rfl,trivial⟩,Wr,Wi,by rw[a,length_append];rfl,trivial⟩
  ·have l:decide ((k:Int)<(x.params.length:Int))=false:=by simp;omega
   obtain rfl:k=x.params.length:=om
   rw[take_length];refine .go ?_;exact⟨.slice ((wK s x.params).map AV.str) (.own 0 1),0,1,rfl,le_refl _,zero_le _,YD,rfl,by simp[aL,Tok.ab],rfl,rfl⟩
 ·have w:(x.kind==5)=false:=by simp[j]
  rw[if_neg j];refine bK 0 (λk=>[(8, .int .i64 k),(2, .ac s.C),(5, .slice [] (.own 0 1)),(6, .ptr 0 0)])
   (λk=>⟨[.cells [.int .i64 x.kind, .str x.name, .slice (x.faces.map AV.str) .no, .slice (x.fields.map Ag.C) .no, .slice (x.ax.map AV.str) .no, .slice (x.params.map AP.C) .no]],[.len 0]⟩) (λ_=>True)
   Z9 rfl trivial λk hk _=> ?_
  by_cases d:k<x.params.length
  ·have l:decide ((k:Int)<(x.params.length:Int))=true:=by simp[d]
   refine .go ?_;exact⟨.slice [] (.own 0 1),0,1,rfl,le_refl _,zero_le _,by simp[AV.ab,aE],rfl,by simp[aL,Tok.ab],rfl,rfl⟩
  ·have l:decide ((k:Int)<(x.params.length:Int))=false:=by simp;omega
   refine .go ?_;exact⟨.slice [] (.own 0 1),0,1,rfl,le_refl _,zero_le _,by simp[AV.ab,aE],rfl,by simp[aL,Tok.ab],rfl,rfl⟩
def Uf(s:AJ)(name:AG)(hs:s.size<=1048576):AN prog 265 [s.C, .str name] (.slice ((iA s name).map AV.str) .no):=
 AI.plain (aT _) Wn ((K2 s name hs).mono λe H h=>⟨_,h.1,AC.no (aB _)⟩)
def K3[AL]{P:Program}[Lay P]{D:List Deferred}{c:Code}{K:AX->AE->St->Prop}{s:AE}{H:St}(L:List α)(E:α->AV)(p:α->α->Bool)(S:Nat->AE)
  (cons:∀(k:Nat) (h:k<L.length),decide ((k:Int)<(L.length:Int))=true->(L.map E)[k]? =some (E L[k])->L[k]∈L->((L.take k).all (λy=>p y L[k])=false->jU p [] L=false)->AB P N D c (thn (Nx S H k ((L.take k).all (λy=>p y L[k])=true)) K) (S k) H)
  (nil:decide ((L.length:Int)<(L.length:Int))=false->jU p [] L=true->AB P N D c (thn (λ_ _=>False) K) (S L.length) H)
  (hs:Av.Sub (S 0) s:=by (repeat' first|exact trivial|refine⟨rfl, ?_⟩)):AB P N D (.loop c) K s H:=by
 refine bK L.length S (λ_=>H) (λk=>jU p [] L=jU p (L.take k) (L.drop k)) hs rfl Wb λk hk hj=> ?_
 by_cases a:k<L.length
 ·rw[KW a]at hj;refine(cons k a Ww Ww (List.getElem_mem a) λh=>by rw[hj,h];rfl).mono λe s' Y h=> ?_
  cases e with
  |normal=>exact⟨a,h.sub,h.ab,h.below,h.same,by rw[hj,h.inv];rfl⟩
  |exit id=>exact h
  |goto l=>exact h
  |ret=>exact h
  |pan x=>exact h
 ·obtain rfl:k=L.length:=om
  rw[List.drop_length,jU]at hj;refine(nil Wb hj).mono λe s' Y h=> ?_
  cases e with
  |normal=>exact absurd h id
  |exit id=>exact h
  |goto l=>exact h
  |ret=>exact h
  |pan x=>exact h
def K4(d:AR)(name:AG)(g:d.aj.length<=68719476736):AN prog 82 [d.C, .str name] (.tup [(cM d name).1.C, .bool (cM d name).2]):=by
 refine AI.plain Yu Yv (cE [.cell 4 120, .tmp 5] func82 ?_);unfold cM iQ;refine .ae ?_;refine T3 d.aj Af.C (b:=d.aj.find? λf=>f.name==name) (λ_ r=>r.find? λf=>f.name==name) (λk=>[(6, .int .i64 k),(2, .ac d.C),(1, .str name),(4, .ptr 0 0)]) Z9 rfl (λk x r h x1 c e a=> ?_) (λ_ a=> ?_)
 ·rw[<-a,List.find?_cons]
  repeat' first|refine .br ?_|refine .s1 ?_|(refine .q ?_ ?_<;>intro O)|fail
  ·rw[O];exact aO
  ·rw[O];exact nx
 ·rw[<-a];refine .go ?_;exact aI rfl (AC.tup (AA.cons IX (aB _)))
def Vq(s:AJ)(o:Ak):AN prog 42 [s.C,o.C] (.str (aW s o)):=by refine pEn 4 func42 ?_;unfold aW;exact .wc
def Ff(s:AJ)(u:AG)(x:Sl)(hs:s.size<=1048576):AN prog 273 [s.C, .str u,x.C] (.str (dH s u x)):=by have a:=C2 s u x.name hs;refine pEn 6 func273 ?_;unfold dH;exact .wc
def RT(x:Sl):AN prog 290 [x.C] (.str (jH x)):=by refine pEn 2 func290 ?_;unfold jH;exact .wc
def MR:AC (.agg [.str sIf, .str g7, .int .i64 0, .int .i64 1, .bool false, .int .i64 0, .int .i64 0, .str [], .slice [] .nil, .slice [] .nil]) Oe.C:=by unfold AP.C Oe;rw[show (bP).lv=[] from rfl,show (bP).mv=[] from rfl];exact AC.agg (AA.cons (aG _) (AA.cons (aG _) (AA.cons (aG _) (AA.cons (aG _) (AA.cons (aG _) (AA.cons (aG _) (AA.cons (aG _) (AA.cons (aG _) (AA.cons (AC.no (aB _)) (AA.cons (AC.no (aB _)) (aB _)))))))))))
def Ip(n:AG):AN prog 217 [.str n] (.tup [(xZ n).1.C, .bool (xZ n).2]):=by
 refine AI.plain XD rfl (cE [.cell 2 136, .tmp 3] func217 ?_);unfold xZ Ct;cases a:n==oH<;>cases b:n==fP<;>unfold oH at a<;>unfold fP at b
 all_goals
  refine .go ?_
  first|exact aI rfl (AC.tup (AA.cons zW (aB _)))|exact aI rfl (AC.tup (AA.cons MR (aB _)))
def MS(x:AO):AN prog 221 [x.C] (.slice ((wF x).map AP.C) .no):=by
 have a:=Ip x.name;refine pEn 2 func221 ?_;unfold wF;unfold xZ at a;cases O:Ct x.name<;>rw[O]at a
 all_goals
  refine .ae ?_;exact aP rfl (AC.no (aB _))
def aAR(s:AJ)(a b:Ac)(hs:s.size<=1048576):AN prog 340 [s.C,a.C,b.C] (.bool (MK s a b)):=by have c:=GD s a.name hs;have d:=GD s b.name hs;have h3:=MP s a.name hs;have h4:=MP s b.name hs;refine pEn 6 func340 ?_;unfold MK;exact .wc
def aAS(a b:List AF)(ha:a.length<=68719476736)(hb:b.length<=68719476736):AN prog 330 [.slice (a.map AF.C) .no, .slice (b.map AF.C) .no] (.bool (MJ a b)):=by
 refine pEn 4 func330 ?_;unfold MJ
 repeat' first|refine .br ?_|refine .s1 ?_|(refine .q ?_ ?_<;>intro O)|fail
 ·have:¬a.length=b.length:=by simp at O;omega
  exact mV
 refine mW a AF.C (λx=>(bT x.name b).2&&o6 (bT x.name b).1 x.v) (λk=>[(5, .int .i64 k),(0, .slice (a.map AF.C) .no),(1, .slice (b.map AF.C) .no)]) (λk d c x1 f ha=> ?_) (λ_ ha=> ?_)
 ·have e:=wH a[k].name b om;have h3:=OT (bT a[k].name b).1 a[k].v;exact .wc
 ·have:a.length=b.length:=by simp at O;omega
  exact .wc
def CI(l:List Sl)(xs:List AG):Prop:=AI prog 272 [.slice (l.map Sl.C) .no, .slice (xs.map AV.str) (.own 0 1)] ⟨[],[.len xs.length]⟩ (λe H=>e = .ret (.slice ((fZ l xs).map AV.str) (.own 0 1))/\H=⟨[],[.len (fZ l xs).length]⟩)
def Vr(l:List Sl)(u:aC Sl.size l<=68719476736)(E:∀x∈l,∀ys:List AG,ys.length+aC Sl.size x.O<=137438953472->CI x.O ys)(xs:List AG)(g:xs.length+aC Sl.size l<=137438953472):
  AB prog Tryz.f272.ntmps [] (uC Tryz.f272) (fin [4] (λe H=>e = .ret (.slice ((fZ l xs).map AV.str) (.own 0 1))/\H=⟨[],[.len (fZ l xs).length]⟩))
   [(0, .slice (l.map Sl.C) .no),(1, .slice (xs.map AV.str) (.own 0 1))] ⟨[],[.len xs.length]⟩:=by
 have m:=aJ Sl.au l;refine .ae ?_;refine Gv l Sl.C AV.str 1 [] (λk=>fZ (l.take k) xs) 1 (λk=>[(5, .int .i64 k),(0, .slice (l.map Sl.C) .no)]) (λk h t x1 o=> ?_) (λ_=> ?_) aT (by rw[List.take_zero,p7];rfl) (hσ:=by rw[List.take_zero,p7];rfl)
 ·have j:=Gg (l.take k) xs;have r:=gK (f:=Sl.size) h;have p:=fK Sl.size l (k+1);have g:=l[k].ay;have i:=Ie h xs;have X:=E l[k] o;generalize fZ (l.take k) xs=ys at *;generalize l[k]=x at *;have d:=Cv ys x.name om;have b:=X ys om;have a:=X (ys++[x.name]) Yp;unfold CI at b a;rw[<-x.bc]at b a;rw[map_append,length_append]at a;have c:aA (ys.map AV.str++[AV.str x.name])=true:=by have:=aT (ys++[x.name]);rwa [map_append]at this
  repeat' first|refine .br ?_|refine aH rfl d hwk ?_|refine .s1 ?_|(refine .q ?_ ?_<;>intro O)|refine bW (n:=ys.length) rfl rfl rfl rfl rfl rfl rfl rfl (length_map ..) rfl Wa Wa rfl ?_|refine GE (cls:=[_]) (cls':= [_]) 0 rfl b rfl (aT _) (aT _) Xc (aB _) rfl ?_|refine GE (cls:=[_]) (cls':= [_]) 0 rfl a rfl c (aT _) Xc (aB _) rfl ?_|fail
  all_goals first|exact ny (fZ x.O ys) (by rw[i];simp_all[cK])|exact ny (fZ x.O (ys++[x.name])) (by rw[i];simp_all[cK])
 ·rw[take_length];refine .go ?_;exact⟨rfl,rfl⟩
def aAT:∀(N:Nat) (l:List Sl),aC Sl.size l<=N->N<=68719476736->∀xs:List AG,xs.length+aC Sl.size l<=137438953472->CI l xs
 |N,l,h,e=>λxs a=>by refine aS [4] func272 (Vr l om (λx hx ys b=> ?_) xs a);have c:=aN (size:=Sl.size) hx;have d:=x.ay;exact aAT (N-1) x.O om om ys b
termination_by N=>N
decreasing_by have:=x.au;omega
def Ug(l:List Sl)(a:aC Sl.size l<=68719476736):AI prog 272 [.slice (l.map Sl.C) .no, .slice [] .nil] ⟨[],[]⟩ (λe H=>e = .ret (.slice ((fZ l []).map AV.str) (.own 0 1))/\H=⟨[],[.len (fZ l []).length]⟩):=by refine aS [4] func272 ?_;refine eX 1 false 1 rfl rfl rfl rfl rfl rfl ?_;exact AB.weaken (s:=[(0, .slice (l.map Sl.C) .no),(1, .slice [] (.own 0 1))]) (Vr l a (λx hx ys b=>aAT 68719476736 x.O Y4 (le_refl _) ys b) [] (by simp only[List.length_nil];omega)) Z9
def RU(l:List Sl)(a:aC Sl.size l<=68719476736):AI prog 271 [.slice (l.map Sl.C) .no] ⟨[],[]⟩ (λe H=>e = .ret (.slice ((fZ l []).map AV.str) (.own 0 1))/\H=⟨[],[.len (fZ l []).length]⟩):=by
 have h0:=Ug l a;refine aS [2] func271 ?_;repeat' first|refine .br ?_|refine .s1 ?_|(refine .q ?_ ?_<;>intro O)|refine jR rfl rfl h0 XA (aB _) YD rfl ?_|fail
 exact⟨rfl,rfl⟩
def jV(d:AR)(l:List AG)(k:Nat):List AG:=(d.aj.take k).foldl (λout f=>if f.name∈l/\f.name∉out then out++[f.name] else out) []
theorem ER(d:AR)(l:List AG){k:Nat}(h:k<d.aj.length):jV d l (k+1)=if d.aj[k].name∈l/\d.aj[k].name∉jV d l k then jV d l k++[d.aj[k].name] else jV d l k:=by unfold jV;rw[List.take_succ_eq_append_getElem h,List.foldl_append,List.foldl_cons,List.foldl_nil]
def zL(d:AR)(l:List AG)(k:Nat):(jV d l k).length<=d.aj.length:=by
 have a:∀n,(jV d l n).length<=n:=λn=>by
  induction n with
  |zero=>simp[jV]
  |succ n E=>
   by_cases h:n<d.aj.length
   ·rw[ER d l h];grind
   ·have e:jV d l (n+1)=jV d l n:=by unfold jV;rw[List.take_of_length_le om,List.take_of_length_le om]
    grind
 rcases Nat.lt_or_ge k d.aj.length with h|h
 ·grind
 ·have e:jV d l k=jV d l d.aj.length:=by unfold jV;rw[List.take_of_length_le h,take_length]
  simp_all
def aAU(d:AR)(w:List Sl)(u:g6 d w<=68719476736)(g:d.aj.length<=68719476736):AN prog 213 [d.C, .slice (w.map Sl.C) .no] (.slice ((mX d w).map AV.str) .no):=by
 have y:aC Sl.size w<=g6 d w:=XW
 have h0:=RU w om;refine pEn 4 func213 ?_;repeat' first|refine .br ?_|refine .s1 ?_|(refine .q ?_ ?_<;>intro O)|refine jR rfl rfl h0 XA (aB _) YD rfl ?_|fail
 change AB _ _ _ _ _ _ _;refine AB.loop (λt s' H=>∃(i:Nat) (l:List AG),t=g6 d w-i/\BE d w i l/\H=⟨[],[.len l.length]⟩/\s'= [(6, .int .i64 i),(5, .slice (l.map AV.str) (.own 0 1)),(2, .ac d.C)])
  (s0:=[(6, .int .i64 (0:Nat)),(5, .slice ((fZ w []).map AV.str) (.own 0 1)),(2, .ac d.C)]) Z9 ⟨0,_,rfl,zF d w,rfl,rfl⟩ ?_
 rintro t s' H ⟨i,l,rfl,hI,rfl,rfl⟩;have p:=hI.len;by_cases e:i<l.length
 ·have o:decide ((i:Int)<(l.length:Int))=true:=decide_eq_true om;have x1:=aV (f:=AV.str) e;have hn:=zG hI e;have c:=hn.len;have hf:=K4 d l[i] g;unfold cM at hf;cases a:iQ d l[i] with
  |none=>
   rw[a]at hf hn;dsimp only at hf hn;generalize l[i]=nm at *;repeat' first|refine .br ?_|refine .s1 ?_|(refine .q ?_ ?_<;>intro O)|fail
   exact⟨g6 d w-(i+1),om,[(6, .int .i64 ((i+1:Nat):Int)),(5, .slice (l.map AV.str) (.own 0 1)),(2, .ac d.C)],Z9,Wj,rfl,i+1,l,rfl,hn,rfl,rfl⟩
  |some f=>
   rw[a]at hf hn c;dsimp only at hf hn c;generalize l[i]=nm at *;obtain⟨r,v⟩:=jJ a;have x:=aN (size:=λf:Af=>aC Sl.size f.O) r;have h:aC Sl.size f.O<=g6 d w:=XW
   have b:=aAT (g6 d w) f.O h u l om;unfold CI at b;repeat' first|refine .br ?_|refine .s1 ?_|(refine .q ?_ ?_<;>intro O)|refine GE (cls:=[_]) (cls':= [_]) 0 rfl b rfl (aT _) (aT _) XA (aB _) rfl ?_|fail
   exact⟨g6 d w-(i+1),om,[(6, .int .i64 ((i+1:Nat):Int)),(5, .slice ((fZ f.O l).map AV.str) (.own 0 1)),(2, .ac d.C)],Z9,Wj,rfl,i+1,_,rfl,hn,rfl,rfl⟩
 ·have o:decide ((i:Int)<(l.length:Int))=false:=decide_eq_false om;have j:=xX hI om;unfold mX;rw[j];repeat' first|refine .br ?_|refine .s1 ?_|(refine .q ?_ ?_<;>intro O)|fail
  refine Tu 5 rfl (AC.no (aB _)) ?_;refine eX 9 false 1 rfl rfl rfl rfl rfl rfl ?_;refine Gv d.aj Af.C AV.str 1 [.len l.length] (λk=>jV d l k) 9 (λk=>[(10, .int .i64 k),(5, .slice (l.map AV.str) .no),(2, .ac d.C)]) (λk e o x1 r=> ?_) (λ_=> ?_) aT rfl
  ·have z:=Cv l d.aj[k].name om;have h3:=Cv (jV d l k) d.aj[k].name (by have:=zL d l k;omega);have h4:=ER d l e;have h5:=zL d l k;generalize jV d l k=ys at *;have m:AA [.slice (ys.map AV.str) (.own 1 1), .str d.aj[k].name] [.slice (ys.map AV.str) .no, .str d.aj[k].name]:=AA.cons (AC.no (aB _)) (aB _);repeat' first|refine .br ?_|refine aH rfl h3 m ?_|refine .s1 ?_|(refine .q ?_ ?_<;>intro O)|refine bW (n:=ys.length) rfl rfl rfl rfl rfl rfl rfl rfl (length_map ..) rfl Wa Wa rfl ?_|fail
   all_goals first|exact ny ys (by rw[h4];simp_all)|exact ny (ys++[d.aj[k].name]) (by rw[h4];simp_all)
  ·unfold jV;rw[take_length];refine .go ?_;exact Fin.rg
def uB(e:d.size<=1048576):d.ops.length<=1048576/\d.aj.length<=1048576/\(∀o∈d.ops,o.size<=1048576)/\(∀f∈d.aj,f.size<=1048576)/\aC (λf:Af=>aC Sl.size f.O) d.aj<=1048576:=by
 have h0:d.size=aC Ak.size d.ops+aC Af.size d.aj+3:=rfl;have b:=aJ (size:=Ak.size) (λf=>Xj) d.ops;have c:=aJ (size:=Af.size) (λf=>W5) d.aj;have h3:aC (λf:Af=>aC Sl.size f.O) d.aj<=aC Af.size d.aj:=nC (λf=>W5) _;refine⟨om,om,λo a=> ?_,λf hf=> ?_,om⟩
 ·have:=aN (size:=Ak.size) a;omega
 ·have:=aN (size:=Af.size) hf;omega
def C3(a:d.size<=1048576){f:Af}(hf:f∈d.aj):aC Sl.size f.O<=1048576:=by have:=(uB a).2.2.2.1 f hf;unfold Af.size at this;omega
def K5(a:d.size<=1048576){o:Ak}(b:o∈d.ops):aC Sl.size o.O<=1048576:=by have:=(uB a).2.2.1 o b;unfold Ak.size at this;omega
theorem K6{β:Type}{f:α->β}{l:List α}{k:Nat}(h:k<l.length):(l.take (k+1)).map f=(l.take k).map f++[f l[k]]:=WN
def zM(d:AR)(l:List Sl):(mX d l).length<=d.aj.length:=by
 have:=zL d (lZ d l) d.aj.length;unfold jV at this
 rwa [take_length]at this
def GF(d:AR)(l:List Sl)(x:AG):x∈mX d l↔x∈lZ d l/\∃f∈d.aj,f.name=x:=by
 have c:∀(b:List Af) (I:List AG),x∈b.foldl (λa f=>if f.name∈lZ d l/\f.name∉a then a++[f.name] else a) I↔x∈I\/(x∈lZ d l/\∃f∈b,f.name=x):=by
  intro b;induction b with
  |nil=>intro I;simp
  |cons f b E=>intro I;rw[List.foldl_cons,E];split<;>grind
 have:=c d.aj [];simpa [mX]using this
def Ok(d:AR)(a:d.size<=1048576)(l:List Sl)(e:aC Sl.size l<=1048576):AN prog 213 [d.C, .slice (l.map Sl.C) .no] (.slice ((mX d l).map AV.str) .no):=by obtain⟨_,b,_,_,c⟩:=uB a;exact aAU d l XW om
def aAV(d:AR)(a:d.size<=1048576):AN prog 145 [d.C] (.bool (oU d)):=by
 have b:oU d = !(d.aj.all λf => !decide (f.name∈mX d f.O)):=by
  unfold oU;rw[<-List.not_any_eq_all_not,Bool.not_not,Bool.eq_iff_iff,List.any_eq_true,List.any_eq_true];constructor
  ·rintro⟨f,hf,h⟩;exact⟨f,hf,decide_eq_true ((GF d f.O f.name).2 ⟨of_decide_eq_true h,f,hf,rfl⟩)⟩
  ·rintro⟨f,hf,h⟩;exact⟨f,hf,decide_eq_true ((GF d f.O f.name).1 (of_decide_eq_true h)).1⟩
 rw[b];obtain⟨_,i,_⟩:=uB a;refine pEn 2 func145 ?_;refine .ae ?_;refine mW d.aj Af.C (λf => !decide (f.name∈mX d f.O)) (λk=>[(3, .int .i64 k),(1, .ac d.C)]) (λk g e x1 c ha=> ?_) (λ_ ha=> ?_)
 ·have h3:=Ok d a d.aj[k].O (C3 a c);have h4:=Cv (mX d d.aj[k].O) d.aj[k].name (by have:=zM d d.aj[k].O;omega);exact .wc
 ·exact .wc
theorem GG(a n:Nat)(l:List AG):aE a n (l.map AV.str)=true:=aD _ _ _ (aT _)
theorem Iq(m n:AG):nG m n=decide (kF m n<0):=by
 unfold kF;split
 ·simp_all
 ·split<;>simp_all
def Uh(l:List AG)(hl:l.length<=4398046511104):AN prog 278 [.slice (l.map AV.str) .no] (.slice ((yM kF l).map AV.str) .no):=by
 refine jF (by simp[-map_map,AV.K,aT]) (by simp[aA,AV.K,aT]) (aS [2] func278 ?_);have v:(l.map AV.str).length=l.length:=length_map ..
 repeat' first|refine dJ (m:=l.length) rfl rfl rfl rfl rfl rfl rfl rfl (Kw l) v Wg om rfl ?_|refine .s1 ?_|(refine .q ?_ ?_<;>intro O)|fail
 change AB _ _ _ _ _ _ _;refine AB.loop (λn s H=>∃(i:Nat) (L:List AG),n=l.length-i/\1<=i/\By kF 0 l.length l L/\BU kF 0 i L/\H=⟨[],[.aa (L.map AV.str)]⟩/\s=[(4, .int .i64 i),(3, .aa 0 1 l.length 0 l.length)])
  (s0:=[(4, .int .i64 (1:Nat)),(3, .aa 0 1 l.length 0 l.length)])
  Z9 ⟨1,l,rfl,le_refl _,OW _ _ _,TW (le_refl _),rfl,rfl⟩ ?_
 rintro n s H ⟨i,L,rfl,hai,hL,hS,rfl,rfl⟩;have g:((l.length-0:Nat):Int)=(l.length:Int):=rfl;by_cases h1:i<l.length
 ·have d1:decide ((i:Int)<(l.length:Int))=true:=by simp[h1]
  repeat' first|refine jE rfl rfl rfl g ?_|refine .s1 ?_|(refine .q ?_ ?_<;>intro O)|fail
  change AB _ _ _ _ _ _ _;refine AB.loop (λn s H=>∃(j:Nat) (L:List AG),n=l.length+j-l.length/\j<=i/\By kF 0 l.length l L/\BW kF 0 i j L/\H=⟨[],[.aa (L.map AV.str)]⟩/\s=[(5, .int .i64 j),(4, .int .i64 i),(3, .aa 0 1 l.length 0 l.length)])
   (s0:=[(5, .int .i64 i),(4, .int .i64 i),(3, .aa 0 1 l.length 0 l.length)])
   Z9 ⟨i,L,rfl,le_refl _,hL,MH hS,rfl,rfl⟩ ?_
  clear hL hS;rintro n s H ⟨j,L,rfl,hji,hL,hG,rfl,rfl⟩;have a:(L.map AV.str).length=l.length:=by rw[length_map];exact hL.len
  have a3:=hL.len;by_cases h2:0<j
  ·obtain⟨k,rfl⟩:∃k,j=k+1:=⟨j-1,om⟩;have d2:decide ((0:Int)<((k+1:Nat):Int))=true:=by simp<;>omega
   have hk:k<L.length:=om
   have u:k+1<L.length:=om
   have e1:L[k]? =some L[k]:=List.getElem?_eq_getElem hk;have o:L[k+1]? =some L[k+1]:=List.getElem?_eq_getElem u;have x1:(L.map AV.str)[k]? =some (.str L[k]):=by rw[List.getElem?_map,e1];rfl
   have x2:(L.map AV.str)[k+1]? =some (.str L[k+1]):=by rw[List.getElem?_map,o];rfl
   have a4:k<l.length-0:=om
   have a5:k+1<l.length-0:=om
   have b:((L.map AV.str).set (k+1) (.str L[k])).length=l.length:=by rw[List.length_set];exact a
   have x3:((L.map AV.str).set (k+1) (.str L[k]))[k]? =some (.str L[k]):=by rw[List.getElem?_set_ne om];exact x1
   repeat' first|refine tF (r:=((k:Nat):Int)) rfl rfl om om ?_|refine .s1 ?_|(refine .q ?_ ?_<;>intro O)|refine fI rfl rfl rfl rfl rfl rfl rfl Wh (Nat.zero_add _) ?_|refine j4 rfl rfl rfl rfl rfl rfl ?_|refine fD rfl rfl rfl Wh Wh rfl ?_|refine jE rfl rfl rfl rfl ?_|refine bC (agg:=false) rfl rfl rfl rfl rfl a x2 rfl rfl rfl rfl ?_|refine bC (agg:=false) rfl rfl rfl rfl rfl b x3 rfl rfl rfl rfl ?_|fail
   ·have e:kF L[k+1] L[k]<0:=by rw[Iq]at O;simpa using O
    have f:((L.map AV.str).set (k+1) (.str L[k])).set k (.str L[k+1])=(sw L k L[k] L[k+1]).map AV.str:=by simp[sw,List.map_set]
    refine⟨l.length+k-l.length,om,[(5, .int .i64 ((k:Nat):Int)),(4, .int .i64 i),(3, .aa 0 1 l.length 0 l.length)],
     Z9,rfl, ?_,k,sw L k L[k] L[k+1],rfl,om,hL.trans ((aAB p9 e1 o e).wide om om),hG.step p9 om hji e1 o e, ?_,rfl⟩
    ·rw[f];simp[-map_map,aQ,aL,Tok.ab,GG, -List.map_set]
    ·rw[f];rfl
   ·have p:¬kF L[k+1] L[k]<0:=by rw[Iq]at O;simpa using O
    have c:=hG.stop p9 (zero_le _) hji om (λ_ x y w z=>by rw[show k+1-1=k by omega,e1]at w;rw[o]at z;cases w;cases z;exact p)
    refine⟨l.length-(i+1),om,[(4, .int .i64 ((i+1:Nat):Int)),(3, .aa 0 1 l.length 0 l.length)],
     Z9,rfl, ?_,i+1,L,rfl,om,hL,c,rfl,rfl⟩
    simp[aQ,aL,Tok.ab,GG]
  ·have t:j=0:=om
   subst t;have d2:decide ((0:Int)<((0:Nat):Int))=false:=Wb
   have c:=hG.stop p9 (le_refl _) hji om (λh=>om);refine .go ?_;refine⟨l.length-(i+1),om,[(4, .int .i64 ((i+1:Nat):Int)),(3, .aa 0 1 l.length 0 l.length)],
     Z9,rfl, ?_,i+1,L,rfl,om,hL,c,rfl,rfl⟩
   simp[aQ,aL,Tok.ab,GG]
 ·have d1:decide ((i:Int)<(l.length:Int))=false:=by simp;omega
  have:=ME p9 (zero_le l.length) (le_refl _) hL (hS.part (le_refl _) om);rw[KS rfl]at this;subst this;have d:(yM kF l).length=l.length:=Cr l
  repeat' first|refine jE rfl rfl rfl g ?_|refine .s1 ?_|(refine .q ?_ ?_<;>intro O)|fail
  exact⟨_,_,rfl,(cA rfl (by simp[d]) rfl).trans (AK.a7 (AC.no (AA.eq (by rw[List.drop_zero,List.take_of_length_le (by simp[d])]))))⟩
def r8(a:d.size<=1048576)(nm:AG):aC Sl.size (cM d nm).1.O<=1048576:=by
 unfold cM;cases hf:iQ d nm with
 |none=>exact zero_le _
 |some f=>exact C3 a (jJ hf).1
def aAW(s:AJ)(hs:s.size<=1048576)(ho:s.ok):AN prog 204 [s.C] (.bool (OR s)):=by
 have hl:=s.len;refine AI.plain rfl Wn (aS [2] func204 ?_);rw[show (OR s)=s.ai.all (λd => !IL s d.name) from by unfold OR;exact aEC _ _ (λd=>rfl) _]
 refine .ae ?_;refine bK s.ai.length (λk=>[(3, .int .i64 k),(1, .ac s.C)]) (λ_=>⟨[],[]⟩) (λk=>(s.ai.take k).all (λd => !IL s d.name)=true) Z9 rfl Wb λk al x=> ?_
 by_cases hk:k<s.ai.length
 ·have dk:decide ((k:Int)<(s.ai.length:Int))=true:=by simp[hk]
  have xk:=aV (f:=Ah.C) hk;have a8:=List.getElem_mem hk;have g:=Hn (p:=λd => !IL s d.name) hk x;have h:=Ho (p:=λd => !IL s d.name) hk
  try dsimp only at g h
  have aj:=l9 a8;generalize hd:s.ai[k]=d at *
  have ah:=d.lens;have ai:=d.b0;have h0:=K2 s d.name hs;have a3:aA [s.C, .str d.name]=true:=Wn
  have ae:=Qz s;have u:IL s d.name=decide (d.name∈uF (iA s) ((iA s d.name).length+(qR s).length) 0 (iA s d.name)):=rfl;have a7:(iA s d.name).length<=68719476736:=by
   unfold iA;have:=(g9 (name:=d.name) (show s.size<=68719476736 by omega)).1;split
   ·have:=DQ s (bN s d.name).1.params;unfold wK at this;omega
   ·simp
  generalize iA s d.name=v at h0 u a7;have a1:HJ (qR s) v+v.length<=v.length+(qR s).length:=by have:=aBA (qR s) v;omega
  generalize af:v.length+(qR s).length=N at a1 u;generalize hR:uF (iA s) N 0 v=R at u;rw[u]at g h
  repeat' first|refine .br ?_|refine jR rfl rfl h0 a3 (aB _) YD rfl ?_|refine .s1 ?_|(refine .q ?_ ?_<;>intro O)|fail
  refine AB.loop (λz s1 H=>∃(i:Nat) (l:List AG),z=N-i/\i<=l.length/\HJ (qR s) l+l.length<=N/\uF (iA s) (N-i) i l=R/\H=⟨[],[.len l.length]⟩/\
    s1=[(5, .int .i64 i),(4, .slice (l.map AV.str) (.own 0 1)),(3, .int .i64 k),(1, .ac s.C)])
   (s0:=[(5, .int .i64 (0:Nat)),(4, .slice (v.map AV.str) (.own 0 1)),(3, .int .i64 k),(1, .ac s.C)]) Z9 ⟨0,v,rfl,zero_le _,a1,hR,rfl,rfl⟩ ?_
  rintro z s1 H ⟨i,l,rfl,hil,hcb,hcl,rfl,rfl⟩;have am:(l.map AV.str).length=l.length:=length_map ..
  by_cases h1:i<l.length
  ·have d1:decide ((i:Int)<(l.length:Int))=true:=by simp[h1]
   have x1:=aV (f:=AV.str) h1;have hg:l[i]? =some l[i]:=List.getElem?_eq_getElem h1;have hn:=Uf s l[i] hs;have w:∀y∈iA s l[i],y∈qR s:=Nl l[i];have o:uF (iA s) (N-(i+1)) (i+1) ((iA s l[i]).foldl cK l)=R:=by rw[<-hcl,show N-i=(N-(i+1))+1 by omega,uF,hg]
   have a9:(iA s l[i]).length<=68719476736:=by
    unfold iA;have:=(g9 (name:=l[i]) (show s.size<=68719476736 by omega)).1;split
    ·have:=DQ s (bN s l[i]).1.params;unfold wK at this;omega
    ·simp
   generalize iA s l[i]=m at hn w o a9;refine .go ?_;refine bK m.length (λj=>[(7, .int .i64 j),(6, .slice (m.map AV.str) .no),(4, .slice (((m.take j).foldl cK l).map AV.str) (.own 0 1)),(5, .int .i64 i),(3, .int .i64 k),(1, .ac s.C)])
    (λj=>⟨[],[.len ((m.take j).foldl cK l).length]⟩) (λ_=>True) Z9 rfl trivial λj hj _=> ?_
   by_cases h2:j<m.length
   ·have d2:decide ((j:Int)<(m.length:Int))=true:=by simp[h2]
    have x2:=aV (f:=AV.str) h2;have b:=sS (f:=cK) (a:=l) h2;have a2:=G4 (U:=qR s) (l:=l) (xs:=m.take j) (λy hy=>w y (List.mem_of_mem_take hy));generalize (m.take j).foldl cK l=xs at b a2;have e:=Cv xs m[j] om;have t:AA [.slice (xs.map AV.str) (.own 0 1), .str m[j]] [.slice (xs.map AV.str) .no, .str m[j]]:=AA.cons (AC.no (aB _)) (aB _);unfold cK at b;by_cases c:m[j]∈xs
    ·rw[decide_eq_true c]at e;replace b:=b.trans (if_pos c)
     repeat' first|refine aH rfl e t ?_|refine .s1 ?_|(refine .q ?_ ?_<;>intro O)|fail
     exact⟨h2,⟨rfl,rfl,by unfold cK;rw[b];rfl,rfl,rfl,rfl,trivial⟩,YX,WO,by unfold cK;rw[b];rfl,trivial⟩
    ·rw[decide_eq_false c]at e;replace b:=b.trans (if_neg c)
     repeat' first|refine aH rfl e t ?_|refine .s1 ?_|(refine .q ?_ ?_<;>intro O)|refine bW (n:=xs.length) rfl rfl rfl rfl rfl rfl rfl rfl (length_map ..) rfl Wa Wa rfl ?_|fail
     exact⟨h2,⟨rfl,rfl,by unfold cK;rw[b,map_append];rfl,rfl,rfl,rfl,trivial⟩,YX,WO,by unfold cK;rw[b,length_append];rfl,trivial⟩
   ·have d2:decide ((j:Int)<(m.length:Int))=false:=by simp;omega
    obtain rfl:j=m.length:=om
    have a2:=G4 (U:=qR s) (l:=l) (xs:=m) w;obtain⟨r,hr⟩:=Ni m l;rw[take_length];refine .go ?_;refine⟨N-(i+1),om,[(5, .int .i64 ((i+1:Nat):Int)),(4, .slice ((m.foldl cK l).map AV.str) (.own 0 1)),(3, .int .i64 k),(1, .ac s.C)],Z9,by simp[aM,AV.ab,aE,aF,AJ.K],WO,
     i+1,m.foldl cK l,rfl,by rw[hr,length_append];omega,om,o,rfl,rfl⟩
  ·have d1:decide ((i:Int)<(l.length:Int))=false:=by simp;omega
   obtain rfl:i=l.length:=om
   have a5:R=l:=by
    rw[<-hcl];cases N-l.length with
    |zero=>rw[uF]
    |succ n=>rw[uF,List.getElem?_eq_none (le_refl _)]
   rw[a5]at g h;have e:=Cv l d.name om;have t:AA [.slice (l.map AV.str) (.own 0 1), .str d.name] [.slice (l.map AV.str) .no, .str d.name]:=AA.cons (AC.no (aB _)) (aB _);cases c:decide (d.name∈l)<;>rw[c]at e g h
   ·have a6:=g rfl
    repeat' first|refine aH rfl e t ?_|refine .s1 ?_|(refine .q ?_ ?_<;>intro O)|fail
    exact⟨hk,Z9,by simp[aM,AV.ab,aF,AJ.K,Ah.K,Ag.K,AP.K],rfl,rfl,a6⟩
   ·have ha:=h rfl;rw[ha]
    repeat' first|refine aH rfl e t ?_|refine .s1 ?_|(refine .q ?_ ?_<;>intro O)|fail
    exact bY
 ·have dk:decide ((k:Int)<(s.ai.length:Int))=false:=by simp;omega
  obtain rfl:k=s.ai.length:=om
  rw[take_length]at x;rw[x];refine .go ?_;exact bY
def eF(d:AR):Nat->List Sl->Nat->Nat
 |_,[],n=>n
 |b, .mk k a nm ar di on se::l,n=>
  if n<b then
   (if k=1/\n+1+eF d (b-n) se 0<b then
    eF d b l (n+1+eF d (b-n) se 0+eF d (b-(n+1+eF d (b-n) se 0)) (cM d nm).1.O 0)
   else eF d b l (n+1+eF d (b-n) se 0))
  else n
termination_by b l=>(b,fN l)
decreasing_by
 all_goals simp_wf
 all_goals simp only[fN,Sl.size]
 all_goals first
  |(apply Prod.Lex.right;omega)
  |(apply Prod.Lex.left;omega)
  |(rcases Nat.eq_zero_or_pos n with h|h
    ·subst h;apply Prod.Lex.right;omega
    ·apply Prod.Lex.left;omega)
theorem mY(d:AR)(b n:Nat):eF d b [] n=n:=by rw[eF]
theorem mK(d:AR)(b:Nat)(x:Sl)(l:List Sl)(n:Nat):eF d b (x::l) n=if n<b then
   (if x.kind=1/\n+1+eF d (b-n) x.O 0<b then
    eF d b l (n+1+eF d (b-n) x.O 0+eF d (b-(n+1+eF d (b-n) x.O 0)) (cM d x.name).1.O 0)
   else eF d b l (n+1+eF d (b-n) x.O 0))
  else n:=by cases x;rw[eF];rfl
def Fg(d:AR)(b:Nat):∀(l:List Sl) (n:Nat),n<=eF d b l n
 |[],n=>by rw[mY];exact le_refl _
 |x::l,n=>by
  rw[mK];split
  ·split
   ·exact Nat.le_trans om (Fg d b l _)
   ·exact Nat.le_trans om (Fg d b l _)
  ·omega
inductive BD (d:AR):List Sl->Nat->Prop where
 |nil:BD d [] 0
 |cons (x:Sl) (l:List Sl) (a b c:Nat):BD d x.O a->(x.kind=1->BD d (cM d x.name).1.O b)->BD d l c->BD d (x::l) (1+a+(if x.kind=1 then b else 0)+c)
def RV(d:AR):∀(b:Nat) (S:Nat) (l:List Sl) (n:Nat),aC Sl.size l<=S->eF d b l n<b->∃m,BD d l m/\eF d b l n=n+m:=by
 intro b;induction b using Nat.strongRecOn with
 |ind b e=>
 intro S;induction S with
 |zero=>
  intro l n h hr;cases l with
  |nil=>exact⟨0, .nil,by rw[mY];rfl⟩
  |cons x l=>rw[aC]at h;have:=x.au;omega
 |succ S E=>
  intro l n h hr;cases l with
  |nil=>exact⟨0, .nil,by rw[mY];rfl⟩
  |cons x l=>
   rw[aC]at h;have hx:=x.ay;rw[mK]at hr ⊢;split at hr;case isFalse=>omega
   rename_i hn;rw[if_pos hn];have f:∀r,n+1+eF d (b-n) x.O 0<=r->r<b->∃m,BD d x.O m/\eF d (b-n) x.O 0=m:=λr u v=>by
    have h3:eF d (b-n) x.O 0<b-n:=om
    rcases Nat.eq_zero_or_pos n with h0|h0
    ·grind
    ·obtain⟨m,g,o⟩:=e (b-n) om _ x.O 0 (le_refl _) h3;simp_all
   split at hr
   ·rename_i hk;rw[if_pos hk];have k:=Fg d b l (n+1+eF d (b-n) x.O 0+eF d (b-(n+1+eF d (b-n) x.O 0)) (cM d x.name).1.O 0);obtain⟨m,g,o⟩:=f _ (le_refl _) hk.2;obtain⟨q,t,y⟩:=e (b-(n+1+eF d (b-n) x.O 0)) om _ (cM d x.name).1.O 0 (le_refl _) om;obtain⟨i,j,p⟩:=E l _ om hr;refine⟨_, .cons x l m q i g (λ_=>t) j, ?_⟩;grind
   ·rename_i hk;rw[if_neg hk];have k:=Fg d b l (n+1+eF d (b-n) x.O 0);obtain⟨m,g,o⟩:=f _ k hr;obtain⟨i,j,p⟩:=E l _ om hr;have a:x.kind≠1:=λc=>hk ⟨c,om⟩
    refine⟨_, .cons x l m 0 i g (λc=>absurd c a) j, ?_⟩;rw[p,if_neg a];omega
def BD.mem{n:Nat}(h:BD d l n):∀x∈l,(∃a,BD d x.O a/\a<n)/\(x.kind=1->∃b,BD d (cM d x.name).1.O b/\b<n):=by
 induction h with
 |nil=>intro x hx;cases hx
 |cons y l a b c e f h3 g i j=>grind
def dS(d:AR):List (List Sl)->Nat->Nat
 |[],n=>n
 |l::r,n=>if n<=40 then dS d r (n+eF d 41 l 0) else n
def Ir(d:AR):∀(r:List (List Sl)) (n:Nat),n<=dS d r n
 |[],n=>le_refl _
 |l::r,n=>by
  rw[dS];split
  ·exact Nat.le_trans (Nat.le_add_right _ _) (Ir d r _)
  ·omega
def ES(d:AR):∀(r:List (List Sl)) (n:Nat),dS d r n<=40->∀l∈r,∃m,BD d l m/\m<=40
 |[],n,h,l,a=>by cases a
 |l::r,n,h,b,a=>by
  rw[dS]at h;split at h;case isFalse=>omega
  rcases List.mem_cons.1 a with rfl|a
  ·have:=Ir d r (n+eF d 41 b 0);obtain⟨m,c,e⟩:=RV d 41 _ b 0 (le_refl _) om;grind
  ·exact ES d r _ h b a
def wL(s:AJ)(d:AR):∀(N:Nat) (l:List Sl) (u:AG) (n:Nat),BD d l n->n<=N->(cO s d N l u).length<=n/\∀p∈cO s d N l u,∃m,BD d p.x.O m/\m<n
 |0,l,u,n,h,hn=>⟨zero_le _,λp hp=>Xz⟩
 |N+1,l,u,n,h,hn=>by
  have f:∀(l:List Sl) (n:Nat),BD d l n->n<=N+1->(l.flatMap λx=>if x.kind=0 then [(⟨u,x⟩:Au)] else if x.kind=2 then cO s d N x.O (dH s u x)
   else if x.kind=1 then cO s d N (cM d x.name).1.O (cM d x.name).1.on else []).length<=n/\∀p∈(l.flatMap λx=>if x.kind=0 then [(⟨u,x⟩:Au)] else if x.kind=2 then cO s d N x.O (dH s u x)
   else if x.kind=1 then cO s d N (cM d x.name).1.O (cM d x.name).1.on else []),∃m,BD d p.x.O m/\m<n:=by
   intro l n h
   induction h with
   |nil=>intro _;exact⟨zero_le _,λp hp=>Xz⟩
   |cons x l a b c k o h3 z i2 q=>
    intro hn
    obtain⟨j1,r⟩:=q om
    rw[List.flatMap_cons,length_append]
    have hx:(if x.kind=0 then [(⟨u,x⟩:Au)] else if x.kind=2 then cO s d N x.O (dH s u x)
   else if x.kind=1 then cO s d N (cM d x.name).1.O (cM d x.name).1.on else []).length<=1+a+(if x.kind=1 then b else 0)/\∀p∈(if x.kind=0 then [(⟨u,x⟩:Au)] else if x.kind=2 then cO s d N x.O (dH s u x)
   else if x.kind=1 then cO s d N (cM d x.name).1.O (cM d x.name).1.on else []),∃m,BD d p.x.O m/\m<1+a+(if x.kind=1 then b else 0):=by
     by_cases j:x.kind=0
     ·grind
     rw[if_neg j]
     by_cases i:x.kind=2
     ·rw[if_pos i]
      obtain⟨t,v⟩:=wL s d N x.O (dH s u x) a k om
      grind
     rw[if_neg i]
     by_cases e:x.kind=1
     ·rw[if_pos e]at hn
      rw[if_pos e,if_pos e]
      obtain⟨t,v⟩:=wL s d N (cM d x.name).1.O (cM d x.name).1.on b (o e) om
      grind
     ·simp_all
    refine⟨om,λp hp=> ?_⟩
    rcases List.mem_append.1 hp with hp|hp
    ·obtain⟨m,g,y⟩:=hx.2 p hp
     exact⟨m,g,om⟩
    ·obtain⟨m,g,y⟩:=r p hp
     exact⟨m,g,om⟩
  exact f l n h hn
def Fu(d:AR)(N:Nat)(l:List Sl):Prop:=∃m,BD d l m/\m<=N
def Fu.sub(h:Fu d N l){x:Sl}(hx:x∈l):0<N/\Fu d (N-1) x.O/\(x.kind=1->Fu d (N-1) (cM d x.name).1.O):=by obtain⟨m,c,g⟩:=h;obtain⟨⟨a,h3,h4⟩,e⟩:=c.mem x hx;refine⟨om,⟨a,h3,om⟩,λhk=> ?_⟩;obtain⟨b,f,i⟩:=e hk;exact⟨b,f,om⟩
theorem Fu.mono{M:Nat}(h:Fu d N l)(c:N<=M):Fu d M l:=by obtain⟨m,a,b⟩:=h;exact⟨m,a,om⟩
def r9(s:AJ){d:AR}(a:d.size<=1048576):∀(N:Nat) (l:List Sl) (u:AG),aC Sl.size l<=1048576->∀p∈cO s d N l u,p.x.size<=1048576
 |0,l,u,h,p,hp=>by rw[cO]at hp;cases hp
 |N+1,l,u,h,p,hp=>by
  obtain⟨x,hx,hp⟩:=List.mem_flatMap.1 hp;have b:=aN (size:=Sl.size) hx;have c:=x.ay;split at hp
  ·grind
  split at hp
  ·exact r9 s a N x.O _ om p hp
  split at hp
  ·exact r9 s a N _ _ (r8 a _) p hp
  ·cases hp
def mL{s:AJ}(h:Fu d N l):(cO s d N l u).length<=N/\∀p∈cO s d N l u,0<N/\Fu d (N-1) p.x.O:=by obtain⟨m,c,e⟩:=h;obtain⟨a,b⟩:=wL s d N l u m c e;refine⟨om,λp hp=> ?_⟩;obtain⟨q,h3,h4⟩:=b p hp;exact⟨om,q,h3,om⟩
def K7(s:AJ)(d:AR)(N:Nat)(u:AG)(x:Sl):List Au:=if x.kind=0 then [⟨u,x⟩] else if x.kind=2 then cO s d (N-1) x.O (dH s u x)
 else if x.kind=1 then cO s d (N-1) (cM d x.name).1.O (cM d x.name).1.on else []
theorem Is{s:AJ}(h:Fu d N l):cO s d N l u=l.flatMap (K7 s d N u):=by
 cases N with
 |zero=>
  cases l with
  |nil=>rw[cO];rfl
  |cons x l=>have:=(h.sub (x:=x) Wb).1;omega
 |succ N=>rw[cO];rfl
def It{d:AR}:∀ {l:List Sl} {m:Nat},BD d l m->∀k,∃q,BD d (l.take k) q/\q<=m
 |_,_, .nil,k=>by rw[List.take_nil];exact⟨0, .nil,le_refl _⟩
 |_,_, .cons x l a b c ha hb f,k=>by
  cases k with
  |zero=>exact⟨0, .nil,zero_le _⟩
  |succ k=>obtain⟨q,e,g⟩:=It f k;exact⟨_, .cons x _ a b q ha hb e,om⟩
def CM(s:AJ)(d:AR)(N:Nat)(u:AG)(l:List Sl):Prop:=AI prog 284 [s.C,d.C, .str u, .slice (l.map Sl.C) .no] ⟨[],[]⟩ (λe H=>e = .ret (.slice ((cO s d N l u).map Au.C) (.own 0 8))/\H=⟨[],[.len (cO s d N l u).length]⟩)
def Ol{s:AJ}(h:CM s d N u l):AN prog 284 [s.C,d.C, .str u, .slice (l.map Sl.C) .no] (.slice ((cO s d N l u).map Au.C) .no):=
 AI.plain (by simp[-map_map,AV.K,eU]) (by simp[AV.K,aA,AJ.K,AR.K,aZ]) (h.mono λe H h=>⟨_,h.1,AC.no (aB _)⟩)
def RW(s:AJ)(d:AR)(hs:s.size<=1048576)(h:d.size<=1048576):∀(N:Nat) (l:List Sl) (u:AG),N<=64->Fu d N l->aC Sl.size l<=1048576->CM s d N u l
 |N,l,u,hN,hF,hz=>by
  obtain⟨_,h2,_⟩:=uB h;have a1:=aJ Sl.au l;have e:∀k,(List.flatMap (K7 s d N u) (l.take k)).length<=N:=λk=>by obtain⟨m,v,g2⟩:=hF;obtain⟨q,x,g4⟩:=It v k;have p:Fu d N (l.take k):=⟨q,x,om⟩;rw[<-Is p];exact(mL p).1
  refine aS [8] func284 ?_;rw[Is hF];refine .ae ?_;refine KV l Sl.C Au.C 8 (λk=>(l.take k).flatMap (K7 s d N u)) 9 (λk=>[(10, .int .i64 k),(2, .str u),(3, .slice (l.map Sl.C) .no),(4, .ac s.C),(5, .ac d.C)]) rfl (λk y d1 x1 o=> ?_) (λ_=> ?_) eU
  ·have a:(l.take (k+1)).flatMap (K7 s d N u)=(l.take k).flatMap (K7 s d N u)++K7 s d N u l[k]:=by rw[List.take_succ_eq_append_getElem y,List.flatMap_append];simp
   have a2:=e k;have a4:=aN (size:=Sl.size) o;have a3:=l[k].ay;obtain⟨f0,i,j⟩:=hF.sub o;have hw:=Ff s u l[k] hs;have hf:=K4 d l[k].name om;have X:=Ol (RW s d hs h (N-1) l[k].O (dH s u l[k]) om i om);have a0:=(mL (s:=s) (u:=dH s u l[k]) i).1;have hj:l[k].kind=1->_:=λq=>Ol (RW s d hs h (N-1) (cM d l[k].name).1.O (cM d l[k].name).1.on om (j q) (r8 h _))
   have c:l[k].kind=1->_:=λq=>(mL (s:=s) (u:=(cM d l[k].name).1.on) (j q)).1
   rw[<-l[k].bc]at X;have z:K7 s d N u l[k]=if l[k].kind=0 then [⟨u,l[k]⟩] else if l[k].kind=2 then cO s d (N-1) l[k].O (dH s u l[k]) else if l[k].kind=1 then cO s d (N-1) (cM d l[k].name).1.O (cM d l[k].name).1.on else []:=rfl
   rw[z]at a;generalize (l.take k).flatMap (K7 s d N u)=ys at *;generalize cO s d (N-1) l[k].O (dH s u l[k])=us at *;generalize cO s d (N-1) (cM d l[k].name).1.O (cM d l[k].name).1.on=vs at *;by_cases f:l[k].kind=0
   ·have r:(l[k].kind==0)=true:=by simp[f]
    rw[if_pos f]at a;repeat' first|refine .br ?_|refine .s1 ?_|(refine .q ?_ ?_<;>intro O)|refine bW (n:=ys.length) rfl rfl rfl rfl rfl rfl rfl rfl (length_map ..) rfl Wa Wa rfl ?_|fail
    exact ny (ys++[⟨u,l[k]⟩]) (by exact a)
   have r:(l[k].kind==0)=false:=by simp[f]
   rw[if_neg f]at a;by_cases g:l[k].kind=2
   ·have t:(l[k].kind==2)=true:=by simp[g]
    rw[if_pos g]at a;repeat' first|refine .br ?_|refine .s1 ?_|(refine .q ?_ ?_<;>intro O)|refine bW (n:=ys.length) rfl rfl rfl rfl rfl rfl rfl rfl (length_map ..) (tX _) XV WF rfl ?_|fail
    exact ny (ys++us) (by exact a) (h4:=by simp)
   have t:(l[k].kind==2)=false:=by simp[g]
   rw[if_neg g]at a;by_cases b:l[k].kind=1
   ·have e1:(l[k].kind==1)=true:=by simp[b]
    rw[if_pos b]at a;have hj:=hj b;have c:=c b;repeat' first|refine .br ?_|refine .s1 ?_|(refine .q ?_ ?_<;>intro O)|refine bW (n:=ys.length) rfl rfl rfl rfl rfl rfl rfl rfl (length_map ..) (tX _) XV WF rfl ?_|fail
    exact ny (ys++vs) (by exact a) (h4:=by simp)
   ·have e1:(l[k].kind==1)=false:=by simp[b]
    rw[if_neg b,append_nil]at a;repeat' first|refine .br ?_|refine .s1 ?_|(refine .q ?_ ?_<;>intro O)|fail
    exact ny ys (by exact a)
  ·rw[take_length];refine .go ?_;exact⟨rfl,rfl⟩
termination_by N=>N
decreasing_by all_goals omega
structure Bc(d:AR)(N:Nat)(p:Au):Prop where
 fu:Fu d N p.x.O
 sz:p.x.size<=1048576
theorem Bc.O{p:Au}(h:Bc d N p):aC Sl.size p.x.O<=1048576:=by have:=h.sz;have:=p.x.ay;omega
def K8{s:AJ}(f:d.size<=1048576){a b:Au}(ha:Bc d N a)(hb:Bc d N b):(oW s d N a b).length<=N+N/\∀p∈oW s d N a b,0<N/\Bc d (N-1) p:=by
 obtain⟨g,c⟩:=mL (s:=s) (u:=dH s a.aw a.x) ha.fu;obtain⟨i,e⟩:=mL (s:=s) (u:=dH s b.aw b.x) hb.fu;unfold oW;refine⟨YA,λp hp=> ?_⟩;rcases List.mem_append.1 hp with h|h
 ·exact⟨(c p h).1,(c p h).2,r9 s f N _ _ ha.O p h⟩
 ·exact⟨(e p h).1,(e p h).2,r9 s f N _ _ hb.O p h⟩
def RX(s:AJ)(d:AR)(hs:s.size<=1048576)(e:d.size<=1048576)(N:Nat)(c:N<=64)(a b:Au)(ha:Bc d N a)(hb:Bc d N b):AN prog 331 [s.C,d.C,a.C,b.C] (.slice ((oW s d N a b).map Au.C) .no):=by
 have f:=Ff s a.aw a.x hs;have g:=Ff s b.aw b.x hs;have h3:=RW s d hs e N a.x.O (dH s a.aw a.x) c ha.fu ha.O;have h4:=Ol (RW s d hs e N b.x.O (dH s b.aw b.x) c hb.fu hb.O);have h:=(mL (s:=s) (u:=dH s a.aw a.x) ha.fu).1;have i:=(mL (s:=s) (u:=dH s b.aw b.x) hb.fu).1;unfold CM at h3;rw[<-a.x.bc]at h3;rw[<-b.x.bc]at h4;refine pEn 8 func331 ?_ (O:=by simp[-map_map,AV.K,eU]) (ha:=by simp[aA,AJ.K,AR.K,Au.K]);unfold oW;generalize cO s d N a.x.O (dH s a.aw a.x)=ys at *;generalize cO s d N b.x.O (dH s b.aw b.x)=j at *;repeat' first|refine .br ?_|refine .s1 ?_|(refine .q ?_ ?_<;>intro O)|refine jR rfl rfl h3 (by simp[aA,AV.K,Sl.cb,AJ.K,AR.K]) (aB _) (by simp[AV.ab, -map_map,aD,eU]) rfl ?_|refine bW (n:=ys.length) rfl rfl rfl rfl rfl rfl rfl rfl (length_map ..) (tX _) XV WF rfl ?_|fail
 exact aP rfl (AC.no (AA.eq (map_append ..).symm))
def Om(s:AJ)(d:AR)(hs:s.size<=1048576)(f:d.size<=1048576):∀(N:Nat),N<=64->∀a b:Au,Bc d N a->Bc d N b->AN prog 329 [s.C,d.C,a.C,b.C] (.bool (pG s d (N+1) a b))
 |N,n,a,b,ha,hb=>by
  have m:=RT a.x;have h2:=RT b.x;have h3:=C2 s a.aw a.x.name hs;have h4:=C2 s b.aw b.x.name hs;have h5:=aAR s (aK s a.aw a.x.name).1.t (aK s b.aw b.x.name).1.t hs;have h6:=RX s d hs f N n a b ha hb;obtain⟨h7,h⟩:=K8 (s:=s) f ha hb;have E:∀p∈oW s d N a b,∀q∈oW s d N a b,AN prog 329 [s.C,d.C,p.C,q.C] (.bool (pG s d N p q)):=λp hp q e=>by obtain⟨e1,i⟩:=h p hp;have:=Om s d hs f (N-1) om p q i (h q e).2;rwa [show N-1+1=N by omega]at this
  refine pEn 8 func329 ?_ (ha:=by simp[aA,AJ.K,AR.K,Au.K]);rw[pG];generalize oW s d N a b=l at *;generalize c:jU (pG s d N) [] l=r at *;repeat' first|refine .br ?_|refine .s1 ?_|(refine .q ?_ ?_<;>intro O)|fail
  all_goals try first|exact mV|fail
  refine K3 l Au.C (pG s d N) (λk=>[(14, .int .i64 k),(4, .ac s.C),(5, .ac d.C),(13, .slice (l.map Au.C) .no)]) (λk m u x1 o e=> ?_) (λ_ e=> ?_)
  ·repeat' first|refine .br ?_|refine .s1 ?_|(refine .q ?_ ?_<;>intro O)|fail
   refine Od l k om Au.C (λy=>pG s d N y l[k]) (λj=>[(15, .int .i64 j),(14, .int .i64 k),(4, .ac s.C),(5, .ac d.C),(13, .slice (l.map Au.C) .no)]) (λj w z v x2 g hb=> ?_) (λ_ hb=> ?_)
   ·have O:=E l[j] g l[k] o;rw[c]at e;repeat' first|refine .br ?_|refine .s1 ?_|(refine .q ?_ ?_<;>intro O)|fail
    all_goals first|exact mV|exact nx|exact nx (h3:=by simp[aQ,aL,Ob.ab,aE,AV.ab,aD,bZ,b9,aZ])|fail
   ·repeat' first|refine .br ?_|refine .s1 ?_|(refine .q ?_ ?_<;>intro O)|fail
    all_goals first|exact mV|exact nx|exact nx (h3:=by simp[aQ,aL,Ob.ab,aE,AV.ab,aD,bZ,b9,aZ])|fail
  ·rw[c]at e;exact .wc
termination_by N=>N
decreasing_by omega
def On(s:AJ)(d:AR)(N:Nat)(l:List Au)(m:l.length<=1048576)(E:∀p∈l,∀q∈l,AN prog 313 [s.C,d.C,p.C,q.C] (.bool (DO s d N p q))):AN prog 283 [s.C,d.C, .slice (l.map Au.C) .no] (.bool (jU (DO s d N) [] l)):=by
 refine pEn 6 func283 ?_ (ha:=by simp[aA,AV.K,AJ.K,AR.K,eU]);refine .ae ?_;refine K3 l Au.C (DO s d N) (λk=>[(7, .int .i64 k),(3, .ac s.C),(4, .ac d.C),(2, .slice (l.map Au.C) .no)]) (λk i e x1 b c=> ?_) (λ_ c=> ?_)
 ·generalize jU (DO s d N) [] l=r at *
  repeat' first|refine .br ?_|refine .s1 ?_|(refine .q ?_ ?_<;>intro O)|fail
  refine Od l k om Au.C (λy=>DO s d N y l[k]) (λj=>[(8, .int .i64 j),(7, .int .i64 k),(3, .ac s.C),(4, .ac d.C),(2, .slice (l.map Au.C) .no)]) (λj g h f n a hb=> ?_) (λ_ hb=> ?_)
  ·have O:=E l[j] a l[k] b
   repeat' first|refine .br ?_|refine .s1 ?_|(refine .q ?_ ?_<;>intro O)|fail
   all_goals first|exact mV|exact nx|exact nx (h3:=by simp[aQ,aL,Ob.ab,aE,AV.ab,aD,bZ,b9,aZ])|fail
  ·repeat' first|refine .br ?_|refine .s1 ?_|(refine .q ?_ ?_<;>intro O)|fail
   all_goals first|exact mV|exact nx|exact nx (h3:=by simp[aQ,aL,Ob.ab,aE,AV.ab,aD,bZ,b9,aZ])|fail
 ·generalize jU (DO s d N) [] l=r at *
  exact .wc
def Iu(s:AJ)(d:AR)(hs:s.size<=1048576)(c:d.size<=1048576):∀(N:Nat),N<=64->∀a b:Au,Bc d N a->Bc d N b->AN prog 313 [s.C,d.C,a.C,b.C] (.bool (DO s d (N+1) a b))
 |N,g,a,b,ha,hb=>by
  have n:=RT a.x
  have o:=RT b.x
  have h3:=Om s d hs c N g a b ha hb
  have h4:=wI s a.aw hs
  have t:=wI s b.aw hs
  have u:=RX s d hs c N g a b ha hb
  obtain⟨v,f⟩:=K8 (s:=s) c ha hb
  have e1:=a.x.ay
  have e:=b.x.ay
  have i:=ha.sz
  have j:=hb.sz
  have k:=aJ AF.au a.x.args
  have m:=aJ AF.au b.x.args
  have w:=aAS a.x.args b.x.args om om
  have y:=On s d N (oW s d N a b) om λp hp q h=>by
   obtain⟨e1,e⟩:=f p hp
   have:=Iu s d hs c (N-1) om p q e (f q h).2
   rwa [show N-1+1=N by omega]at this
  refine pEn 8 func313 ?_ (ha:=by simp[aA,AJ.K,AR.K,Au.K])
  rw[DO]
  unfold aAF
  generalize oW s d N a b=l at *
  generalize jU (DO s d N) [] l=r at *
  generalize pG s d (N+1) a b=q at *
  exact .wc
termination_by N=>N
decreasing_by omega
def MT(s:AJ)(d:AR)(hs:s.size<=1048576)(e:d.size<=1048576):∀(M:Nat) (l:List Sl) (u:AG),aC Sl.size l<=M->M<=1048576->Fu d 64 l->AN prog 231 [s.C,d.C, .str u, .slice (l.map Sl.C) .no] (.bool (kS s d 64 l u))
 |M,l,u,h,y,hF=>by
  have g:=aJ Sl.au l
  have v:=Ol (RW s d hs e 64 l u om hF om)
  obtain⟨w,h3⟩:=mL (s:=s) (u:=u) hF
  have c:∀p∈cO s d 64 l u,Bc d 63 p:=λp hp=>⟨(h3 p hp).2,r9 s e 64 l u om p hp⟩
  have z:=On s d 64 (cO s d 64 l u) om λp hp q i=>Iu s d hs e 63 om p q (c p hp) (c q i)
  refine pEn 8 func231 ?_
  rw[PL]
  generalize cO s d 64 l u=f at *
  generalize jU (DO s d 64) [] f=r at *
  repeat' first|refine .br ?_|refine .s1 ?_|(refine .q ?_ ?_<;>intro O)|fail
  ·exact mV
  refine mW l Sl.C (λx => !(decide (0<x.O.length) && !kS s d 64 x.O (dH s u x))) (λk=>[(9, .int .i64 k),(2, .str u),(3, .slice (l.map Sl.C) .no),(4, .ac s.C),(5, .ac d.C)]) (λk t o x1 a ha=> ?_) (λ_ ha=> ?_)
  ·have n:=aN (size:=Sl.size) a
   have m:=l[k].ay
   have hw:=Ff s u l[k] hs
   have X:=MT s d hs e (M-1) l[k].O (dH s u l[k]) om om ((hF.sub a).2.1.mono om)
   rw[<-l[k].bc]at X
   have j:=l[k].cj
   generalize l.all (λx => !(decide (0<x.O.length) && !kS s d 64 x.O (dH s u x)))=b at *
   generalize kS s d 64 l[k].O (dH s u l[k])=q at *
   repeat' first|refine .br ?_|refine .s1 ?_|(refine .q ?_ ?_<;>intro O)|fail
   all_goals first|exact mV|exact nx|exact nx (h3:=by simp[aQ,aL,Ob.ab,aE,AV.ab,aD,bZ,b9,aZ])|fail
  ·generalize l.all (λx => !(decide (0<x.O.length) && !kS s d 64 x.O (dH s u x)))=b at *
   exact .wc
termination_by M=>M
decreasing_by have:=(l[k]).au;omega
structure CQ(d:AR):Prop where
 ops:∀o∈d.ops,Fu d 64 o.O
 aj:∀f∈d.aj,Fu d 64 f.O
def Ui(s:AJ)(d:AR)(hs:s.size<=1048576)(a:d.size<=1048576)(hf:CQ d):AN prog 154 [s.C,d.C] (.bool (JC s d)):=by
 obtain⟨h0,i,_⟩:=uB a;refine pEn 4 func154 ?_;unfold JC;refine .ae ?_;refine mW d.ops Ak.C (λo=>kS s d 64 o.O (aW s o)) (λk=>[(5, .int .i64 k),(2, .ac s.C),(3, .ac d.C)]) (λk h g x1 e ha=> ?_) (λ_ ha=> ?_)
 ·have h3:=Vq s d.ops[k];have h4:=MT s d hs a 1048576 d.ops[k].O (aW s d.ops[k]) (K5 a e) (le_refl _) (hf.ops _ e);generalize d.ops.all (λo=>kS s d 64 o.O (aW s o))=b at *
  exact .wc
 ·generalize d.ops.all (λo=>kS s d 64 o.O (aW s o))=b at *
  refine .go ?_;refine mW d.aj Af.C (λf=>kS s d 64 f.O f.on) (λk=>[(6, .int .i64 k),(2, .ac s.C),(3, .ac d.C)]) (λk h g x1 e hb=> ?_) (λ_ hb=> ?_)
  ·have h4:=MT s d hs a 1048576 d.aj[k].O d.aj[k].on (C3 a e) (le_refl _) (hf.aj _ e);generalize d.aj.all (λf=>kS s d 64 f.O f.on)=c at *
   exact .wc
  ·generalize d.aj.all (λf=>kS s d 64 f.O f.on)=c at *
   exact .wc
def Uj(l:List AF)(n:AG):AG:=(bT n l).1.s
def okR(l:List AF)(n:AG):Bool:=(bT n l).1.kind==4&&(bT n l).1.s != []
theorem Oo(n:AG):∀l:List AF,(bT n l).2=false->(bT n l).1=bP
 |[],_=>rfl
 |m::l,h=>by
  rw[bT]at h ⊢;split at h
  ·cases h
  ·rename_i c;rw[if_neg c];exact Oo n l h
theorem Oq(l:List AF)(n:AG):okR l n=true↔(bT n l).2=true/\(bT n l).1.kind=4/\(bT n l).1.s≠[]:=by
 unfold okR;rw[and_eq_true,beq_iff_eq,bne_iff_ne];constructor
 ·rintro⟨a,b⟩;refine⟨?_,a,b⟩;cases h:(bT n l).2 with
  |true=>rfl
  |false=>rw[Oo n l h]at a;exact absurd a Wd
 ·simp_all
theorem K9(l:List AF):∀ns:List AG,uG l ns=if ns.all (okR l)=true then some (ns.map (Uj l)) else none
 |[]=>rfl
 |n::ns=>by
  rw[uG,K9 l ns,List.all_cons,List.map_cons];by_cases c:okR l n=true
  ·rw[if_pos ((Oq l n).1 c),c,Bool.true_and];split<;>rfl
  ·rw[if_neg (λx=>c ((Oq l n).2 x)),if_neg (by rw[and_eq_true];exact λx=>c x.1)]
def qB(l:List AF)(ns:List AG):List AG×Bool:=if ns.all (okR l)=true then (ns.map (Uj l),decide (l.length=ns.length)) else ([],false)
def wM(l:List AF)(ns:List AG):dF l ns=if (qB l ns).2=true then some (qB l ns).1 else none:=by unfold dF qB;rw[K9];grind
def DR{t1 t2:Nat}{s:AE}{a b r:AV}(d:lk? s t1=some a)(e:lk? s t2=some b)(hw:AC (.tup [a,b]) r):∃c,Av.ret (gG s [t1,t2]) = .ret c/\AC c r:=
 ⟨_,rfl,Wt⟩
def C4(l:List AF)(ns:List AG)(t:l.length<=68719476736)(m:ns.length<=4):AN prog 206 [.slice (l.map AF.C) .no, .slice (ns.map AV.str) .no] (.tup [.slice ((qB l ns).1.map AV.str) .no, .bool (qB l ns).2]):=by
 refine AI.plain WY (by simp[AV.K,aA,aR,aT]) (aS [4,5] func206 ?_);unfold qB;refine .go ?_;refine eX 6 false 1 rfl rfl rfl rfl rfl rfl ?_;refine bK ns.length (λk=>[(7, .int .i64 k),(0, .slice (l.map AF.C) .no),(1, .slice (ns.map AV.str) .no),(6, .slice (((ns.take k).map (Uj l)).map AV.str) (.own 0 1))])
  (λk=>⟨[],[.len k]⟩) (λk=>(ns.take k).all (okR l)=true) Z9 rfl Wb λk hk hj=> ?_
 have d:(((ns.take k).map (Uj l)).map AV.str).length=k:=Wl
 by_cases c:k<ns.length
 ·have j:decide ((k:Int)<(ns.length:Int))=true:=by simp[c]
  have x1:=aV (f:=AV.str) c;have r:=wH ns[k] l om;have b:=Hn (p:=okR l) c hj;have a:=Ho (p:=okR l) c;unfold okR at b a;cases e:((bT ns[k] l).1.kind==4)<;>rw[e]at b a
  ·have ha:ns.all (okR l)=false:=a rfl;have o:((bT ns[k] l).1.kind != 4)=true:=by unfold bne;rw[e];rfl
   rw[ha];refine .go ?_;exact DR rfl rfl (AC.tup (AA.cons (AC.no (aB _)) (aB _)))
  have o:((bT ns[k] l).1.kind != 4)=false:=by unfold bne;rw[e];rfl
  cases i:((bT ns[k] l).1.s==[])
  ·have h:((bT ns[k] l).1.s != [])=true:=by unfold bne;rw[i];rfl
   rw[h]at b;have g:=b rfl;repeat' first|refine .s1 ?_|(refine .q ?_ ?_<;>intro O)|refine bW (n:=k) rfl rfl rfl rfl rfl rfl rfl rfl d rfl Wa Wa rfl ?_|fail
   exact⟨c,⟨rfl,rfl,rfl,by rw[List.take_succ_eq_append_getElem c,map_append,map_append];rfl,trivial⟩,YY,WO,rfl,g⟩
  ·have h:((bT ns[k] l).1.s != [])=false:=by unfold bne;rw[i];rfl
   rw[h]at a;have ha:ns.all (okR l)=false:=a rfl;rw[ha];refine .go ?_;exact DR rfl rfl (AC.tup (AA.cons (AC.no (aB _)) (aB _)))
 ·have j:decide ((k:Int)<(ns.length:Int))=false:=by simp;omega
  obtain rfl:k=ns.length:=om
  rw[take_length]at hj d;rw[take_length,hj];refine .go ?_;refine DR rfl rfl (AC.tup (AA.cons (AC.no (aB _)) (AA.cons (AC.eq (congrArg AV.bool ?_)) (aB _))));rw[Bool.eq_iff_iff,beq_iff_eq,if_pos rfl,decide_eq_true_eq];omega
def mZ(d:AO):BO×Bool:=
 if d.name=nW then (match dF d.args [Dm] with|some [a]=>(⟨0,[],a,[],[]⟩,true)|_=>(sK,false))
 else if d.name=Dl then (match dF d.args [dL,nW] with|some [a,b]=>(⟨1,a,b,[],[]⟩,true)|_=>(sK,false))
 else if d.name=JX then (match dF d.args [dL,JY] with|some [a,b]=>(⟨2,a,[],b,[]⟩,true)|_=>(sK,false))
 else if d.name=sDo then (match dF d.args [uI,dL] with
  |some [a,b]=>(⟨3,b,[],[],a⟩,a==Qk||(a==Ql||a==IN))
  |_=>match dF d.args [uI,dL,nW] with|some [a,b,c]=>(⟨3,b,c,[],a⟩,a==aDF)|_=>(sK,false))
 else (sK,false)
def d8{x:AV}{xs:List AV}{t:Tk}:AA [x, .slice xs t] [x, .slice xs .no]:=AA.cons (aG _) (AA.cons (AC.no (aB _)) (aB _))
def aAX(d:AO)(k:d.args.length<=68719476736):AN prog 130 [d.C] (.tup [(mZ d).1.C, .bool (mZ d).2]):=by
 have p:=C4 d.args [Dm] k Wd;have r:=C4 d.args [dL,nW] k Wd;have h3:=C4 d.args [dL,JY] k Wd;have h4:=C4 d.args [uI,dL] k Wd;have e:=C4 d.args [uI,dL,nW] k Wd;have f:=wM d.args [Dm];have g:=wM d.args [dL,nW];have h:=wM d.args [dL,JY];have i:=wM d.args [uI,dL];have j:=wM d.args [uI,dL,nW];refine AI.plain WU (by simp[AV.K,aA,AO.K]) (cE [.cell 2 169, .tmp 3] func130 ?_);unfold mZ;have v:(d.name==[99,111,108])=decide (d.name=nW):=by unfold nW;rw[Bool.eq_iff_iff];simp
 have w:(d.name==[108,105,110,107])=decide (d.name=Dl):=by unfold Dl;rw[Bool.eq_iff_iff];simp
 have x:(d.name==[103,101,116])=decide (d.name=JX):=by unfold JX;rw[Bool.eq_iff_iff];simp
 have y:(d.name==[100,111])=decide (d.name=sDo):=by unfold sDo;rw[Bool.eq_iff_iff];simp
 by_cases l:d.name=nW
 ·rw[decide_eq_true l]at v;rw[if_pos l];generalize qB d.args [Dm]=q at p f;obtain⟨xs,ok⟩:=q;dsimp only at p f;cases ok with
  |false=>
   rw[if_neg Wd]at f;rw[f];repeat' first|refine .br ?_|refine .s1 ?_|(refine .q ?_ ?_<;>intro O)|refine aH rfl p d8 ?_|fail
   exact aO
  |true=>
   rw[if_pos rfl]at f;obtain⟨a,rfl,_⟩:=uH f;rw[f];have t:([a].map AV.str)[0]? =some (AV.str a):=rfl;repeat' first|refine .br ?_|refine .s1 ?_|(refine .q ?_ ?_<;>intro O)|refine aH rfl p d8 ?_|fail
   exact aO
 rw[decide_eq_false l]at v;rw[if_neg l];by_cases m:d.name=Dl
 ·rw[decide_eq_true m]at w;rw[if_pos m];generalize qB d.args [dL,nW]=q at r g;obtain⟨xs,ok⟩:=q;dsimp only at r g;cases ok with
  |false=>
   rw[if_neg Wd]at g;rw[g];repeat' first|refine .br ?_|refine .s1 ?_|(refine .q ?_ ?_<;>intro O)|refine aH rfl r d8 ?_|fail
   exact aO
  |true=>
   rw[if_pos rfl]at g;obtain⟨a,b,rfl,_⟩:=gE g;rw[g];have t:([a,b].map AV.str)[0]? =some (AV.str a):=rfl;have u:([a,b].map AV.str)[1]? =some (AV.str b):=rfl;repeat' first|refine .br ?_|refine .s1 ?_|(refine .q ?_ ?_<;>intro O)|refine aH rfl r d8 ?_|fail
   exact aO
 rw[decide_eq_false m]at w;rw[if_neg m];by_cases n:d.name=JX
 ·rw[decide_eq_true n]at x;rw[if_pos n];generalize qB d.args [dL,JY]=q at h3 h;obtain⟨xs,ok⟩:=q;dsimp only at h3 h;cases ok with
  |false=>
   rw[if_neg Wd]at h;rw[h];repeat' first|refine .br ?_|refine .s1 ?_|(refine .q ?_ ?_<;>intro O)|refine aH rfl h3 d8 ?_|fail
   exact aO
  |true=>
   rw[if_pos rfl]at h;obtain⟨a,b,rfl,_⟩:=gE h;rw[h];have t:([a,b].map AV.str)[0]? =some (AV.str a):=rfl;have u:([a,b].map AV.str)[1]? =some (AV.str b):=rfl;repeat' first|refine .br ?_|refine .s1 ?_|(refine .q ?_ ?_<;>intro O)|refine aH rfl h3 d8 ?_|fail
   exact aO
 rw[decide_eq_false n]at x;rw[if_neg n];by_cases o:d.name=sDo;case neg=>rw[decide_eq_false o]at y;rw[if_neg o];refine .ae ?_;exact aO
 rw[decide_eq_true o]at y;rw[if_pos o];generalize qB d.args [uI,dL]=q at h4 i;obtain⟨xs,ok⟩:=q;dsimp only at h4 i;cases ok with
 |true=>
  rw[if_pos rfl]at i;obtain⟨a,b,rfl,_⟩:=gE i;rw[i];have t:([a,b].map AV.str)[0]? =some (AV.str a):=rfl;have u:([a,b].map AV.str)[1]? =some (AV.str b):=rfl;have j1:(a==[112,117,116])=(a==Qk):=rfl;have j2:(a==[99,117,116])=(a==Ql):=rfl;have z:(a==[98,117,114,110])=(a==IN):=rfl;dsimp only;cases b1:(a==Qk)<;>rw[b1]at j1
  ·cases b2:(a==Ql)<;>rw[b2]at j2
   ·cases b3:(a==IN)<;>rw[b3]at z
    all_goals
     repeat' first|refine .br ?_|refine .s1 ?_|(refine .q ?_ ?_<;>intro O)|refine aH rfl h4 d8 ?_|refine aH rfl e d8 ?_|fail
     exact aI rfl (AC.tup (AA.cons (aG _) (AA.cons (AC.eq (congrArg AV.bool z)) (aB _))))
   ·repeat' first|refine .br ?_|refine .s1 ?_|(refine .q ?_ ?_<;>intro O)|refine aH rfl h4 d8 ?_|refine aH rfl e d8 ?_|fail
    exact aO
  ·repeat' first|refine .br ?_|refine .s1 ?_|(refine .q ?_ ?_<;>intro O)|refine aH rfl h4 d8 ?_|refine aH rfl e d8 ?_|fail
   exact aO
 |false=>
  rw[if_neg Wd]at i;rw[i];dsimp only;generalize qB d.args [uI,dL,nW]=q at e j;obtain⟨ys,ok⟩:=q;dsimp only at e j;cases ok with
  |false=>
   rw[if_neg Wd]at j;rw[j];repeat' first|refine .br ?_|refine .s1 ?_|(refine .q ?_ ?_<;>intro O)|refine aH rfl h4 d8 ?_|refine aH rfl e d8 ?_|fail
   exact aO
  |true=>
   rw[if_pos rfl]at j;obtain⟨a,b,c,rfl,_⟩:=pJ j;rw[j];have t:([a,b,c].map AV.str)[0]? =some (AV.str a):=rfl;have u:([a,b,c].map AV.str)[1]? =some (AV.str b):=rfl;have y2:([a,b,c].map AV.str)[2]? =some (AV.str c):=rfl;repeat' first|refine .br ?_|refine .s1 ?_|(refine .q ?_ ?_<;>intro O)|refine aH rfl h4 d8 ?_|refine aH rfl e d8 ?_|fail
   exact aO
def aAY(s:AJ)(name:AG)(hs:s.size<=1048576):AN prog 132 [s.C, .str name] (.bool (m8 s name)):=by
 have e:=EQ s name hs;have f:=uA s name hs;have h3:=Cv (jG s name) s.av (by have:=sT s name (show s.size<=1048640 by omega);omega);refine AI.plain rfl Wn (aS [4] func132 ?_);unfold m8;cases c:g8 s name<;>rw[c]at e
 ·refine .ae ?_;exact bY
 cases b:(s.av==[])
 ·have a:(s.av != [])=true:=by unfold bne;rw[b];rfl
  rw[a];cases d:decide (s.av∈jG s name)<;>rw[d]at h3
  all_goals
   repeat' first|refine .br ?_|refine aH rfl h3 (aB _) ?_|refine .s1 ?_|(refine .q ?_ ?_<;>intro O)|fail
   exact bY
 ·have a:(s.av != [])=false:=by unfold bne;rw[b];rfl
  rw[a];refine .ae ?_;exact bY
def MU(f:Ag)(arg:AG):Bool:=match sB f.params arg with
 |none=>false
 |some p=>(p.t.name==sID||p.t.name==dC)&&p.t.an==f.t.an
def RY(s:AJ)(u:AG)(f:Ag)(b:BO):Bool:=
 if b.how=0 then !fY s u&&dT s f.t.name
 else if b.how=1 then !fY s u&&m8 s f.t.name
 else if b.how=2 then (!fY s u&&m8 s f.t.name)&&MU f b.arg
 else if b.how=3 then fY s u&&(f.t.an==0&&(dT s f.t.name||m8 s f.t.name))
 else false
def RZ(f:Ag):Option BO:=match f.ar with
 |[]=>some ⟨0,[],f.name,[],[]⟩
 |[d]=>if (mZ d).2=true then some (mZ d).1 else none
 |_=>none
def ofQ(s:AJ)(u:AG)(f:Ag):BO×Bool:=if f.name=aY then (sK,false) else match RZ f with
 |none=>(sK,false)
 |some b=>if RY s u f b=true then (b,true) else (sK,false)
theorem La(d:AO)(h:(mZ d).2=true):(mZ d).1.how=0\/(mZ d).1.how=1\/(mZ d).1.how=2\/(mZ d).1.how=3:=by
 unfold mZ at h ⊢
 repeat' split at h
 all_goals first|(cases h;done)|(simp_all;done)
def PQ{l:List AF}{xs ys:List AG}{a b c d e:AG}(h:dF l [a,b]=some xs)(k:dF l [c,d,e]=some ys):False:=by
 unfold dF at h k;split at h
 ·split at k
  ·simp_all
  ·cases k
 ·cases h
def R2(f:Ag)(d:AO):(JZ f d).2=((mZ d).2&&(if (mZ d).1.how=2 then MU f (mZ d).1.arg else true))/\((JZ f d).2=true->(JZ f d).1=(mZ d).1):=by
 unfold JZ mZ;by_cases g:d.name=nW
 ·rw[if_pos g,if_pos g];cases e:dF d.args [Dm] with
  |none=>exact⟨rfl,λ_=>rfl⟩
  |some xs=>obtain⟨x,rfl,_⟩:=uH e;exact⟨rfl,λ_=>rfl⟩
 rw[if_neg g,if_neg g];by_cases i:d.name=Dl
 ·rw[if_pos i,if_pos i];cases e:dF d.args [dL,nW] with
  |none=>exact⟨rfl,λ_=>rfl⟩
  |some xs=>obtain⟨x,y,rfl,_⟩:=gE e;exact⟨rfl,λ_=>rfl⟩
 rw[if_neg i,if_neg i];by_cases j:d.name=JX
 ·rw[if_pos j,if_pos j];cases e:dF d.args [dL,JY] with
  |none=>exact⟨rfl,λ_=>rfl⟩
  |some xs=>
   obtain⟨x,y,rfl,_⟩:=gE e;dsimp only;unfold Qm MU;cases o:sB f.params y with
   |none=>exact⟨rfl,λh=>W0⟩
   |some p=>
    dsimp only;by_cases l:(p.t.name=sID\/p.t.name=dC)/\p.t.an=f.t.an
    ·rw[if_pos l];refine⟨?_,λ_=>rfl⟩;rw[if_pos rfl,Bool.true_and,eq_comm,and_eq_true,Bool.or_eq_true];simpa using l
    ·rw[if_neg l];refine⟨?_,λh=>W0⟩;rw[if_pos rfl,Bool.true_and,eq_comm,Bool.eq_false_iff,ne_eq,and_eq_true,Bool.or_eq_true];simpa using l
 rw[if_neg j,if_neg j];by_cases k:d.name=sDo
 ·rw[if_pos k,if_pos k];unfold doB;cases n:dF d.args [uI,dL,nW] with
  |some xs=>
   obtain⟨a,b,c,rfl,_⟩:=pJ n;cases m:dF d.args [uI,dL] with
   |some ys=>exact(PQ m n).elim
   |none=>exact⟨Wb,λ_=>rfl⟩
  |none=>
   cases m:dF d.args [uI,dL] with
   |some ys=>obtain⟨a,b,rfl,_⟩:=gE m;exact⟨Wb,λ_=>rfl⟩
   |none=>exact⟨rfl,λ_=>rfl⟩
 ·rw[if_neg k,if_neg k];exact⟨rfl,λ_=>rfl⟩
theorem R4{s:AJ}{f:Ag}{b:BO}(h:b.how=0\/b.how=1\/b.how=2\/b.how=3):RY s u f b=(DX s u f b.how&&(if b.how=2 then MU f b.arg else true)):=by
 unfold RY DX;have e:(f.t.an==0)=decide (f.t.an=0):=Yb
 rcases h with h|h|h|h
 ·simp[h,Bool.and_comm]
 ·simp[h,Bool.and_comm]
 ·rw[h];simp only[reduceIte,show ¬(2:Int)=0 by decide,show ¬(2:Int)=1 by decide,show ¬(2:Int)=3 by decide];cases fY s u<;>cases m8 s f.t.name<;>cases MU f b.arg<;>rfl
 ·rw[h,e];simp only[reduceIte,show ¬(3:Int)=0 by decide,show ¬(3:Int)=1 by decide,show ¬(3:Int)=2 by decide];cases fY s u<;>cases m8 s f.t.name<;>cases dT s f.t.name<;>cases decide (f.t.an=0)<;>rfl
theorem aAZ(s:AJ)(u:AG)(f:Ag):ofB s u f=ofQ s u f:=by
 unfold ofB ofQ;by_cases hn:f.name=aY
 ·rw[if_pos hn,if_neg (λx=>x.2.1 hn)]
 rw[if_neg hn];unfold jO RZ
 match j:f.ar with
 |[]=>
  dsimp only;rw[R4 (.inl rfl)];by_cases c:DX s u f 0=true
  ·rw[if_pos ⟨rfl,hn,c⟩,c];simp
  ·rw[if_neg (λx=>c x.2.2),if_neg WA]
 |[d]=>
  dsimp only;obtain⟨e,g⟩:=R2 f d;by_cases c:(mZ d).2=true
  ·rw[if_pos c];dsimp only;rw[R4 (La d c)];rw[c,Bool.true_and]at e;by_cases a:(JZ f d).2=true
   ·rw[g a];rw[<-e,a,Bool.and_true];by_cases b:DX s u f (mZ d).1.how=true
    ·rw[if_pos ⟨rfl,hn,b⟩,if_pos b]
    ·rw[if_neg (λx=>b x.2.2),if_neg b]
   ·rw[if_neg (λx=>a x.1), <-e,if_neg Ww]
  ·rw[if_neg c];dsimp only;have:(JZ f d).2=false:=by rw[e];simp[c]
   rw[if_neg (by simp[this])]
 |d::h::i=>dsimp only;rw[if_neg Wb]
def aC4(s:AJ)(u:AG)(f:Ag)(hs:s.size<=1048576)(hf:f.size<=1048640):AN prog 84 [s.C, .str u,f.C] (.tup [(ofB s u f).1.C, .bool (ofB s u f).2]):=by
 have ab:=f.b0;have aa:=aJ AP.au f.params;have k:=GD s f.t.name hs;have m:=aAY s f.t.name hs;have i1:(f.name==[95,95,116,121,112,101,110,97,109,101])=decide (f.name=aY):=by unfold aY;rw[Bool.eq_iff_iff];simp
 refine AI.plain WU XK (cE [.cell 6 169, .tmp 7] func84 ?_);rw[aAZ];unfold ofQ;by_cases q:f.name=aY
 ·rw[decide_eq_true q]at i1;rw[if_pos q];refine .ae ?_;exact aO
 rw[decide_eq_false q]at i1;rw[if_neg q];unfold RZ
 match i:f.ar with
 |d::d2::ds=>
  have e2:decide ((1:Int)<(f.ar.length:Int))=true:=by rw[i];simp;omega
  refine .ae ?_;exact aO
 |[]=>
  have e2:decide ((1:Int)<(f.ar.length:Int))=false:=Ya
  have e3:((f.ar.length:Int)==1)=false:=Ya
  dsimp only;unfold RY;rw[if_pos rfl];unfold fY;cases v:(s.av != [])
  ·cases a:dT s f.t.name<;>rw[a]at k
   all_goals
    refine .ae ?_;exact aO
  ·cases c:(u==s.av)
   ·have h:(!(u==s.av))=true:=by rw[c];rfl
    cases a:dT s f.t.name<;>rw[a]at k
    all_goals
     refine .ae ?_;exact aO
   ·have h:(!(u==s.av))=false:=by rw[c];rfl
    refine .ae ?_;exact aO
 |[d]=>
  have e2:decide ((1:Int)<(f.ar.length:Int))=false:=Ya
  have e3:((f.ar.length:Int)==1)=true:=Ya
  have x1:(f.ar.map AO.C)[0]? =some d.C:=Ya
  have a9:d.size<=f.size:=by have:=aN (size:=AO.size) (l:=f.ar) (x:=d) (by rw[i];simp);omega
  have a8:d.args.length<=d.size:=Zc
  have hF:=aAX d om;have n:=La d;dsimp only;generalize mZ d=r at *
  obtain⟨b,ok⟩:=r;dsimp only at *
  cases ok with
  |false=>rw[if_neg Wd];refine .ae ?_;exact aO
  |true=>
   rw[if_pos rfl];dsimp only;have hh:=n rfl;have hP:=Oi f.params b.arg om;have hQ:MU f b.arg=((qC f.params b.arg).2&&((qC f.params b.arg).1.t.name==sID||(qC f.params b.arg).1.t.name==dC)&&(qC f.params b.arg).1.t.an==f.t.an):=by
    unfold MU qC;cases sB f.params b.arg with
    |none=>rfl
    |some p=>dsimp only;rw[Bool.true_and]
   generalize qC f.params b.arg=pr at hP hQ;obtain⟨p,e⟩:=pr;dsimp only at hP hQ;have j1:(p.t.name==[73,68])=(p.t.name==sID):=rfl;have j2:(p.t.name==[83,116,114,105,110,103])=(p.t.name==dC):=rfl;unfold RY;rw[hQ];unfold fY;rcases hh with hk|hk|hk|hk
   ·have w:(b.how==0)=true:=by simp[hk]
    have y:(b.how==1)=false:=X2
    have z:(b.how==2)=false:=X2
    have k3:(b.how==3)=false:=X2
    rw[if_pos hk];cases v:(s.av != [])
    ·cases a:dT s f.t.name<;>rw[a]at k
     all_goals
      refine .ae ?_;exact aO
    ·cases c:(u==s.av)
     ·have h:(!(u==s.av))=true:=by rw[c];rfl
      cases a:dT s f.t.name<;>rw[a]at k
      all_goals
       refine .ae ?_;exact aO
     ·have h:(!(u==s.av))=false:=by rw[c];rfl
      refine .ae ?_;exact aO
   ·have w:(b.how==0)=false:=by simp[hk]
    have y:(b.how==1)=true:=X2
    have z:(b.how==2)=false:=X2
    have k3:(b.how==3)=false:=X2
    rw[if_neg (show ¬b.how=0 by omega),if_pos hk];cases v:(s.av != [])
    ·cases a:m8 s f.t.name<;>rw[a]at m
     all_goals
      refine .ae ?_;exact aO
    ·cases c:(u==s.av)
     ·have h:(!(u==s.av))=true:=by rw[c];rfl
      cases a:m8 s f.t.name<;>rw[a]at m
      all_goals
       refine .ae ?_;exact aO
     ·have h:(!(u==s.av))=false:=by rw[c];rfl
      refine .ae ?_;exact aO
   ·have w:(b.how==0)=false:=by simp[hk]
    have y:(b.how==1)=false:=X2
    have z:(b.how==2)=true:=X2
    have k3:(b.how==3)=false:=X2
    rw[if_neg (show ¬b.how=0 by omega),if_neg (show ¬b.how=1 by omega),if_pos hk];cases v:(s.av != [])
    ·cases a:m8 s f.t.name<;>rw[a]at m
     ·refine .ae ?_;exact aO
     cases e
     ·refine .ae ?_;exact aO
     cases o:(p.t.name==sID)<;>rw[o]at j1
     ·cases w3:(p.t.name==dC)<;>rw[w3]at j2
      ·refine .ae ?_;exact aO
      cases g:(p.t.an==f.t.an)
      ·have j:(!(p.t.an==f.t.an))=true:=by rw[g];rfl
       refine .ae ?_;exact aO
      have j:(!(p.t.an==f.t.an))=false:=by rw[g];rfl
      refine .ae ?_;exact aO
     cases g:(p.t.an==f.t.an)
     ·have j:(!(p.t.an==f.t.an))=true:=by rw[g];rfl
      refine .ae ?_;exact aO
     have j:(!(p.t.an==f.t.an))=false:=by rw[g];rfl
     refine .ae ?_;exact aO
    ·cases c:(u==s.av)
     ·have h:(!(u==s.av))=true:=by rw[c];rfl
      cases a:m8 s f.t.name<;>rw[a]at m
      ·refine .ae ?_;exact aO
      cases e
      ·refine .ae ?_;exact aO
      cases o:(p.t.name==sID)<;>rw[o]at j1
      ·cases w3:(p.t.name==dC)<;>rw[w3]at j2
       ·refine .ae ?_;exact aO
       cases g:(p.t.an==f.t.an)
       ·have j:(!(p.t.an==f.t.an))=true:=by rw[g];rfl
        refine .ae ?_;exact aO
       have j:(!(p.t.an==f.t.an))=false:=by rw[g];rfl
       refine .ae ?_;exact aO
      cases g:(p.t.an==f.t.an)
      ·have j:(!(p.t.an==f.t.an))=true:=by rw[g];rfl
       refine .ae ?_;exact aO
      have j:(!(p.t.an==f.t.an))=false:=by rw[g];rfl
      refine .ae ?_;exact aO
     ·have h:(!(u==s.av))=false:=by rw[c];rfl
      refine .ae ?_;exact aO
   ·have w:(b.how==0)=false:=by simp[hk]
    have y:(b.how==1)=false:=X2
    have z:(b.how==2)=false:=X2
    have k3:(b.how==3)=true:=X2
    rw[if_neg (show ¬b.how=0 by omega),if_neg (show ¬b.how=1 by omega),if_neg (show ¬b.how=2 by omega),if_pos hk];cases v:(s.av != [])
    ·refine .ae ?_;exact aO
    ·cases c:(u==s.av)
     ·have h:(!(u==s.av))=true:=by rw[c];rfl
      refine .ae ?_;exact aO
     ·have h:(!(u==s.av))=false:=by rw[c];rfl
      cases w0:(f.t.an==0)
      ·have n7:(!(f.t.an==0))=true:=by rw[w0];rfl
       refine .ae ?_;exact aO
      have n7:(!(f.t.an==0))=false:=by rw[w0];rfl
      cases a:dT s f.t.name<;>rw[a]at k
      ·cases o:m8 s f.t.name<;>rw[o]at m
       all_goals
        refine .ae ?_;exact aO
      refine .ae ?_;exact aO
theorem C5(d:AR)(b:Nat):∀(x y:List Sl) (n:Nat),eF d b (x++y) n=eF d b y (eF d b x n)
 |[],y,n=>by rw[mY];rfl
 |x::l,y,n=>by
  rw[List.cons_append,mK,mK]
  split
  ·split
   ·exact C5 d b l y _
   ·exact C5 d b l y _
  ·rename_i h
   cases y with
   |nil=>rw[mY]
   |cons z y=>rw[mK,if_neg h]
def qO{d:AR}(a:d.size<=1048576):∀(b S:Nat) (l:List Sl) (n:Nat),aC Sl.size l<=S->eF d b l n<=n\/eF d b l n<=b * 1048579+S
 |b,S,[],n,h=>by rw[mY];exact .inl (le_refl _)
 |b,S,x::l,n,h=>by
  rw[aC]at h
  have hx:=x.ay
  have f:=x.au
  rw[mK]
  split
  case isFalse=>exact .inl (le_refl _)
  rename_i hn
  have g:=qO a (b-n) (aC Sl.size x.O) x.O 0 (le_refl _)
  have c:eF d (b-n) x.O 0<=(b-n) * 1048579+aC Sl.size x.O:=om
  generalize eF d (b-n) x.O 0=A at *
  split
  ·rename_i hk
   have i:=qO a (b-(n+1+A)) 1048576 (cM d x.name).1.O 0 (r8 a _)
   have e:eF d (b-(n+1+A)) (cM d x.name).1.O 0<=(b-(n+1+A)) * 1048579+1048576:=om
   generalize eF d (b-(n+1+A)) (cM d x.name).1.O 0=B at *
   rcases qO a b (aC Sl.size l) l (n+1+A+B) (le_refl _) with h1|h1
   ·right;omega
   ·right;omega
  ·rcases qO a b (aC Sl.size l) l (n+1+A) (le_refl _) with h1|h1
   ·right;omega
   ·right;omega
termination_by b S l=>(b,fN l)
decreasing_by
 all_goals simp_wf
 all_goals first
  |(apply Prod.Lex.left;omega)
  |(rcases Nat.eq_zero_or_pos n with h0|h0
    ·subst h0;rw[Nat.sub_zero];apply Prod.Lex.right;cases x;simp only[fN,Sl.size,Sl.O]at *; omega
    ·apply Prod.Lex.left;omega)
  |(apply Prod.Lex.right;cases x;simp only[fN,Sl.size]at *; omega)
end Go.Proofs.YtimbiifcnhgcoaaGreatDoor
