/- Joined texts. -/
import Derived.Test.YtdodieljpcfpcaaGreatDoorGEvR8
set_option maxRecDepth 100000
set_option maxHeartbeats 16000000
set_option linter.all false
open List (cons_append getElem?_append_left getElem?_append_right length_append length_cons length_map length_nil mem_append mem_cons mem_of_find?_eq_some mem_singleton)
open Nat (le_refl le_trans zero_le)
open Go Go.Av Go.Proofs.YtdodieljpcfpcaaGreatDoor Go.Proofs.Tryz
variable{α:Type}{name:AF}{a:AV}{p:Array TypeId}{c:Bool}{k:Int}{m:List AG}{J:List AV}{l:List AY}{b:List MF}{B n z:Nat}{Q:Row->Prop}
namespace Go.Proofs.YtdodieljpcfpcaaGreatDoor
open Go Go.Av Go.Proofs.Tryz
def Nv{n:AF}{v:AH}(h:(oU n v).2≠0):(oU n v).1=bO:=by
 unfold oU at h ⊢;split
 ·rfl
 ·rename_i b;rw[if_neg b]at h;split
  ·rename_i a;rw[if_pos a]at h;exact absurd rfl h
  ·rename_i a;rw[if_neg a]at h;split
   ·rename_i c;rw[if_pos c]at h;exact absurd rfl h
   ·rfl
def Nw{wr:Bool}{d:Ag}{str:AF}(h:(uI wr d k str).2≠0):(uI wr d k str).1=bO:=by
 unfold uI at h ⊢;by_cases c:k=(if wr=true then 5 else 4)/\str∈d.aw
 ·rw[if_pos c]at h;exact absurd rfl h
 ·rw[if_neg c]
def LR{s:AI}{wr:Bool}{A:List AG}{dfl:AO->VE}{a:List MF}{d:Ag}(h:(nA s wr A dfl a d).2≠0):(nA s wr A dfl a d).1=bO:=by
 unfold nA at h ⊢;by_cases c:Fg wr A a d.params=true
 ·rw[if_pos c]
 ·rw[if_neg c]at h ⊢;dsimp only at h ⊢;by_cases q:(lA s wr true A dfl a d.params).2≠0
  ·rw[if_pos q]
  ·rw[if_neg q]at h;exact absurd rfl h
def NA(s:AI)(wr:Bool)(A:List AG)(dfl:AO->VE)(name:AF)(v:AH)(a:List MF)(h:(mF s wr A dfl name v a).2≠0):(mF s wr A dfl name v a).1=bO:=by
 unfold mF at h ⊢;cases hf:dQ s name with
 |none=>rfl
 |some d=>
  rw[hf]at h;dsimp only at h ⊢;by_cases b:d.kind=0
  ·rw[if_pos b]at h ⊢; exact Nv h
  ·rw[if_neg b]at h ⊢;by_cases c:d.kind=4
   ·rw[if_pos c]at h ⊢; exact Nw h
   ·rw[if_neg c]at h ⊢;by_cases e:d.kind=5
    ·rw[if_pos e]at h ⊢;by_cases f:v.kind=7
     ·rw[if_pos f]at h ⊢; exact LR h
     ·rw[if_neg f]
    ·rw[if_neg e]
theorem rM(s:AI)(wr:Bool)(A:List AG)(dfl:AO->VE)(v:AH)(t:Ae):mkV s wr A dfl v t=
  if wr=true/\v.kind=8 then (match oF A v.s with
   |some x=>if x.kind=0/\isT t=true then (bO,9) else (x,0)
   |none=>if isT t=true then (bO,9) else (bO,0))
  else if v.kind=0 then (if isT t=true then (bO,9) else (v,0))
  else if cC t=true/\t.ak≠0 then
   (if v.kind=6 then (if (mkL s wr A dfl v.l (b7 t)).2≠0 then (bO,(mkL s wr A dfl v.l (b7 t)).2) else (.mk 6 0 [] (mkL s wr A dfl v.l (b7 t)).1 [],0))
   else IB t.ak.toNat (mF s wr A dfl t.name v (mkM s wr A dfl v.m)))
  else mF s wr A dfl t.name v (mkM s wr A dfl v.m):=by cases v;rw[mkV];rfl
theorem LS{s:AI}{wr:Bool}{A:List AG}{dfl:AO->VE}{v:AH}{t:Ae}(h:¬(wr=true/\v.kind=8))(h0:v.kind≠0)(g:v.kind≠6)(hr:cC t=true)(hl:t.ak≠0)(f:cC (b7 t)=true):
  mkV s wr A dfl v t=if (mkV s wr A dfl v (b7 t)).2≠0 then (bO,(mkV s wr A dfl v (b7 t)).2) else (.mk 6 0 [] [(mkV s wr A dfl v (b7 t)).1] [],0):=by
 have j:=(fW.1 hr).2.1;have hn:t.ak.toNat=(b7 t).ak.toNat+1:=by show t.ak.toNat=(t.ak-1).toNat+1;omega
 have e:mkV s wr A dfl v (b7 t)=IB (b7 t).ak.toNat (mF s wr A dfl t.name v (mkM s wr A dfl v.m)):=by
  rw[rM,if_neg h,if_neg h0,if_neg g];by_cases c:(b7 t).ak≠0
  ·rw[if_pos ⟨f,c⟩];rfl
  ·rw[if_neg (λx=>c x.2)];have hz:(b7 t).ak.toNat=0:=by have:(b7 t).ak=0:=WY;rw[this];rfl
   rw[hz];show mF s wr A dfl t.name v _=_;generalize mF s wr A dfl t.name v (mkM s wr A dfl v.m)=b;obtain⟨i,d⟩:=b;unfold IB;by_cases hb:d=0
   ·subst hb;rfl
   ·simp[hb]
 rw[e,rM,if_neg h,if_neg h0,if_neg g,if_pos ⟨hr,hl⟩,hn];have a:=NA s wr A dfl t.name v (mkM s wr A dfl v.m);generalize mF s wr A dfl t.name v (mkM s wr A dfl v.m)=b at a;obtain⟨i,d⟩:=b;simp only at a;unfold IB;by_cases hb:d=0
 ·subst hb;rfl
 ·have:=a hb;subst this;simp[hb]
attribute [local irreducible] AB AD AN AQ Av.AS AZ
def S7(s:AI)(within:Bool)(A:List AG)(dfl:AO->VE)(v:AH)(t:Ae)(e:v.kind=8)(he:A.length<=68719476736)(ht:t.name.length<=68719476736):
  AN prog 315 [mkE s true within A,t.C,v.C] (VE.C (mkV s true A dfl v t)):=by
 have a:=get v.s A om;have X:=wIs t om;rw[kH]at a;rw[rM,if_pos ⟨rfl,e⟩];have g:=beT e;refine pER [.cell 6 43, .tmp 7] func315 (O:=VE.K _) (ha:=by simp[AV.K,aB,eA,Ae.K,AH.K]) ?_;cases b:oF A v.s with
 |none=>
  rw[b]at a;cases c:isT t with
  |true=>
   rw[c]at X;rw[if_pos rfl]
   repeat' first|refine AD.br (d:=3) ?_|refine AD.br (d:=4) ?_|refine .s1 ?_|(refine .q ?_ ?_<;>intro O)|fail
   exact aI rfl bP
  |false=>
   rw[c]at X;rw[if_neg Wc]
   repeat' first|refine AD.br (d:=3) ?_|refine AD.br (d:=4) ?_|refine .s1 ?_|(refine .q ?_ ?_<;>intro O)|fail
   exact aO
 |some x=>
  rw[b]at a;dsimp only;by_cases x0:x.kind=0
  ·have f:=beT x0;cases c:isT t with
   |true=>
    rw[c]at X;rw[if_pos (show x.kind=0/\true=true from⟨x0,rfl⟩)]
    repeat' first|refine AD.br (d:=3) ?_|refine AD.br (d:=4) ?_|refine .s1 ?_|(refine .q ?_ ?_<;>intro O)|fail
    exact aI rfl bP
   |false=>
    rw[c]at X;rw[if_neg (show ¬(x.kind=0/\false=true) by simp)]
    repeat' first|refine AD.br (d:=3) ?_|refine AD.br (d:=4) ?_|refine .s1 ?_|(refine .q ?_ ?_<;>intro O)|fail
    exact aO
  ·have f:=beF x0;rw[if_neg (λh=>x0 h.1)]
   repeat' first|refine AD.br (d:=3) ?_|refine AD.br (d:=4) ?_|refine .s1 ?_|(refine .q ?_ ?_<;>intro O)|fail
   exact aO
def Qm(s:AI)(hs:s.size<=68719476736)(wr within:Bool)(A:List AG)(dfl:AO->VE)(v:AH)(t:Ae)(p:¬(wr=true/\v.kind=8))(hv:v.size<=68719476736)(ht:t.name.length<=68719476736)(h0 : -9223372036854775808<=v.n)(h1:v.n<=9223372036854775807)
  (g:cC t=true/\t.ak≠0->v.kind≠0->AN prog 331 [mkE s wr within A,(b7 t).C,v.C] (VE.C (mkV s wr A dfl v t)))
  (u:∀d,dQ s t.name=some d->d.kind=5->AN prog 334 [mkE s wr within A,d.C,v.C] (VE.C (if v.kind=7 then nA s wr A dfl (mkM s wr A dfl v.m) d else (bO,7)))):
  AN prog 315 [mkE s wr within A,t.C,v.C] (VE.C (mkV s wr A dfl v t)):=by
 have X:=wIs t om;have f:=Sw t om;have hf:=Lp s t.name hs;refine pER [.cell 6 43, .tmp 7] func315 (O:=VE.K _) (ha:=by simp[AV.K,aB,eA,Ae.K,AH.K]) ?_;have hw:wr=false\/(wr=true/\(v.kind==8)=false):=by
  cases wr with
  |false=>exact .inl rfl
  |true=>exact .inr ⟨rfl,by simpa using p⟩
 by_cases j:v.kind=0
 ·have q0:=beT j;rw[rM,if_neg p,if_pos j];cases c:isT t with
  |true=>
   rw[c]at X;rw[if_pos rfl];rcases hw with rfl|⟨rfl,q8⟩
   all_goals
    refine .ac ?_;exact aI rfl bP
  |false=>
   rw[c]at X;rw[if_neg Wc];rcases hw with rfl|⟨rfl,q8⟩
   all_goals
    refine .ac ?_;exact aO
 ·have q0:=beF j;unfold fZ at f;by_cases k:cC t=true/\t.ak≠0
  ·rw[if_pos k]at f;have hl:=g k j;generalize mkV s wr A dfl v t=r at hl;obtain⟨x,w⟩:=r;unfold VE.C at hl;simp only at hl;rcases hw with rfl|⟨rfl,q8⟩
   all_goals
    refine .ac ?_;exact aO
  ·rw[if_neg k]at f;rw[rM,if_neg p,if_neg j,if_neg k];unfold mF;unfold bN at hf;cases b:dQ s t.name with
   |none=>
    rw[b]at hf;rcases hw with rfl|⟨rfl,q8⟩
    all_goals
     refine .ac ?_;exact aI rfl bP
   |some d=>
    rw[b]at hf;dsimp only at hf ⊢;by_cases l:d.kind=0
    ·have y:=beT l;rw[if_pos l];have h:=UV t.name v h0 h1;generalize oU t.name v=r at h;obtain⟨x,w⟩:=r;unfold VE.C at h;simp only at h;rcases hw with rfl|⟨rfl,q8⟩
     all_goals
      refine .ac ?_;exact aO
    ·have y:=beF l;rw[if_neg l];by_cases o:d.kind=4
     ·have z:=beT o;rw[if_pos o];have q:d.aw.length<=9223372036854775807:=by have:=(iC (name:=t.name) hs).2.1;unfold bN at this;rw[b]at this;simp only at this;omega
      have e:=aCv s wr within A d v q;generalize uI wr d v.kind v.s=r at e;obtain⟨x,w⟩:=r;unfold VE.C at e;simp only at e;rcases hw with rfl|⟨rfl,q8⟩
      all_goals
       refine .ac ?_;exact aO
     ·have z:=beF o;rw[if_neg o];by_cases i:d.kind=5
      ·have e5:=beT i;rw[if_pos i];have a:=u d b i;generalize (if v.kind=7 then nA s wr A dfl (mkM s wr A dfl v.m) d else (bO,7))=r at a;obtain⟨x,w⟩:=r;unfold VE.C at a;simp only at a;rcases hw with rfl|⟨rfl,q8⟩
       all_goals
        refine .ac ?_;exact aO
      ·have e5:=beF i;rw[if_neg i];rcases hw with rfl|⟨rfl,q8⟩
       all_goals
        refine .ac ?_;exact aI rfl bP
def NB(s:AI)(wr within:Bool)(A:List AG)(dfl:AO->VE)(v:AH)(t:Ae)(hv:v.size<=68719476736)(ht:t.name.length<=68719476736)
  (d:cC t=true->AN prog 315 [mkE s wr within A,t.C,v.C] (VE.C (mkV s wr A dfl v t))):
  AN prog 293 [mkE s wr within A,t.C,v.C] (VE.C (qC s wr A dfl t v)):=by
 have hr:=MZ t om;have c:=aCQ v hv;refine pER [.cell 6 43, .tmp 7] func293 (O:=VE.K _) (ha:=by simp[AV.K,aB,eA,Ae.K,AH.K]) ?_;unfold qC;cases a:cC t with
 |false=>rw[a]at hr;rw[if_neg Wa];refine .ac ?_;exact aI rfl bP
 |true=>
  rw[a]at hr;cases b:g7 fT v with
  |false=>rw[b]at c;rw[if_neg Wa];refine .ac ?_;exact aI rfl bP
  |true=>rw[b]at c;rw[if_pos ⟨rfl,rfl⟩];have hk:=d a;generalize mkV s wr A dfl v t=r at hk;obtain⟨f,e⟩:=r;unfold VE.C at hk;simp only at hk;refine .ac ?_;exact aO
def EV{v:AH}(h:v.ok):(-9223372036854775808<=v.n/\v.n<=9223372036854775807)/\(∀x∈v.l,x.ok)/\∀x∈v.m,x.v.ok:=by
 cases v;rw[AH.ok]at h;obtain⟨h1,h2,h3,h4⟩:=h;unfold Lit.wf IntKind.min IntKind.max at h2;rw[Bool.and_eq_true,decide_eq_true_eq,decide_eq_true_eq]at h2;refine⟨⟨h2.1,h2.2⟩,λx Y=> ?_,λx Y=> ?_⟩
 ·have a:∀l:List AH,l6 l->∀x∈l,x.ok:=λl=>by
   induction l with
   |nil=>intro _ x Y;simp at Y
   |cons y l E=>
    intro h x Y;rw[l6]at h;rcases mem_cons.1 Y with rfl|Y
    ·exact h.1
    ·exact E h.2 x Y
  exact a _ h3 x Y
 ·have a:∀l:List AG,l9 l->∀x∈l,x.v.ok:=λl=>by
   induction l with
   |nil=>intro _ x Y;simp at Y
   |cons y l E=>
    intro h x Y;obtain⟨n,v⟩:=y;rw[l9]at h;rcases mem_cons.1 Y with rfl|Y
    ·exact h.1
    ·exact E h.2 x Y
  exact a _ h4 x Y
def HD(s:AI)(dfl:AO->VE):Prop:=∀d∈s.ah,∀p∈d.params,eC s p.t.name=true->AN prog 293 [mkE s true false [],p.t.C,p.d.C] (VE.C (dfl p))
def LT{s:AI}{d:Ag}(h:dQ s name=some d)(hk:d.kind=5):d∈s.ah:=by
 unfold dQ at h;split at h
 ·cases h;exact absurd hk (show (0:Int)≠5 by decide)
 ·exact mem_of_find?_eq_some h
theorem IK{s:AI}{d:Ag}(h:dQ s name=some d)(hk:d.kind=5):eC s name=false:=by unfold eC fJ bN;rw[h];simp only[Bool.true_and,decide_eq_false_iff_not];rw[hk];decide
def IL(s:AI)(hs:s.size<=68719476736)(wr:Bool)(A:List AG)(dfl:AO->VE)(he:A.length<=68719476736)(v:AH)(t:Ae)(within:Bool)(hv:v.size<=68719476736)(l:v.ok)(ht:t.name.length<=68719476736)(O:eC s t.name=true\/HD s dfl)
  (g:∀x:AH,x.size<v.size->x.ok->∀t:Ae,t.name.length<=68719476736->(eC s t.name=true\/HD s dfl)->∀within:Bool,AN prog 315 [mkE s wr within A,t.C,x.C] (VE.C (mkV s wr A dfl x t)))
  (c:cC t=true/\t.ak≠0->AN prog 315 [mkE s wr within A,(b7 t).C,v.C] (VE.C (mkV s wr A dfl v (b7 t)))):
  AN prog 315 [mkE s wr within A,t.C,v.C] (VE.C (mkV s wr A dfl v t)):=by
 obtain⟨⟨r0,r1⟩,n,o⟩:=EV l;by_cases i:wr=true/\v.kind=8
 ·obtain⟨rfl,k8⟩:=i;exact S7 s within A dfl v t k8 he ht
 ·refine Qm s hs wr within A dfl v t i hv ht r0 r1 (λb w=> ?_) (λd f q=> ?_)
  ·by_cases j:v.kind=6
   ·have h:=aAw s wr within A (b7 t) v (λx=>mkV s wr A dfl x (b7 t)) j hv (λx Y=>by obtain⟨k,hk,rfl⟩:=List.getElem_of_mem Y;exact g _ (dI hk) (n _ Y) (b7 t) ht O within)
    rw[rM,if_neg i,if_neg w,if_pos b,if_pos j,JY];exact h
   ·rw[LS i w j b.1 b.2 (wR b.1 b.2)];exact aAx s wr within A (b7 t) v _ j (c b)
  ·have e:HD s dfl:=O.elim (λh=>by rw[IK f q]at h;cases h) id;have u:=LT f q;have z:=lP u;have y:=d.lens;have a0:=v.b3;have a:∀p∈d.params,p.t.name.length<=68719476736:=λp hp=>by have:=Ag.b2 hp;have:=p.lens;omega
   have r:=LP s wr true A v.m d.params (oY s wr true A dfl (mkM s wr A dfl v.m)) om (λp hp=>OX s hs wr true A v.m dfl dfl p he om (a p hp)
    (λx Y=>by obtain⟨k,hk,rfl⟩:=List.getElem_of_mem Y;have hz:=dP hk;exact NB s wr true A dfl _ p.t om (a p hp) (λ_=>g _ hz (o _ Y) p.t (a p hp) (.inr e) true))
    (λ_ hl=>hl.elim (λh=>Wu) (λh=>e d u p hp h)))
   rw[<-sU]at r;have h:=aAv s wr within A d v _ he hv om (by rw[v.bf];exact r);unfold nA;rw[Hj];exact h
def S8(s:AI)(hs:s.size<=68719476736)(wr:Bool)(A:List AG)(dfl:AO->VE)(he:A.length<=68719476736):∀N:Nat,N<=68719476736->∀v:AH,v.size<=N->v.ok->∀(j:Nat) (t:Ae),t.ak.toNat=j->t.name.length<=68719476736->(eC s t.name=true\/HD s dfl)->∀within:Bool,
  AN prog 315 [mkE s wr within A,t.C,v.C] (VE.C (mkV s wr A dfl v t))
 |0,_,v,hv=>absurd hv Xp
 |N+1,g,v,hv=>by
  have E:=S8 s hs wr A dfl he N om
  intro b j
  induction j with
  |zero=>
   intro t hj ht O within
   exact IL s hs wr A dfl he v t within om b ht O (λx Y d u e a w=>E x om d _ u rfl e a w) (λ⟨c,h0⟩=>absurd (fW.1 c).2.1 om)
  |succ j f=>
   intro t hj ht O within
   exact IL s hs wr A dfl he v t within om b ht O (λx Y d u e a w=>E x om d _ u rfl e a w) (λ_=>f (b7 t) (by show (t.ak-1).toNat=j;omega) ht O within)
def AI.bz(s:AI):Prop:=∀d∈s.ah,∀p∈d.params,p.d.ok
def UW(s:AI)(hs:s.size<=68719476736)(a:s.bz):HD s (cX s):=λd b p hp hl=>by
 have h1:=lP b
 have h2:=Ag.b2 hp
 have h3:=p.lens
 exact NB s true false [] IC p.d p.t om om (λ_=>S8 s hs true [] IC Wc 68719476736 (le_refl _) p.d om (a d b p hp) _ p.t rfl om (.inl hl) false)
def IM(s:AI)(hs:s.size<=68719476736)(a:s.bz)(wr within:Bool)(A:List AG)(he:A.length<=68719476736)(v:AH)(t:Ae)(hv:v.size<=68719476736)(b:v.ok)(ht:t.name.length<=68719476736):
  AN prog 293 [mkE s wr within A,t.C,v.C] (VE.C (qC s wr A (cX s) t v)):=
 NB s wr within A (cX s) v t hv ht (λ_=>S8 s hs wr A (cX s) he 68719476736 (le_refl _) v hv b _ t rfl ht (.inr (UW s hs a)) within)
def LU(s:AI)(hs:s.size<=68719476736)(a:s.bz)(wr:Bool)(ps:List AO)(g A:List AG)(f:aA AO.size ps<=68719476736)(c:∀p∈ps,p.d.ok)(h:aA AG.size g<=68719476736)(b:∀m∈g,m.v.ok)(he:A.length<=68719476736):
  AN prog 180 [mkE s wr false A, .slice (ps.map AO.C) .no, .slice (g.map AG.C) .no] (.tup [.slice ((lA s wr false A (lC s) (mkM s wr A (cX s) g) ps).1.map AG.C) .no, .int .i64 (lA s wr false A (lC s) (mkM s wr A (cX s) g) ps).2]):=by
 have hpl:=aJ AO.au ps;have e:=aJ AG.au g;rw[sU];refine LP s wr false A g ps _ om (λp hp=> ?_);have h1:=aN (size:=AO.size) hp;have h2:=p.lens;refine OX s hs wr false A g (cX s) (lC s) p he om om (λx Y=> ?_) (λ_ _=> ?_)
 ·have h3:=aN (size:=AG.size) Y;have h4:x.size=x.name.length+2+x.v.size:=rfl;exact IM s hs a wr false A he x.v p.t om (b x Y) om
 ·exact IM s hs a true false [] Wc p.d p.t om (c p hp) om
def UX(s:AI)(hs:s.size<=68719476736)(b:s.bz)(ps:List AO)(g A:List AG)(e:aA AO.size ps<=68719476736)(c:∀p∈ps,p.d.ok)(f:aA AG.size g<=68719476736)(a:∀m∈g,m.v.ok)(he:A.length<=68719476736):
  AN prog 115 [s.C, .slice (ps.map AO.C) .no, .slice (g.map AG.C) .no, .slice (A.map AG.C) .no] (.tup [.slice ((dV s ps g A).1.map AG.C) .no, .int .i64 (dV s ps g A).2]):=by have ha:=LU s hs b true ps g A e c f a he;refine AQ.plain XK XG (cK [8,9] func115 ?_);unfold dV;generalize lA s true false A (lC s) (mkM s true A (cX s) g) ps=r at ha;refine .ac ?_;exact n9 rfl rfl (aG _)
def g8{n:AF}{a:AF}{b c:Int}{t1 t2:Tk}:AC (.agg [.str n, .slice [] t1, .str a, .int .i64 b, .int .i64 c, .slice [] t2]) (Ah.C ⟨n,[],⟨a,b,c⟩,[]⟩):=
 AC.agg (AA.cons (aG _) (AA.cons (AC.no (aD _)) (AA.cons (aG _) (AA.cons (aG _) (AA.cons (aG _) (AA.cons (AC.no (aD _)) (aD _)))))))
def UY(x:Ah)(name:AF):AN prog 179 [x.C, .ab (.str name)] (.bool (x.name==name)):=by refine pEn 3 func179 ?_;refine .ac ?_;exact bW
def IN{s:AI}{u name:AF}(h:name=bC)(O:fQ s u=true):aK s u name=(⟨bC,[],⟨cW,0,1⟩,[]⟩,true):=by unfold aK iW;rw[if_pos ⟨h,O⟩,h]
def IP{s:AI}{u name:AF}(h:¬(name=bC/\fQ s u=true))(hk:¬((bN s u).1.kind=1\/(bN s u).1.kind=2)):aK s u name=(qB,false):=by unfold aK iW;rw[if_neg h,if_neg hk]
def IQ{s:AI}{u name:AF}(h:¬(name=bC/\fQ s u=true))(hk:(bN s u).1.kind=1\/(bN s u).1.kind=2):aK s u name=match M0 (bN s u).1.fields name with|none=>(qB,false)|some f=>(f,true):=by unfold aK iW;(rw[if_neg h,if_pos hk])<;>(cases M0 (bN s u).1.fields name<;>rfl)
def Qn{s:AI}{n:AF}(h:(bN s n).2=false):(bN s n).1.kind=0:=by
 unfold bN at h ⊢;split
 ·rename_i d a;rw[a]at h;cases h
 ·rfl
def aAy(s:AI)(u name:AF)(hs:s.size<=68719476736):AN prog 114 [s.C, .str u, .str name] (.tup [(aK s u name).1.C, .bool (aK s u name).2]):=by
 have g:=zS s u hs;have hF:=Lp s u hs;have z:=(iC (name:=u) hs).2.2.2.1;have h:=MR (bN s u).1.fields 179 [.ab (.str name)] (λp=>p.name==name) om rfl (λx _=>UY x name);have e1 := @IN s u name;have v := @IP s u name;have w := @IQ s u name;have y := @Qn s u;refine pER [.cell 6 61, .tmp 7] func114 ?_;by_cases c:name=bC/\fQ s u=true
 ·obtain⟨q,t⟩:=c;rw[e1 q t];subst q;rw[t]at g;have a:(bC==[95,95,116,121,112,101,110,97,109,101])=true:=by decide
  refine .ac ?_;refine aI rfl ?_;exact AC.tup (AA.cons g8 (aD _))
 ·have hn:(name==[95,95,116,121,112,101,110,97,109,101])=true->fQ s u=false:=λY=>by
   have:name=bC:=by unfold bC;simpa using Y
   cases m:fQ s u with
   |false=>rfl
   |true=>exact absurd ⟨this,m⟩ c
  by_cases k:(bN s u).1.kind=1\/(bN s u).1.kind=2
  ·rw[w c k];have n:(bN s u).2=true:=by
    cases b:(bN s u).2 with
    |true=>rfl
    |false=>have:=y b;omega
   have i:((bN s u).1.kind != 1)=true->((bN s u).1.kind != 2)=false:=λY=>by
    rcases k with k|k
    ·rw[k]at Y;cases Y
    ·rw[k];rfl
   generalize bN s u=r at *
   obtain⟨d,ok⟩:=r;dsimp only at *
   subst n;rcases eV (λp:Ah=>p.name==name) d.fields 0 with⟨h1,h2⟩|⟨j,hj,h1,h2⟩
   ·rw[h1]at h;have l:M0 d.fields name=none:=h2;rw[l];cases e:name==[95,95,116,121,112,101,110,97,109,101]
    ·cases a:d.kind != 1
     ·refine .ac ?_;refine aI rfl ?_;exact AC.tup (AA.cons g8 (aD _))
     ·have o:=i a;refine .ac ?_;refine aI rfl ?_;exact AC.tup (AA.cons g8 (aD _))
    ·rw[hn e]at g;cases a:d.kind != 1
     ·refine .ac ?_;refine aI rfl ?_;exact AC.tup (AA.cons g8 (aD _))
     ·have o:=i a;refine .ac ?_;refine aI rfl ?_;exact AC.tup (AA.cons g8 (aD _))
   ·rw[h1]at h;have l:M0 d.fields name=some d.fields[j]:=h2;rw[l];have d1:decide (((0+j:Nat):Int)<0)=false:=decide_eq_false om;have x1:(d.fields.map Ah.C)[0+j]? =some d.fields[j].C:=by rw[Nat.zero_add];exact aU (f:=Ah.C) hj
    cases e:name==[95,95,116,121,112,101,110,97,109,101]
    ·cases a:d.kind != 1
     ·refine .ac ?_;exact aO
     ·have o:=i a;refine .ac ?_;exact aO
    ·rw[hn e]at g;cases a:d.kind != 1
     ·refine .ac ?_;exact aO
     ·have o:=i a;refine .ac ?_;exact aO
  ·rw[v c k];have k1:((bN s u).1.kind != 1)=true:=by rw[bne_iff_ne];exact λx=>k (.inl x)
   have k2:((bN s u).1.kind != 2)=true:=by rw[bne_iff_ne];exact λx=>k (.inr x)
   cases e:name==[95,95,116,121,112,101,110,97,109,101]
   ·cases b:(bN s u).2<;>rw[b]at hF
    ·refine .ac ?_;refine aI rfl ?_;exact AC.tup (AA.cons g8 (aD _))
    ·refine .ac ?_;refine aI rfl ?_;exact AC.tup (AA.cons g8 (aD _))
   ·rw[hn e]at g;cases b:(bN s u).2<;>rw[b]at hF
    ·refine .ac ?_;refine aI rfl ?_;exact AC.tup (AA.cons g8 (aD _))
    ·refine .ac ?_;refine aI rfl ?_;exact AC.tup (AA.cons g8 (aD _))
def Qo(s:AI):(qV s).length<=s.size:=by
 unfold qV;have a:∀l:List Ag,(l.flatMap λd=>d.params.map λp=>p.t.name).length<=aA Ag.size l:=λl=>by
  induction l with
  |nil=>simp
  |cons d l E=>rw[List.flatMap_cons,length_append,length_map];have:=d.lens;simp only[aA];omega
 have:=a s.ah;unfold AI.size;omega
def sW{t1 t2:Nat}{s:AE}{b r:AV}(h1:lk? s t1=some a)(h2:lk? s t2=some b)(hw:AC (.tup [a,b]) r):∃c,Av.ret (gK s [t1,t2]) = .ret c/\AC c r:=
 ⟨_,rfl,Wq⟩
def Hn(l:List AG)(ns:List AF):List AF×Bool:=match dD l ns with
 |some xs=>(xs,true)
 |none=>([],false)
def txt(l:List AG)(n:AF):AF:=(bR n l).1.s
def xH(l:List AG)(n:AF):Bool:=(bR n l).2&&((bR n l).1.kind==4&&(bR n l).1.s != [])
theorem EW(l:List AG):∀ns:List AF,uF l ns=if ns.all (xH l)=true then some (ns.map (txt l)) else none
 |[]=>rfl
 |n::ns=>by
  rw[uF,EW l ns,List.all_cons,List.map_cons];have e:xH l n=true↔(bR n l).2=true/\(bR n l).1.kind=4/\(bR n l).1.s≠[]:=by unfold xH;simp_all
  by_cases c:xH l n=true
  ·rw[if_pos (e.1 c),c,Bool.true_and];split<;>rfl
  ·simp_all
def Ho(l:List AG)(ns:List AF)(hl:l.length<=68719476736)(hn:ns≠[])(u:ns.length<=4):AN prog 74 [.slice (l.map AG.C) .no, .slice (ns.map AV.str) .no] (.tup [.slice ((Hn l ns).1.map AV.str) .no, .bool (Hn l ns).2]):=by
 refine AQ.plain (by simp[AV.K,aB,aR]) (by simp[AV.K,aB,aT,aR]) (cK [4,5] func74 ?_);unfold Hn dD;by_cases c:l.length=ns.length;case neg=>
  have e1:((l.length:Int) != (ns.length:Int))=true:=by rw[bne_iff_ne];omega
  rw[if_neg c];refine .go ?_;exact sW rfl rfl (AC.tup (AA.cons (AC.no (aD _)) (aD _)))
 have e1:((l.length:Int) != (ns.length:Int))=false:=by rw[c];simp
 rw[if_pos c,EW];refine .go ?_;refine eJ 6 false 1 rfl ?_;refine bK (hj:=by simp) ns.length (λk=>[(18, .int .i64 k),(17, .int .i64 ns.length),(16, .slice (ns.map AV.str) .no),(0, .slice (l.map AG.C) .no),(1, .slice (ns.map AV.str) .no),(6, .slice (((ns.take k).map (txt l)).map AV.str) (.own 0 1))]) (λk=>⟨[],[.len k]⟩) (λk=>(ns.take k).all (xH l)=true) Z0 λk hk hj=> ?_
 have g:(((ns.take k).map (txt l)).map AV.str).length=k:=Wh
 by_cases h1:k<ns.length
 ·have r:=ltT h1;have x1:=aU (f:=AV.str) h1;have t:=get ns[k] l om;have b:=Ha (p:=xH l) h1 hj;have a:=Hb (p:=xH l) h1;have e:((([]:List AV).length:Int)==(ns.length:Int))=false:=by rw[beq_eq_false_iff_ne];have:=List.length_pos_iff.2 hn;simp only[length_nil];omega
  have v:txt l ns[k]=(bR ns[k] l).1.s:=rfl;unfold xH at b a;cases o:(bR ns[k] l).2<;>rw[o]at t b a
  ·have ha:ns.all (xH l)=false:=a rfl;rw[ha];refine .go ?_;exact sW rfl rfl (AC.tup (AA.cons (AC.no (aD _)) (AA.cons (AC.eq (congrArg AV.bool e)) (aD _))))
  cases h:((bR ns[k] l).1.kind==4)<;>rw[h]at b a
  ·have ha:ns.all (xH l)=false:=a rfl;have i:((bR ns[k] l).1.kind != 4)=true:=by unfold bne;rw[h];rfl
   rw[ha];refine .go ?_;exact sW rfl rfl (AC.tup (AA.cons (AC.no (aD _)) (AA.cons (AC.eq (congrArg AV.bool e)) (aD _))))
  have i:((bR ns[k] l).1.kind != 4)=false:=by unfold bne;rw[h];rfl
  cases m:((bR ns[k] l).1.s==[])
  ·have d:((bR ns[k] l).1.s != [])=true:=by unfold bne;rw[m];rfl
   rw[d]at b;have j:=b rfl;repeat' first|refine .s1 ?_|(refine .q ?_ ?_<;>intro O)|refine bU (n:=k) g ?_|fail
   exact⟨h1,⟨rfl,rfl,rfl,rfl,rfl,WL,trivial⟩,YM,WC,rfl,j⟩
  ·have d:((bR ns[k] l).1.s != [])=false:=by unfold bne;rw[m];rfl
   rw[d]at a;have ha:ns.all (xH l)=false:=a rfl;rw[ha];refine .go ?_;exact sW rfl rfl (AC.tup (AA.cons (AC.no (aD _)) (AA.cons (AC.eq (congrArg AV.bool e)) (aD _))))
 ·have r:=ltF h1;obtain rfl:k=ns.length:=om
  rw[List.take_length]at hj g;rw[List.take_length,hj];have e:(((ns.map (txt l)).length:Int)==(ns.length:Int))=true:=by rw[length_map];simp
  refine .go ?_;refine sW rfl rfl (AC.tup (AA.cons (AC.no (aD _)) (AA.cons (AC.eq (congrArg AV.bool ?_)) (aD _))));exact e
def aEA(f:Ah)(table a:AF)(hf:f.size<=68719476736):AN prog 75 [f.C, .str table, .str a] (.tup [(Qb f table a).1.C, .bool (Qb f table a).2]):=by
 have hp:=Sz f.params a (by have:=aJ AO.au f.params;have:=f.b1;omega);refine pER [.cell 6 55, .tmp 7] func75 (O:=by simp[AV.K,aB,BQ.K]) ?_;unfold p7 at hp;unfold Qb;cases e:sD f.params a with
 |none=>rw[e]at hp;refine .ac ?_;exact aO
 |some p=>
  rw[e]at hp;dsimp only at hp ⊢;have h:(p.t.name != [73,68]) = !decide (p.t.name=sID):=by unfold bne sID;rw[Bool.eq_iff_iff];simp
  have i:(p.t.name != [83,116,114,105,110,103]) = !decide (p.t.name=cW):=by unfold bne cW;rw[Bool.eq_iff_iff];simp
  have g:(p.t.ak != f.t.ak) = !decide (p.t.ak=f.t.ak):=by unfold bne;rw[Bool.eq_iff_iff];simp
  by_cases c:p.t.name=sID
  ·rw[decide_eq_true c]at h;by_cases b:p.t.ak=f.t.ak
   ·rw[decide_eq_true b]at g;rw[if_pos ⟨.inl c,b⟩];refine .ac ?_;exact aO
   ·rw[decide_eq_false b]at g;rw[if_neg (λx=>b x.2)];refine .ac ?_;exact aO
  ·rw[decide_eq_false c]at h;by_cases d:p.t.name=cW
   ·rw[decide_eq_true d]at i;by_cases b:p.t.ak=f.t.ak
    ·rw[decide_eq_true b]at g;rw[if_pos ⟨.inr d,b⟩];refine .ac ?_;exact aO
    ·rw[decide_eq_false b]at g;rw[if_neg (λx=>b x.2)];refine .ac ?_;exact aO
   ·rw[decide_eq_false d]at i;rw[if_neg (λx=>x.1.elim c d)];refine .ac ?_;exact aO
def eY{x:AV}{xs:List AV}{t:Tk}:AA [x, .slice xs t] [x, .slice xs .no]:=AA.cons (aG _) (AA.cons (AC.no (aD _)) (aD _))
def bDo(l:List AG)(hl:l.length<=68719476736):AN prog 76 [.slice (l.map AG.C) .no] (.tup [(doB l).1.C, .bool (doB l).2]):=by
 have h3:=Ho l [uH,dJ,nW] hl Wa Wc;have h2:=Ho l [uH,dJ] hl Wa Wc;refine pER [.cell 2 55, .tmp 3] func76 (O:=by simp[AV.K,aB,BQ.K]) ?_;unfold Hn at h3 h2;unfold doB;cases e:dD l [uH,dJ,nW] with
 |some xs=>
  obtain⟨a,b,c,rfl,_⟩:=pE e;rw[e]at h3;dsimp only at h3;have x0:([a,b,c].map AV.str)[0]? =some (AV.str a):=rfl;have x1:([a,b,c].map AV.str)[1]? =some (AV.str b):=rfl;have m:([a,b,c].map AV.str)[2]? =some (AV.str c):=rfl;repeat' first|refine .br ?_|refine .s1 ?_|(refine .q ?_ ?_<;>intro O)|refine aH (hw:=eY) h3 ?_|fail
  exact aO
 |none=>
  rw[e]at h3;dsimp only at h3;cases d:dD l [uH,dJ] with
  |some xs=>
   obtain⟨a,b,rfl,_⟩:=gH d;rw[d]at h2;dsimp only at h2;have x0:([a,b].map AV.str)[0]? =some (AV.str a):=rfl;have x1:([a,b].map AV.str)[1]? =some (AV.str b):=rfl;have j:(a==[112,117,116])=(a==P9):=rfl;have k:(a==[99,117,116])=(a==Qa):=rfl;have f:(a==[98,117,114,110])=(a==IA):=rfl;dsimp only;cases g:(a==P9)<;>rw[g]at j
   ·cases h:(a==Qa)<;>rw[h]at k
    ·cases i:(a==IA)<;>rw[i]at f
     all_goals
      repeat' first|refine .br ?_|refine .s1 ?_|(refine .q ?_ ?_<;>intro O)|refine aH (hw:=eY) h3 ?_|refine aH (hw:=eY) h2 ?_|fail
      exact aI rfl (AC.tup (AA.cons (aG _) (AA.cons (AC.eq (congrArg AV.bool f)) (aD _))))
    ·repeat' first|refine .br ?_|refine .s1 ?_|(refine .q ?_ ?_<;>intro O)|refine aH (hw:=eY) h3 ?_|refine aH (hw:=eY) h2 ?_|fail
     exact aO
   ·repeat' first|refine .br ?_|refine .s1 ?_|(refine .q ?_ ?_<;>intro O)|refine aH (hw:=eY) h3 ?_|refine aH (hw:=eY) h2 ?_|fail
    exact aO
  |none=>
   rw[d]at h2;dsimp only at h2;repeat' first|refine .br ?_|refine .s1 ?_|(refine .q ?_ ?_<;>intro O)|refine aH (hw:=eY) h3 ?_|refine aH (hw:=eY) h2 ?_|fail
   exact aO
def aCw(f:Ah)(hf:f.size<=68719476736):AN prog 33 [f.C] (.tup [(jT f).1.C, .bool (jT f).2]):=by
 have w:=f.b1;have u:=aJ AM.au f.ao;refine pER [.cell 2 55, .tmp 3] func33 (O:=by simp[AV.K,aB,BQ.K]) ?_;unfold jT
 match c:f.ao with
 |[]=>
  have e1:((f.ao.length:Int)==0)=true:=W9
  refine .ac ?_;exact aO
 |d::z::ds=>
  have e1:((f.ao.length:Int)==0)=false:=by rw[c,beq_eq_false_iff_ne];simp;omega
  have r:decide ((1:Int)<(f.ao.length:Int))=true:=by rw[c];simp;omega
  have x1:(f.ao.map AM.C)[0]? =some d.C:=W9
  refine .ac ?_;exact aO
 |[d]=>
  have e1:((f.ao.length:Int)==0)=false:=W9
  have r:decide ((1:Int)<(f.ao.length:Int))=false:=W9
  have x1:(f.ao.map AM.C)[0]? =some d.C:=W9
  have v:d.size<=f.size:=by have:=aN (size:=AM.size) (l:=f.ao) (x:=d) (by rw[c];simp);omega
  have t:d.args.length<=d.size:=YQ
  have h1:=Ho d.args [Dj] om Wa Wc;have h2:=Ho d.args [dJ,nW] om Wa Wc;have h3:=Ho d.args [dJ,JQ] om Wa Wc;have h4:=bDo d.args om;unfold Hn at h1 h2 h3;have k:(d.name==[99,111,108])=decide (d.name=nW):=by unfold nW;rw[Bool.eq_iff_iff];simp
  have m:(d.name==[108,105,110,107])=decide (d.name=Di):=by unfold Di;rw[Bool.eq_iff_iff];simp
  have n:(d.name==[103,101,116])=decide (d.name=JP):=by unfold JP;rw[Bool.eq_iff_iff];simp
  have o:(d.name==[100,111])=decide (d.name=sDo):=by unfold sDo;rw[Bool.eq_iff_iff];simp
  dsimp only;unfold JR;by_cases g:d.name=nW
  ·rw[decide_eq_true g]at k;rw[if_pos g];cases e:dD d.args [Dj] with
   |none=>
    rw[e]at h1
    repeat' first|refine .br ?_|refine .s1 ?_|(refine .q ?_ ?_<;>intro O)|refine aH (hw:=eY) h1 ?_|fail
    exact aO
   |some xs=>
    obtain⟨a,rfl,_⟩:=uG e;rw[e]at h1;dsimp only at h1;have p:([a].map AV.str)[0]? =some (AV.str a):=rfl
    repeat' first|refine .br ?_|refine .s1 ?_|(refine .q ?_ ?_<;>intro O)|refine aH (hw:=eY) h1 ?_|fail
    exact aO
  rw[decide_eq_false g]at k;rw[if_neg g];by_cases h:d.name=Di
  ·rw[decide_eq_true h]at m;rw[if_pos h];cases e:dD d.args [dJ,nW] with
   |none=>
    rw[e]at h2
    repeat' first|refine .br ?_|refine .s1 ?_|(refine .q ?_ ?_<;>intro O)|refine aH (hw:=eY) h2 ?_|fail
    exact aO
   |some xs=>
    obtain⟨a,b,rfl,_⟩:=gH e;rw[e]at h2;dsimp only at h2;have p:([a,b].map AV.str)[0]? =some (AV.str a):=rfl;have y:([a,b].map AV.str)[1]? =some (AV.str b):=rfl
    repeat' first|refine .br ?_|refine .s1 ?_|(refine .q ?_ ?_<;>intro O)|refine aH (hw:=eY) h2 ?_|fail
    exact aO
  rw[decide_eq_false h]at m;rw[if_neg h];by_cases i:d.name=JP
  ·rw[decide_eq_true i]at n;rw[if_pos i];cases e:dD d.args [dJ,JQ] with
   |none=>
    rw[e]at h3
    repeat' first|refine .br ?_|refine .s1 ?_|(refine .q ?_ ?_<;>intro O)|refine aH (hw:=eY) h3 ?_|fail
    exact aO
   |some xs=>
    obtain⟨a,b,rfl,_⟩:=gH e;rw[e]at h3;have p:([a,b].map AV.str)[0]? =some (AV.str a):=rfl;have y:([a,b].map AV.str)[1]? =some (AV.str b):=rfl;have h5:=aEA f a b hf;dsimp only at h3 ⊢
    repeat' first|refine .br ?_|refine .s1 ?_|(refine .q ?_ ?_<;>intro O)|refine aH (hw:=eY) h3 ?_|fail
    exact aO
  rw[decide_eq_false i]at n;rw[if_neg i];by_cases j:d.name=sDo
  ·rw[decide_eq_true j]at o;rw[if_pos j];refine .ac ?_;exact aO
  ·rw[decide_eq_false j]at o;rw[if_neg j];refine .ac ?_;exact aO
def aCx(s:AI)(u:AF)(f:Ah)(a:Int)(hs:s.size<=1048640):AN prog 34 [s.C, .str u,f.C, .int .i64 a] (.bool (DW s u f a)):=by
 have h1:=Sy s f.t.name om;have h2:=zS s f.t.name om;have h3:=D3 s f.t.name hs;have h4:=gS (jK s f.t.name) s.ar (by have:=sR s f.t.name hs;omega);refine pEn 8 func34 ?_;unfold DW m9 f9;generalize jK s f.t.name=ps at *
 cases e:(s.ar != [])<;>cases g:(u==s.ar)<;>cases d:fQ s f.t.name<;>rw[d]at h2
 all_goals
  by_cases b:a=0
  ·subst b
   repeat' first|refine .br ?_|refine .s1 ?_|(refine .q ?_ ?_<;>intro O)|fail
   all_goals
    refine Fin.rb ?_;simp_all
  ·have h:=beF b;by_cases c:a=3
   ·subst c
    repeat' first|refine .br ?_|refine .s1 ?_|(refine .q ?_ ?_<;>intro O)|fail
    all_goals
     refine Fin.rb ?_;simp_all
   ·have i:=beF c;rw[if_neg b,if_neg c]
    repeat' first|refine .br ?_|refine .s1 ?_|(refine .q ?_ ?_<;>intro O)|fail
    all_goals
     refine Fin.rb ?_;simp_all
def bOf(s:AI)(u:AF)(f:Ah)(hs:s.size<=1048640)(hf:f.size<=68719476736):AN prog 7 [s.C, .str u,f.C] (.tup [(ofB s u f).1.C, .bool (ofB s u f).2]):=by
 have h1:=aCw f hf;have h2:=aCx s u f (jT f).1.how hs;refine pER [.cell 6 55, .tmp 7] func7 (O:=by simp[AV.K,aB,BQ.K]) ?_;have c:(f.name==[95,95,116,121,112,101,110,97,109,101])=decide (f.name=bC):=by unfold bC;rw[Bool.eq_iff_iff];simp
 unfold ofB;generalize jT f=r at *
 obtain⟨b,ok⟩:=r;dsimp only at *
 cases ok with
 |false=>rw[if_neg Wa];refine .ac ?_;exact aO
 |true=>
  by_cases a:f.name=bC
  ·rw[decide_eq_true a]at c;rw[if_neg W5];refine .ac ?_;exact aO
  ·rw[decide_eq_false a]at c;cases d:DW s u f b.how<;>rw[d]at h2
   ·rw[if_neg Wa];refine .ac ?_;exact aO
   ·rw[if_pos ⟨rfl,a,rfl⟩];refine .ac ?_;exact aO
def rdV:AV := .fn (.func 21) [] [.ab (.ptr 0 0), .ab (.ptr 1 0)]
def lyV:AV := .fn (.func 24) [.ptr 0 0] []
def kO:List (List Aa)->List AV
 |[]=>[]
 |[r]=>[.slice (r.map Aa.C) (.own 2 2)]
 |r::q::l => .slice (r.map Aa.C) .no::kO (q::l)
def lG(L:List AY)(n:Nat):List AV:=[Tbls.C L, .Y 1 1 n 0 n]
def evB(s:AI)(d:AR)(A:List AG)(st:AT):List Ob:=[.cells (rJ s d A rdV lyV st.F), .cells (lG st.L st.R.length)]
def evT(st:AT):List Tok:=[.len st.F.length, .Y (kO st.R), .len (eF st.R).length]
theorem IR:∀R:List (List Aa),(kO R).length=R.length
 |[]=>rfl
 |[r]=>rfl
 |r::q::l=>by rw[kO,length_cons,IR (q::l)];rfl
def Hp:∀R:List (List Aa),R≠[]->(kO R)[R.length-1]? =some (.slice ((eF R).map Aa.C) (.own 2 2))
 |[],h=>absurd rfl h
 |[r],_=>rfl
 |r::q::l,_=>by
  have:=Hp (q::l) Wa
  rw[kO,show (r::q::l).length-1=(q::l).length-1+1 by simp,List.getElem?_cons_succ,this];rfl
def IS(n:Aa):∀R:List (List Aa),R≠[]->n∉eF R->(kO R).set (R.length-1) (.slice ((eF R).map Aa.C++[n.C]) (.own 2 2))=kO (jM n R)
 |[],h,_=>absurd rfl h
 |[r],_,h=>by
  rw[jM,if_neg (show n∉r from h),kO,kO,List.map_append];rfl
 |r::q::l,_,h=>by
  have:=IS n (q::l) Wa h
  rw[kO,jM,show (r::q::l).length-1=(q::l).length-1+1 by simp,List.set_cons_succ]
  rw[show eF (r::q::l)=eF (q::l) from rfl,this]
  have hl:=kG n (q::l)
  cases Y:jM n (q::l) with
  |nil=>rw[Y]at hl;simp at hl
  |cons a b=>rfl
theorem IT{n:Aa}:∀ {R:List (List Aa)},n∈eF R->jM n R=R
 |[],h=>rfl
 |[r],h=>by rw[jM,if_pos (show n∈r from h)]
 |r::q::l,h=>by rw[jM,IT (R:=q::l) h]
theorem IU(n m:Nat)(h:2<m):∀R:List (List Aa),aE n m (kO R)=true
 |[]=>rfl
 |[r]=>by simp[kO,aE,AV.aa,h]
 |r::q::l=>by
  have:=IU n m h (q::l)
  rw[kO,aE,this]
  simp[AV.aa]
theorem nG(n m:Nat)(h:2<m)(st:AT):aL n m (evT st)=true:=by simp[evT,aL,Tok.aa,IU n m h]
theorem cM(s:AI)(d:AR)(A:List AG)(st:AT)(m:Nat)(h:2<m):aQ 2 m (evB s d A st)=true:=by
 have h0:0<m:=om
 have h1:1<m:=om
 simp[evB,rJ,lG,rdV,lyV,aQ,Ob.aa,aE,AV.aa,Tbls.C,fG,h0,h1]
theorem iE(n m:Nat):∀a b:List Tok,aL n m (a++b)=(aL n m a&&aL n m b)
 |[],b=>by simp[aL]
 |x::a,b=>by rw[cons_append,aL,aL,iE n m a b,Bool.and_assoc]
def aCy(s:AI)(d:AR)(A:List AG)(st:AT)(n:Aa)(h:At st)(O:st.c<=1048576)(T2:List Tok)(v:aL 2 (3+T2.length) T2=true):
  AQ prog 23 [.ptr 1 0,n.C] ⟨evB s d A st,evT st++T2⟩ (λe σ'=> e = .ret (cN st.L n).C/\σ'= ⟨evB s d A (st.read n),evT (st.read n)++T2⟩):=by
 have hf:=aCq st.L n (by have:=h.T.a7.len;omega) (λt ht=>by have:=h.T.a7.af t ht;omega) (λt ht r hr=>by have:=h.T.a7.aq t ht r hr;omega);have a0:0<st.R.length:=List.length_pos_iff.2 h.R0;have z:=h.RN;have y:=h.RL;have f:=HB (eF st.R) n om;have e0:((st.R.length:Int)==0)=false:=by rw[beq_eq_false_iff_ne];omega
 have k:(st.R.length:Int)-1=((st.R.length-1:Nat):Int):=om
 have hn:=IR st.R;have hy:=Hp st.R h.R0;have w:((eF st.R).map Aa.C).length=(eF st.R).length:=length_map _;have o:AA [.slice ((eF st.R).map Aa.C) (.own 2 2),n.C] [.slice ((eF st.R).map Aa.C) .no,n.C]:=AA.cons (AC.no (aD _)) (aD _);have l:(evT st++T2).length<=3+T2.length:=by rw[length_append];exact le_refl _
 refine gM (nB:=2) (mT:=3+T2.length) (ht:=l) (wA [.cell 4 101] func23 ?_) (aF _ _ _ (Bt.K _)) (cM _ _ _ _ _ om) (by rw[iE,nG _ _ om,v];rfl);have tk:∀a b c:Tok,(a::b::c::T2).take (3+T2.length)=a::b::c::T2:=λa b c=>List.take_of_length_le Wh
 unfold evB evT lG;by_cases g:n∈eF st.R
 ·rw[decide_eq_true g]at f;have x:st.read n=st:=by unfold AT.read;rw[IT g]
  rw[x]
  repeat' first|refine .br ?_|refine aH (hw:=o) f ?_|refine .s1 ?_|(refine .q ?_ ?_<;>intro O)|refine bZ ?_|refine .vl ?_|refine fM (j:=st.R.length-1) (hj:=k) (hlt:=by omega) ?_|refine fF (hn:=hn) (hy:=hy) ?_|fail
  exact⟨_,rfl,_,_,rfl,eU _ _,rfl,tk _ _ _⟩
 ·rw[decide_eq_false g]at f;have m:=IS n st.R h.R0 g;have i:(st.read n).R=jM n st.R:=rfl;have p:eF (st.read n).R=eF st.R++[n]:=by rw[i,uN n st.R h.R0,if_neg g]
  have u:(st.read n).R.length=st.R.length:=kG n st.R;rw[p,u,i, <-m,length_append]
  repeat' first|refine .br ?_|refine aH (hw:=o) f ?_|refine .s1 ?_|(refine .q ?_ ?_<;>intro O)|refine bZ ?_|refine .vl ?_|refine fM (j:=st.R.length-1) (hj:=k) (hlt:=by omega) ?_|refine fF (hn:=hn) (hy:=hy) ?_|refine bU (n:=(eF st.R).length) w ?_|refine aX (agg:=false) (hn:=hn) (he:=hy) ?_|fail
  exact⟨_,rfl,_,_,rfl,eU _ _,rfl,tk _ _ _⟩
structure Am(s:AI)(d:AR)(A:List AG):Prop where
 hs:s.size<=1048576
 so:s.ok
 hd:d.size<=1048576
 dk:∀f∈d.ai,∀y∈f.O,y.ok
 he:A.length<=1048576
 et:∀x∈A,Ad x.v
theorem Am.ai{s:AI}{d:AR}{A:List AG}(h:Am s d A):d.ai.length<=1048576/\aA (λf:Af=>aA Sl.size f.O) d.ai<=d.size-3:=by have h1:=aJ (size:=Af.size) (λf=>Wy) d.ai;have h2:aA (λf:Af=>aA Sl.size f.O) d.ai<=aA Af.size d.ai:=nE (λf=>Wy) _;have h3:d.size=aA Aj.size d.ops+aA Af.size d.ai+3:=rfl;have:=h.hd;exact⟨om,om⟩
def j4{s:AI}(e:s.ok)(u name:AF):(aK s u name).1.size<=s.size+64/\∀p∈(aK s u name).1.params,p.ok:=by
 unfold aK;cases hf:iW s u name with
 |none=>exact⟨le_trans (show Ah.size qB<=64 by decide) om,λp hp=>Xm⟩
 |some f=>
  unfold iW at hf;split at hf
  ·cases hf;rename_i O;refine⟨?_,λp hp=>Xm⟩;show Ah.size ⟨name,[],⟨cW,0,1⟩,[]⟩<=_;rw[O.1];have:Ah.size ⟨bC,[],⟨cW,0,1⟩,[]⟩<=64:=by decide
   omega
  ·split at hf
   ·have b:=mem_of_find?_eq_some hf;unfold bN dQ at b;split at b
    ·rename_i d a;split at a
     ·cases a;cases b
     ·have c:=mem_of_find?_eq_some a;have h1:=lP c;have h2:f.size<=aA Ah.size d.fields:=aN (size:=Ah.size) b;have h3:aA Ah.size d.fields<=d.size:=by unfold Ag.size;omega
      exact⟨Wl,λp hp=>((e d c).1 f b).1 p hp⟩
    ·cases b
   ·cases hf
def Cc(x:AV):AC x .undef:=λ_ _ _ _=>trivial
def S9(s:AI)(d:AR)(A:List AG)(Y:Am s d A)(st:AT)(u:AF)(h:AF)(x:Sl)(w:List Sl)(o:x.size<=1048576)(g:x.ok){t0 t1 t2:Tok}(c:aL 2 3 [t0,t1,t2]=true):
  AQ prog 59 [.ptr 0 0, .str u,AW.C ⟨h,x::w⟩] ⟨evB s d A st,[t0,t1,t2]⟩
   (λe σ'=> e = .ret (.tup [(aK s u x.name).1.C, .slice ((if x.name=bC then [] else (dV s (aK s u x.name).1.params x.args A).1).map AG.C) .no, .int .i64 (if x.name=bC then 0 else (dV s (aK s u x.name).1.params x.args A).2)])/\σ'= ⟨evB s d A st,[t0,t1,t2]⟩):=by
 have m:=x.ax;have n:=Y.hs;obtain⟨z,j⟩:=j4 Y.so u x.name;have l:(aK s u x.name).1.size=(aK s u x.name).1.name.length+aA AO.size (aK s u x.name).1.params+(aK s u x.name).1.t.size+aA AM.size (aK s u x.name).1.ao+4:=rfl;have hf:=aAy s u x.name om;have ha:=UX s om (λd k p hp=>(Y.so d k).2 p hp) (aK s u x.name).1.params x.args A om (λp hp=>j p hp) om ((x.ok_eq.1 g).2.1) (by have:=Y.he;omega);generalize aK s u x.name=fr at *
 obtain⟨f,b⟩:=fr;dsimp only at hf ha ⊢;generalize dV s f.params x.args A=i at *
 obtain⟨y,r⟩:=i;dsimp only at ha ⊢;have x0:(List.map Sl.C (x::w))[0]? =some x.C:=rfl;refine gM (nB:=2) (mT:=3) (wA [.cell 6 61, .tmp 7, .tmp 8] func59 ?_) (aF _ _ _ XR) (cM _ _ _ _ _ om) c;unfold evB rJ;by_cases a:x.name=bC
 ·have e1:=beT a;unfold bC at e1;rw[if_pos a,if_pos a]
  repeat' first|refine AD.br (v := .agg [_,_]) ?_|refine bH (d:=10) ?_|refine bY 10 rfl (aY) ?_|refine .s1 ?_|(refine .q ?_ ?_<;>intro O)|refine bZ ?_|refine aX (agg:=true) ?_|fail
  exact⟨_,rfl,_,_,rfl,AJ.a6 (AC.tup (AA.cons (aG _) (AA.cons (AC.no (aD _)) (aD _)))),rfl,rfl⟩
 ·have e1:(x.name==bC)=false:=by simp[a]
  unfold bC at e1;rw[if_neg a,if_neg a]
  repeat' first|refine AD.br (v := .agg [_,_]) ?_|refine bH (d:=10) ?_|refine bY 10 rfl (aY) ?_|refine .s1 ?_|(refine .q ?_ ?_<;>intro O)|refine bZ ?_|refine aX (agg:=true) ?_|fail
  exact⟨_,rfl,_,_,rfl,eU _ _,rfl,rfl⟩
def aCz(s:AI)(d:AR)(A:List AG)(Y:Am s d A)(st:AT)(u:AF)(a:AF)(x:Sl)(w:List Sl)(c:x.size<=1048576)(b:x.ok):
  AQ prog 59 [.ptr 0 0, .str u,AW.C ⟨a,x::w⟩] ⟨evB s d A st,evT st⟩
   (λe σ'=> e = .ret (.tup [(aK s u x.name).1.C, .slice ((if x.name=bC then [] else (dV s (aK s u x.name).1.params x.args A).1).map AG.C) .no, .int .i64 (if x.name=bC then 0 else (dV s (aK s u x.name).1.params x.args A).2)])/\σ'= ⟨evB s d A st,evT st⟩):=
 S9 s d A Y st u a x w c b (nG _ _ om st)
def aCA:CE prog 90 LA:=Fz .nilFunc Wb underlying90 rfl rfl rfl rfl rfl Wb rfl Wb
def aCB:CE prog 89 LA:=Fz .nilFunc Wb underlying89 rfl rfl rfl rfl rfl Wb rfl Wb
instance layE:Lay prog:=⟨(90,LA)::(89,LA)::SR,⟨aCA,aCB,Vu,Vv,Hq⟩,checked.mixed⟩
def plE(at_:AV)(u:AF)(row:Row)(w:List Sl)(p:Ac):AV := .agg [at_, .str u, .str row.key, .str row.av, .slice (row.aq.map AG.C) .no, .bool row.broken, .slice (w.map Sl.C) .no, .slice (p.map AS.C) .no]
def jR(at_:AV)(tb key:AF)(t:Ae)(w:List Sl)(p:Ac):AV := .agg [.str tb, .str key,at_, .str t.name, .int .i64 t.ak, .int .i64 t.ay, .slice (w.map Sl.C) .no, .slice (p.map AS.C) .no]
def knG(k:Int)(m:Bool):AV := .agg [.int .i64 k, .bool m, .int .i64 0, .int .i64 0, .str [], .slice [] .nil, .slice [] .nil, .slice [] .nil, .slice [] .nil, .slice [] .nil]
def Je(k:Int)(m:Bool)(v:AH)(t1 t2:Tk):AC (.agg [.int .i64 k, .bool m, .int .i64 v.kind, .int .i64 v.n, .str v.s, .slice v.lv .no, .slice v.mv .no, .slice [] t1, .slice [] .nil, .slice [] t2]) (Nd.mk k m v [] []).aj:=
 AC.agg (AA.cons (aG _) (AA.cons (aG _) (AA.cons (aG _) (AA.cons (aG _) (AA.cons (aG _) (AA.cons (aG _) (AA.cons (aG _) (AA.cons (AC.no (aD _)) (AA.cons (aG _)
  (AA.cons (AC.no (by rw[Nd.kl,rI];exact aD _)) (aD _)))))))))))
def iQ(k:Int)(m:Bool)(t1 t2 a b:Tk):AC (.agg [.int .i64 k, .bool m, .int .i64 0, .int .i64 0, .str [], .slice [] a, .slice [] b, .slice [] t1, .slice [] .nil, .slice [] t2]) (Nd.mk k m bO [] []).aj:=
 AC.agg (AA.cons (aG _) (AA.cons (aG _) (AA.cons (aG _) (AA.cons (aG _) (AA.cons (aG _) (AA.cons (AC.no (AA.eq (sC _ _ _ _).symm)) (AA.cons (AC.no (AA.eq (wQ _ _ _ _).symm)) (AA.cons (AC.no (aD _)) (AA.cons (aG _)
  (AA.cons (AC.no (by rw[Nd.kl,rI];exact aD _)) (aD _)))))))))))
structure Ai(l:List Sl)(c:Nat):Prop where
 sz:aA Sl.size l<=1048576 * (c+1)
 all:∀x∈l,x.ok/\x.size<=1048576
structure BR(r:Row):Prop where
 len:r.aq.length<=1048576
 bj:∀m∈r.aq,Ad m.v
def Jf(s:AI)(d:AR)(A:List AG)(Y:Am s d A)(st:AT)(u:AF)(row:Row)(w:List Sl)(p:Ac)(hs:Ai w st.c)(O:st.c<=4096):
  AQ prog 27 [.ptr 0 0,plE .undef u row w p] ⟨evB s d A st,evT st⟩ (λe σ'=> e = .ret (.slice ((bG s d A u w).map AW.C) .no)/\σ'= ⟨evB s d A st,evT st⟩):=by
 obtain⟨h1,h2⟩:=Y.ai;have h3:=hs.sz;have h4:=Y.hd;have a:=OW s d A u w Y.hs om h1 Y.he;refine gM (nB:=2) (mT:=3) (cK [4] func27 ?_) (aF _ _ _ WM) (cM _ _ _ _ _ om) (nG _ _ om _);repeat' first|refine .br ?_|refine .s1 ?_|(refine .q ?_ ?_<;>intro O)|refine bZ ?_|fail
 exact⟨_,_,rfl,eU _ _,rfl,rfl⟩
def aD2(s:AI)(f:Ah)(b:BQ)(args:List AG)(ha:args.length<=1048576):AN prog 64 [s.C,f.C,b.C, .slice (args.map AG.C) .no] (oZ f b args).C:=by
 have O:=Nc args ha;refine pER [.cell 8 176] func64 (O:=BH.K _) (ha:=by simp[aB,AV.K,AI.K,Ah.K,BQ.K,aT]) ?_;repeat' first|refine .br ?_|refine .s1 ?_|(refine .q ?_ ?_<;>intro O)|fail
 exact aO
def Bs(s:AI)(d:AR)(A:List AG)(f:FuncId)(args:List AV)(st:AT)(k0:AV)(r:Nd×AT):Prop:=
 AQ prog f args ⟨evB s d A st,evT st++[.Y [k0]]⟩ (λe σ'=> e = .ret (.tup [])/\σ'= ⟨evB s d A r.2,evT r.2++[.Y [r.1.aj]]⟩)
def Bp(s:AI)(d:AR)(A:List AG)(pl:Pl):Prop:=∀u row w p m st,At st->Ai w st.c->BR row->p.length<=st.c->(pl u row w p m st).2.c<=4096->
 Bs s d A 24 [.ptr 0 0,plE (.an 3 10 1 0 0) u row w p] st (knG 2 m) (pl u row w p m st)
def kA(st:AT)(x:AV)(Y:x.aa 2 4=true):aL 2 4 (evT st++[.Y [x]])=true:=by rw[iE,nG _ _ om];simp[aL,Tok.aa,aE,Y]
def tN(st:AT)(p:Ac)(e:Int)(x:Tok):[Tok.len (st.F.length+1), .Y (kO st.R), .len (eF st.R).length,x]=evT (st.bad p e)++[x]:=by grind[evT,AT.bad,length_append]
def NM(name:AF):∀l:List AG,(bR name l).1=bO\/∃m∈l,(bR name l).1=m.v
 |[] => .inl rfl
 |m::l=>by
  rw[bR];split
  ·simp_all
  ·rcases NM name l with h|⟨x,Y,h⟩
   ·exact .inl h
   ·grind
def FV{L:List AY}(h:BT L)(n:Aa):BR (cN L n).row:=by
 unfold cN;split
 ·exact⟨Wc,λm a=>by cases a⟩
 ·rename_i t ht;have h1:=mem_of_find?_eq_some ht;split
  ·exact⟨Wc,λm a=>by cases a⟩
  ·rename_i r hr;have h2:=mem_of_find?_eq_some hr;unfold EQ;split
   ·exact⟨Wc,λm a=>by cases a⟩
   ·exact⟨h.a7.aq t h1 r h2,h.bj t h1 r h2⟩
def aD3(s:AI)(d:AR)(A:List AG)(Y:Am s d A)(pl:Pl)(hpl:Bp s d A pl)(tb j:AF)(t:Ae)(w:List Sl)(p:Ac)(g:Bt)(hg:BR g.row)(st:AT)(h:At st)(hs:Ai w st.c)(hp:p.length<=st.c)(a4:st.c<=4096)(O:(w9 s pl w t p g st).2.c<=4096):
  Bs s d A 22 [.ptr 0 0,jR (.an 3 10 1 0 0) tb j t w p,g.C] st (knG 0 (isT t)) (w9 s pl w t p g st):=by
 have hF:=h.F;have a6:=D3 s t.name (by have:=Y.hs;omega);have a3:=sR s t.name (by have:=Y.hs;omega);have n:=gS (jK s t.name) g.row.av om;have a5:=Nc g.row.aq hg.len;have o:∀r:Nd×AT,AQ prog 22 [.ptr 0 0,jR (.an 3 10 1 0 0) tb j t w p,g.C] ⟨evB s d A st,evT st++[.Y [knG 0 (isT t)]]⟩
   (λe a1=>∃v l,e = .ret v/\AJ a1 v l (.tup [])/\l.B.take 2=evB s d A r.2/\l.T.take 4=evT r.2++[.Y [r.1.aj]])->Bs s d A 22 [.ptr 0 0,jR (.an 3 10 1 0 0) tb j t w p,g.C] st (knG 0 (isT t)) r:=λr hr=>
  gM (nB:=2) (mT:=4) hr rfl (cM _ _ _ _ _ om) (kA _ _ (aF _ _ _ (d8 _)))
 refine o _ (cK [] func22 ?_);have b:∀(x:List Ob) (e:Int),_:=λ(x:List Ob) (e:Int)=>JX s d A rdV lyV (.cells (lG st.L st.R.length)::x) (evT st++[.Y [knG 0 (isT t)]]) st.F 3 p e rfl rfl Wc om
 unfold w9 at O ⊢;unfold evB;by_cases u:g.e=0;case neg=>
  have e1:(g.e != 0)=true:=by simpa using u
  rw[if_pos u]at O ⊢;repeat' first|refine AD.bx (v := .agg [_,_,_,_,_,_]) ?_|refine .br ?_|refine .s1 ?_|(refine .q ?_ ?_<;>intro O)|refine bZ ?_|refine dR (b _ _) ?_|fail
  exact⟨_,_,rfl,eP (k:=3) rfl (iQ 3 (isT t) _ _ _ _) rfl,rfl,tN st p g.e (.Y [(nC (isT t)).aj])⟩
 have e1:(g.e != 0)=false:=by simp[u]
 rw[if_neg (by simp[u])]at O ⊢;by_cases y:g.is=true;case neg=>
  have m:g.is=false:=by simpa using y
  have n2:(!g.is)=true:=by rw[m];rfl
  rw[if_pos m]at O ⊢;by_cases a:isT t=true;case pos=>
   rw[if_pos a]at O ⊢;rw[a];have i:∀(x:List Ob),_:=λ(x:List Ob)=>Vr s d A rdV lyV (.cells (lG st.L st.R.length)::x) (evT st++[.Y [knG 0 true]]) st.F 3 p rfl rfl Wc om
   repeat' first|refine AD.bx (v := .agg [_,_,_,_,_,_]) ?_|refine .br ?_|refine .s1 ?_|(refine .q ?_ ?_<;>intro O)|refine bZ ?_|refine dR (i _) ?_|fail
   exact⟨_,_,rfl,eP (k:=3) rfl (iQ 3 true _ _ _ _) rfl,rfl,tN st p 9 (.Y [(nC true).aj])⟩
  rw[if_neg a]at O ⊢;have z:isT t=false:=by simpa using a
  rw[z];have i:∀(x:List Ob),_:=λ(x:List Ob)=>Nj s d A rdV lyV (.cells (lG st.L st.R.length)::x) (evT st++[.Y [knG 0 false]]) st.F 3 p rfl
  repeat' first|refine AD.bx (v := .agg [_,_,_,_,_,_]) ?_|refine .br ?_|refine .s1 ?_|(refine .q ?_ ?_<;>intro O)|refine bZ ?_|refine dR (i _) ?_|fail
  exact⟨_,_,rfl,eP (k:=3) rfl (iQ 0 false _ _ _ _) rfl,rfl,rfl⟩
 have n2:(!g.is)=false:=by rw[y];rfl
 rw[if_neg (by rw[y];decide)]at O ⊢;by_cases a:g.row.av∈jK s t.name;case neg=>
  rw[decide_eq_false a]at n;rw[if_pos a]at O ⊢;repeat' first|refine AD.bx (v := .agg [_,_,_,_,_,_]) ?_|refine .br ?_|refine .s1 ?_|(refine .q ?_ ?_<;>intro O)|refine bZ ?_|refine dR (b _ _) ?_|fail
  exact⟨_,_,rfl,eP (k:=3) rfl (iQ 3 (isT t) _ _ _ _) rfl,rfl,tN st p 7 (.Y [(nC (isT t)).aj])⟩
 rw[decide_eq_true a]at n;rw[if_neg W5]at O ⊢;have f:=hpl g.row.av g.row w p (isT t) st h hs hg hp O;unfold Bs at f;generalize pl g.row.av g.row w p (isT t) st=r at *;have a0:aE 2 4 [.ptr 0 0,plE (.an 3 10 1 0 0) g.row.av g.row w p]=true:=Zu
 have q0:(evT st++[Tok.Y [knG 2 (isT t)]]).length<=(evT r.2++[Tok.Y [r.1.aj]]).length:=le_refl _;have q1:aQ (evB s d A st).length (evT st++[Tok.Y [knG 2 (isT t)]]).length (evB s d A st)=true:=cM s d A st 4 om;have q2:aL (evB s d A st).length (evT st++[Tok.Y [knG 2 (isT t)]]).length (evT st++[Tok.Y [knG 2 (isT t)]])=true:=kA st (knG 2 (isT t)) rfl;have q3:aQ (evB s d A r.2).length (evT r.2++[Tok.Y [r.1.aj]]).length (evB s d A r.2)=true:=cM s d A r.2 4 om;have q4:aL (evB s d A r.2).length (evT r.2++[Tok.Y [r.1.aj]]).length (evT r.2++[Tok.Y [r.1.aj]])=true:=kA r.2 _ (aF _ _ _ (d8 _));repeat' first|refine AD.bx (v := .agg [_,_,_,_,_,_]) ?_|refine .br ?_|refine .s1 ?_|(refine .q ?_ ?_<;>intro O)|refine bZ ?_|refine fY rfl ?_|refine aX (agg:=true) ?_|refine ES (B0:=evB s d A st) (B1:=evB s d A r.2) rfl rfl f rfl rfl q0 q1 q2 q3 q4 a0 rfl (aD _) ?_|fail
 exact⟨_,_,rfl,eU _ _,rfl,rfl⟩
def FW{l:List Sl}{a b:Nat}(h:Ai l a)(hb:a<=b):Ai l b:=⟨le_trans h.sz om,h.all⟩
structure CR(s:AI)(pl:BO)(B:Nat):Prop where
 same:BB s pl
 le:∀u row w st,DX s u->BT st.L->BR row->Ai w st.n->st.n<=400->(pl u row w st).n<=401+B
def Po{y x b l K:Nat}(h2:y<=401+(400-x) * K+b+l)(a:(400-x) * K<=(400-z) * K):y<=401+(400-z) * K+b+(l+1):=by
 generalize (400-x) * K=P at *
 generalize (400-z) * K=Q at *
 omega
mutual
theorem QU(s:AI)(pl:BO)(hup:BN pl)(B:Nat)(hp:CR s pl B)(tb:AF)(w:List Sl)(a:Nat)(hS:Ai w a):∀(v:AH) (t:Ae) (st:BG),Ap s t.name->rH v->BT st.L->a<=st.n->(400<=st.n->(oJ s pl tb w v t st).n=st.n+1)/\(st.n<400->(oJ s pl tb w v t st).n<=401+(400-st.n) * 68719476736+B)
 | .mk k n str l m,t,st,hr,hv,hT,h0=>by
  rw[oJ]
  split
  ·exact⟨λ_=>rfl,λh=>Wl⟩
  rename_i h4
  rw[rH]at hv
  split
  ·obtain⟨b,c⟩:=Mi s pl hup B hp tb w a hS l (b7 t) ⟨st.L,st.n+1⟩ hr hv.2.2.2.1 hT (Nat.le_succ_of_le h0)
   refine⟨λh=>om,λh=> ?_⟩
   have:=hv.2.1
   by_cases d:400<=st.n+1
   ·have:=b d;dsimp only at this;omega
   ·have:=c Wl;dsimp only at this;omega
  split
  ·exact⟨λ_=>rfl,λh=>Wl⟩
  dsimp only
  split
  ·rename_i c
   exact⟨λh=>om,λh=>by have:=hp.le (cN st.L ⟨tb,str⟩).row.av (cN st.L ⟨tb,str⟩).row w ⟨st.L,st.n+1⟩ (hr _ c.2) hT (FV hT _) (FW hS (Nat.le_succ_of_le h0)) Wl;omega⟩
  ·exact⟨λ_=>rfl,λh=>Wl⟩
theorem Mi(s:AI)(pl:BO)(hup:BN pl)(B:Nat)(hp:CR s pl B)(tb:AF)(w:List Sl)(a:Nat)(hS:Ai w a):∀(l:List AH) (t:Ae) (st:BG),Ap s t.name->JC l->BT st.L->a<=st.n->(400<=st.n->(lQ s pl tb w l t st).n<=st.n+l.length)/\(st.n<400->(lQ s pl tb w l t st).n<=401+(400-st.n) * 68719476736+B+l.length)
 |[],t,st,hr,hl,hT,h0=>by rw[lQ];exact⟨λh=>om,λh=>om⟩
 |v::l,t,st,hr,hl,hT,h0=>by
  rw[lQ,length_cons]
  rw[JC]at hl
  obtain⟨b,c⟩:=QU s pl hup B hp tb w a hS v t st hr hl.1 hT h0
  have j:=yD s pl hup tb w v t st
  have g:=uP s pl hp.same tb w v t st hr
  obtain⟨e,f⟩:=Mi s pl hup B hp tb w a hS l t (oJ s pl tb w v t st) hr hl.2 (by rw[g];exact hT) om
  generalize oJ s pl tb w v t st=X at *
  generalize lQ s pl tb w l t X=Y at *
  refine⟨λh=> ?_,λh=> ?_⟩
  ·have h1:=b h
   have h2:=e om
   omega
  ·have h1:=c h
   by_cases h3:400<=X.n
   ·have h2:=e h3;omega
   ·have h2:=f om
    have i:400-X.n<=400-st.n:=om
    have d:=Nat.mul_le_mul_right 68719476736 i
    exact Po h2 d
end
theorem HW(s:AI)(pl:BO)(tb:AF)(w:List Sl):∀(a:List AH) (v:AH) (t:Ae) (st:BG),lQ s pl tb w (a++[v]) t st=oJ s pl tb w v t (lQ s pl tb w a t st)
 |[],v,t,st=>by rw[List.nil_append,lQ,lQ,lQ]
 |x::a,v,t,st=>by rw[cons_append,lQ,HW s pl tb w a,lQ]
def aD4:rH bO:=DR (by simp[bO,AH.size,iO,mW])
def QV{x:AF}(h:x.length<=68719476736):rH (jJ x):=by unfold jJ;rw[rH];exact⟨h,zero_le _,zero_le _,by rw[JC];trivial,by rw[PM];trivial⟩
def QW{n:Int}{x:AF}{l:List AH}(hk:(Lit.int .i64 k).wf=true)(hn:(Lit.int .i64 n).wf=true)(Y:x.length<=68719476736)(h1:l.length<=68719476736)(h2:m.length<=68719476736)(hl:∀y∈l,Ad y)(a:∀y∈m,y.name.length<=68719476736/\Ad y.v):Ad (.mk k n x l m):=
 ⟨lU.2 ⟨Y,h1,h2,λy hy=>(hl y hy).1,λy hy=>⟨(a y hy).1,(a y hy).2.1⟩⟩,by rw[AH.ok];exact⟨hk,hn,Dz λy hy=>(hl y hy).2,DA λy hy=>(a y hy).2.2⟩⟩
def tk0:Ad bO:=⟨aD4,Yu⟩
def tkT{x:AF}(h:x.length<=68719476736):Ad (jJ x):=⟨QV h,by simp only[jJ,AH.ok,l6,l9,and_true];exact⟨rfl,rfl⟩⟩
def NN{b:AH}(h:Ad b):∀n:Nat,Ad (OI n b)
 |0=>h
 |n+1=>by
  rw[OI]
  exact QW Wc Wc (zero_le _) Wa (zero_le _) (λx Y=>by rw[mem_singleton.1 Y];exact NN h n) (λx Y=>Y8)
def NO(dfl:AO->VE)(ps:List AO):Prop:=ps.length<=68719476736/\∀p∈ps,p.name.length<=68719476736/\Ad (dfl p).1
def VF{s:AI}{wr within:Bool}{A:List AG}{dfl:AO->VE}(hf:∀f∈b,∀t,Ad (f.2.2 t).1){p:AO}(hp:Ad (dfl p).1):Ad (oY s wr within A dfl b p).1:=by
 unfold oY;have a:Ad (if p.has=true/\(within=false\/eC s p.t.name=true) then ((dfl p).1,true,(dfl p).2) else if isT p.t=true then (bO,false,(9:Int)) else (bO,false,0)).1:=by
  split
  ·exact hp
  ·split<;>exact tk0
 cases e:zW b p.name with
 |none=>exact a
 |some f=>
  simp only[Option.bind_some];by_cases c:fX wr A f.2.1=true
  ·simp only[if_pos c];exact hf f (mem_of_find?_eq_some e) p.t
  ·simp only[if_neg c];exact a
def E4{s:AI}{wr within:Bool}{A:List AG}{dfl:AO->VE}{a:List MF}(hf:∀f∈a,∀t,Ad (f.2.2 t).1):∀ {ps:List AO},(∀p∈ps,p.name.length<=68719476736/\Ad (dfl p).1)->
  (lA s wr within A dfl a ps).1.length<=ps.length/\∀x∈(lA s wr within A dfl a ps).1,x.name.length<=68719476736/\Ad x.v
 |[],_=>by rw[lA];exact⟨le_refl _,λx Y=>Y8⟩
 |p::ps,h=>by
  obtain⟨d,b⟩:=E4 (s:=s) (wr:=wr) (within:=within) (A:=A) (dfl:=dfl) hf (ps:=ps) λq c=>h q (List.mem_cons_of_mem _ c)
  have h0:=h p Wa
  have h1:=VF (s:=s) (wr:=wr) (within:=within) (A:=A) hf h0.2
  have none:([]:List AG).length<=(p::ps).length/\∀x∈([]:List AG),x.name.length<=68719476736/\Ad x.v:=⟨zero_le _,λx Y=>Y8⟩
  rw[lA]
  dsimp only
  split
  ·exact none
  split
  ·exact none
  dsimp only
  split
  ·refine⟨by simpa using d,λx Y=> ?_⟩
   rcases mem_cons.1 Y with rfl|Y
   ·exact⟨h0.1,h1⟩
   ·exact b x Y
  ·exact⟨Wh,b⟩
section
variable (s:AI) (wr:Bool) (A:List AG) (dfl:AO->VE) (he:∀x∈A,Ad x.v) (hdf:∀d∈s.ah,NO dfl d.params)
include he hdf
theorem Tz{n:AF}{v:AH}(hv:Ad v){c:List MF}(hf:∀f∈c,∀t,Ad (f.2.2 t).1):Ad (mF s wr A dfl n v c).1:=by
 have hs:=(lU.1 hv.1).1;unfold mF;cases a:dQ s n with
 |none=>exact tk0
 |some d=>
  dsimp only;by_cases g:d.kind=0
  ·rw[if_pos g];unfold oU;split
   ·exact tk0
   split
   ·have h0:=Ok hv.2;exact tkT (le_trans (SA v.n h0.1 h0.2) Wc)
   split
   ·exact hv
   ·exact tk0
  rw[if_neg g];by_cases h:d.kind=4
  ·rw[if_pos h];unfold uI
   (repeat' split)<;>first|exact tkT hs|exact tk0
  rw[if_neg h];by_cases b:d.kind=5
  ·rw[if_pos b];split
   ·have e:NO dfl d.params:=by
     unfold dQ at a;split at a
     ·cases a;dsimp only at b;omega
     ·exact hdf d (mem_of_find?_eq_some a)
    unfold nA;split
    ·exact tk0
    ·dsimp only;split
     ·exact tk0
     ·obtain⟨i,j⟩:=E4 (s:=s) (wr:=wr) (within:=true) (A:=A) (dfl:=dfl) hf e.2;exact QW Wc Wc (zero_le _) (zero_le _) (le_trans i e.1) (λy hy=>by cases hy) j
   ·exact tk0
  ·rw[if_neg b];exact tk0
mutual
theorem TA:∀(v:AH) (t:Ae),Ad v->Ad (mkV s wr A dfl v t).1
 | .mk k n str l m,t,hv=>by
  have b:=TB m (λx Y=>(hv.m Y).2)
  have a:=aCC l (λx Y=>hv.l Y) (b7 t)
  have hb:=Tz (n:=t.name) (v := .mk k n str l m) s wr A dfl he hdf hv b
  rw[mkV]
  split
  ·unfold oF
   cases e:A.find? λm=>m.name==str with
   |none=>simp only[Option.map_none];split<;>exact tk0
   |some y=>
    simp only[Option.map_some]
    split
    ·exact tk0
    ·exact he y (mem_of_find?_eq_some e)
  split
  ·split
   ·exact tk0
   ·exact hv
  split
  ·split
   ·dsimp only
    split
    ·exact tk0
    ·exact QW Wc Wc (zero_le _) (le_trans a.1 (lU.1 hv.1).2.1) (zero_le _) a.2 (λy hy=>by cases hy)
   ·unfold IB
    split
    ·exact NN hb _
    ·exact hb
  ·exact hb
theorem aCC:∀(l:List AH),(∀x∈l,Ad x)->∀(t:Ae),(mkL s wr A dfl l t).1.length<=l.length/\∀x∈(mkL s wr A dfl l t).1,Ad x
 |[],_,t=>by rw[mkL];exact⟨le_refl _,λx Y=>Y8⟩
 |v::l,a,t=>by
  have h1:=TA v t (a v (List.mem_cons_self ..))
  obtain⟨h2,h3⟩:=aCC l (λx Y=>a x (List.mem_cons_of_mem _ Y)) t
  have none:([]:List AH).length<=(v::l).length/\∀x∈([]:List AH),Ad x:=⟨zero_le _,λx Y=>Y8⟩
  rw[mkL]
  split
  ·exact none
  dsimp only
  split
  ·exact none
  split
  ·exact none
  ·refine⟨by simpa using h2,λx Y=> ?_⟩
   rcases mem_cons.1 Y with rfl|Y
   ·exact h1
   ·exact h3 x Y
theorem TB:∀(m:List AG),(∀x∈m,Ad x.v)->∀f∈mkM s wr A dfl m,∀t:Ae,Ad (f.2.2 t).1
 |[],_,f,hf,_=>by rw[mkM]at hf;cases hf
 | .mk nm v::m,a,f,hf,t=>by
  rw[mkM]at hf
  rcases mem_cons.1 hf with rfl|hf
  ·dsimp only
   split
   ·exact TA v t (a _ (List.mem_cons_self ..))
   ·exact tk0
  ·exact TB m (λy hy=>a y (List.mem_cons_of_mem _ hy)) f hf t
end
end
def Bj(p:AO):Prop:=p.name.length<=68719476736/\Ad p.d
def Jg(s:AI)(hs:∀d∈s.ah,d.params.length<=68719476736/\∀p∈d.params,Bj p)(p:AO)(hp:Bj p):Ad (cX s p).1:=by
 unfold cX qC;split
 ·exact TA s true [] IC (λx Y=>Y8) (λd a=>⟨(hs d a).1,λq b=>⟨((hs d a).2 q b).1,tk0⟩⟩) p.d p.t hp.2
 ·exact tk0
def QX(s:AI)(hs:∀d∈s.ah,d.params.length<=68719476736/\∀p∈d.params,Bj p)(p:AO)(hp:Bj p):Ad (lC s p).1:=by
 unfold lC aCp qC;split
 ·exact TA s true [] (cX s) (λx Y=>Y8) (λd a=>⟨(hs d a).1,λq b=>⟨((hs d a).2 q b).1,Jg s hs q ((hs d a).2 q b)⟩⟩) p.d p.t hp.2
 ·exact tk0
def Pp(s:AI)(hs:∀d∈s.ah,d.params.length<=68719476736/\∀p∈d.params,Bj p)(ps:List AO)(hp:∀p∈ps,Bj p)(args A:List AG)(ha:∀x∈args,Ad x.v)(he:∀x∈A,Ad x.v):
  (dV s ps args A).1.length<=ps.length/\∀x∈(dV s ps args A).1,x.name.length<=68719476736/\Ad x.v:=
 E4 (TB s true A (cX s) he (λd a=>⟨(hs d a).1,λq b=>⟨((hs d a).2 q b).1,Jg s hs q ((hs d a).2 q b)⟩⟩) args ha) λp h=>⟨(hp p h).1,QX s hs p (hp p h)⟩
def Pq(s:AI)(hs:∀d∈s.ah,d.params.length<=68719476736/\∀p∈d.params,Bj p)(ps:List AO)(hp:∀p∈ps,Bj p)(a:List AG)(ha:∀x∈a,Ad x.v):
  (GX s ps a).1.length<=ps.length/\∀x∈(GX s ps a).1,x.name.length<=68719476736/\Ad x.v:=
 E4 (TB s false [] (cX s) (λx Y=>Y8) (λd b=>⟨(hs d b).1,λq c=>⟨((hs d b).2 q c).1,Jg s hs q ((hs d b).2 q c)⟩⟩) a ha) λp h=>⟨(hp p h).1,QX s hs p (hp p h)⟩
def Es{a:List Row}{r:Row}(h:∀x∈a,Q x)(hr:Q r):∀x∈jC a r,Q x:=by
 unfold jC;split
 ·intro x Y;rcases mem_append.1 Y with h1|h1
  ·exact h x h1
  ·rw[mem_singleton.1 h1];exact hr
 ·intro x Y;rcases List.mem_or_eq_of_mem_set Y with h1|rfl
  ·exact h x h1
  ·exact hr
def Ks(a:List Row)(r:Row):(jC a r).length<=a.length+1:=by unfold jC;split<;>simp
def Et{a:List Row}{b:AF}(h:∀x∈a,Q x):∀x∈jD a b,Q x:=by
 unfold jD;split
 ·exact h
 ·intro x Y;rcases mem_append.1 Y with h1|h1
  ·exact h x (List.mem_of_mem_take h1)
  ·exact h x (List.mem_of_mem_drop h1)
def Kt(a:List Row)(b:AF):(jD a b).length<=a.length:=by unfold jD;split<;>simp;omega
def DH{l:List α}{i:Nat}{f:α->α}{x:α}(h:x∈yT l i f):x∈l\/∃y∈l,x=f y:=by
 unfold yT at h;split at h
 ·rename_i y hy;rcases List.mem_or_eq_of_mem_set h with h1|rfl
  ·exact .inl h1
  ·exact .inr ⟨y,List.mem_of_getElem? hy,rfl⟩
 ·exact .inl h
theorem HX{l:List α}{i:Nat}{f:α->α}:(yT l i f).length=l.length:=by unfold yT;split<;>simp
def FX{r:Row}{t:AY}(h:t∈sM l name r):t∈l\/t.af=[r]\/∃y∈l,t.af=jC y.af r:=by
 unfold sM at h;split at h
 ·rcases mem_append.1 h with h1|h1
  ·exact .inl h1
  ·rw[mem_singleton.1 h1];exact .inr (.inl rfl)
 ·rcases DH h with h1|⟨y,hy,rfl⟩
  ·exact .inl h1
  ·exact .inr (.inr ⟨y,hy,rfl⟩)
def QY(l:List AY)(name:AF)(r:Row):(sM l name r).length<=l.length+1:=by
 unfold sM;split
 ·simp
 ·rw[HX];omega
def FY{key:AF}{t:AY}(h:t∈w5 l name key):t∈l\/∃y∈l,t.af=jD y.af key:=by
 unfold w5 at h;split at h
 ·exact .inl h
 ·rcases DH h with h1|⟨y,hy,rfl⟩
  ·exact .inl h1
  ·exact .inr ⟨y,hy,rfl⟩
def QZ(l:List AY)(name a:AF):(w5 l name a).length<=l.length:=by
 unfold w5;split
 ·omega
 ·rw[HX];omega
def Ku(h:∀t∈l,∀r∈t.af,Q r)(h0:Q qW)(n:Aa):Q (cN l n).row:=by
 unfold cN;split
 ·exact h0
 ·rename_i t ht;split
  ·exact h0
  ·rename_i r hr;unfold EQ;split
   ·exact h0
   ·exact h t (mem_of_find?_eq_some ht) r (mem_of_find?_eq_some hr)
def pT{name:AF}:∀ {l:List AG},(∀x∈l,Ad x.v)->Ad (bR name l).1
 |[],_=>tk0
 |m::l,h=>by
  rw[bR]
  split
  ·exact h m Wa
  ·exact pT λx Y=>h x Yo
def NP{n:Int}(h:jE n=true):Ad (zO n):=by unfold jE at h;simp only[Bool.and_eq_true,decide_eq_true_eq]at h;refine⟨DR (by unfold zO;simp[AH.size,iO,mW]), ?_⟩;unfold zO;simp only[AH.ok,l6,l9,and_true];refine⟨rfl, ?_⟩;unfold Lit.wf IntKind.min IntKind.max;rw[Bool.and_eq_true,decide_eq_true_eq,decide_eq_true_eq];exact⟨(by show (-9223372036854775808:Int)<=n;omega),(by show n<=(9223372036854775807:Int);omega)⟩
def Bv(r:Row):Prop:=∀m∈r.aq,Ad m.v
def Kv{l:List AG}{n:AF}{v:AH}(h:∀m∈l,Ad m.v)(hv:Ad v):∀m∈oV l n v,Ad m.v:=λm a=>by
 unfold oV at a
 split at a
 ·rcases mem_append.1 a with h1|h1
  ·exact h m h1
  ·rw[mem_singleton.1 h1];exact hv
 ·rcases DH a with h1|⟨y,hy,rfl⟩
  ·exact h m h1
  ·exact hv
def wD:∀ {args b:List AG},(∀m∈args,Ad m.v)->(∀m∈b,Ad m.v)->∀m∈eW args b,Ad m.v
 |[],b,_,h=>h
 |a::args,b,ha,h=>by
  rw[eW]
  refine wD (λm c=>ha m (by simp[c])) ?_
  split
  ·exact Kv h (ha a Wa)
  ·exact h
structure BV(B:Nat)(l:List AY):Prop where
 a7:BM B l
 bj:∀t∈l,∀r∈t.af,Bv r
theorem BV.mono{B': Nat}(h:BV B l)(hb:B<=B'):BV B' l:=⟨h.a7.le hb,h.bj⟩
def Mj{r:Row}(h:BV B l){a:Nat}(hr:r.aq.length<=B+a)(hv:Bv r):BV (B+a+1) (sM l name r):=by
 refine⟨⟨by have:=QY l name r;have:=h.a7.len;omega,λt ht=> ?_,λt ht=> ?_⟩,λt ht=> ?_⟩
 ·rcases FX ht with h1|h1|⟨y,hy,h1⟩
  ·have:=h.a7.af t h1;omega
  ·rw[h1];simp
  ·rw[h1];have:=Ks y.af r;have:=h.a7.af y hy;omega
 ·rcases FX ht with h1|h1|⟨y,hy,h1⟩
  ·exact λx Y=>by have:=h.a7.aq t h1 x Y;omega
  ·rw[h1];intro x Y;rw[mem_singleton.1 Y];omega
  ·rw[h1];exact Es (Q:=λx=>x.aq.length<=B+a+1) (λx Y=>by have:=h.a7.aq y hy x Y;omega) om
 ·rcases FX ht with h1|h1|⟨y,hy,h1⟩
  ·exact h.bj t h1
  ·rw[h1];intro x Y;rw[mem_singleton.1 Y];exact hv
  ·rw[h1];exact Es (h.bj y hy) hv
def VG{a:AF}(h:BV B l):BV B (w5 l name a):=by
 refine⟨⟨by have:=QZ l name a;have:=h.a7.len;omega,λt ht=> ?_,λt ht=> ?_⟩,λt ht=> ?_⟩
 ·rcases FY ht with h1|⟨y,hy,h1⟩
  ·exact h.a7.af t h1
  ·rw[h1];have:=Kt y.af a;have:=h.a7.af y hy;omega
 ·rcases FY ht with h1|⟨y,hy,h1⟩
  ·exact h.a7.aq t h1
  ·rw[h1];exact Et (Q:=λx=>x.aq.length<=B) (h.a7.aq y hy)
 ·rcases FY ht with h1|⟨y,hy,h1⟩
  ·exact h.bj t h1
  ·rw[h1];exact Et (h.bj y hy)
def E5{L:List AY}{c:BH}(h:BV B L)(ha:∀m∈c.args,Ad m.v):Ad (gI L c).2.1/\BV (B+c.args.length+1) (gI L c).1:=by
 have hrow:∀n,Bv (cN L n).row:=λn=>Ku h.bj (λm g=>by cases g) n
 have d:∀n,(cN L n).row.aq.length<=B:=λn=>Ku (Q:=λr=>r.aq.length<=B) h.a7.aq (zero_le _) n
 have hk:=pT (name:=iH) ha;have f:=tkT (lU.1 hk.1).1;have b:BV (B+c.args.length+1) L:=h.mono om;unfold gI;split
 ·exact⟨tk0,b⟩
 split
 ·exact⟨tk0,b⟩
 split
 ·exact⟨tk0,b⟩
 split
 ·exact⟨tk0,b⟩
 split
 ·refine⟨f, ?_⟩;unfold uL;by_cases i:(cN L ⟨c.table,(bR iH c.args).1.s⟩).is=true
  ·rw[if_pos i];have h1:=q9 c.args (cN L ⟨c.table,(bR iH c.args).1.s⟩).row.aq;have h3:=d ⟨c.table,(bR iH c.args).1.s⟩;exact Mj h (a:=c.args.length) Wl (wD ha (hrow _))
  ·rw[if_neg i];have h1:=q9 c.args [];simp only[length_nil]at h1;exact Mj h (a:=c.args.length) Wl (wD ha (λm g=>by cases g))
 split
 ·exact⟨tk0,b⟩
 split
 ·exact⟨f,(VG h).mono om⟩
 unfold G1;dsimp only;split
 ·exact⟨tk0,b⟩
 split
 ·exact⟨tk0,b⟩
 split
 ·exact⟨tk0,b⟩
 rename_i j o k;have hw:jE (kK ((bR sBy c.args).1.n+(iG (cN L ⟨c.table,(bR iH c.args).1.s⟩).row c.col).n))=true:=by
  cases e:jE (kK ((bR sBy c.args).1.n+(iG (cN L ⟨c.table,(bR iH c.args).1.s⟩).row c.col).n)) with
  |true=>rfl
  |false=>exact absurd (by rw[e];simp) k
 refine⟨NP hw, ?_⟩;have h1:=qD (cN L ⟨c.table,(bR iH c.args).1.s⟩).row.aq c.col (zO (kK ((bR sBy c.args).1.n+(iG (cN L ⟨c.table,(bR iH c.args).1.s⟩).row c.col).n)));have h3:=d ⟨c.table,(bR iH c.args).1.s⟩;have hb:1<=c.args.length:=by
  cases e:c.args with
  |nil=>rw[e]at j;exact absurd (by rfl) j
  |cons a l=>simp
 exact Mj h (a:=c.args.length) Wl (Kv (hrow _) (NP hw))
end Go.Proofs.YtdodieljpcfpcaaGreatDoor
namespace Go.Av
open Go
variable [AK]
def Eu(n m:Nat):(List.range n++[n+m]).Nodup:=WN
theorem HY{n m k:Nat}(h:k<n):(List.range n++[n+m])[k]? =some k:=WN
theorem FZ(n m:Nat):(List.range n++[n+m])[n]? =some (n+m):=WN
theorem rZ(n m:Nat):(List.range n++[n+m]).length=n+1:=Wa
def Mk(a m m2 c:List α)(x y:α)(O:c.length=a.length):fA (a++m++x::m2) (List.range a.length++[a.length+m.length]) (c++[y])=c++m++y::m2:=by
 have hn:=Eu a.length m.length;have hlt:∀i∈List.range a.length++[a.length+m.length],i<(a++m++x::m2).length:=λi X=>WN
 have b:(List.range a.length++[a.length+m.length]).length<=(c++[y]).length:=by rw[rZ];simp[O]
 unfold fA;rw[List.drop_eq_nil_of_le (by rw[rZ];simp[O]),List.append_nil];apply List.ext_getElem?;intro j;by_cases h1:j<a.length
 ·rw[Cl _ _ _ j j hn hlt b (HY h1),List.append_assoc,getElem?_append_left om,getElem?_append_left om]
 by_cases h2:j=a.length+m.length
 ·subst h2;rw[Cl _ _ _ a.length _ hn hlt b (FZ _ _),getElem?_append_right om,getElem?_append_right Wh];simp[O]
 ·rw[Ck _ _ _ _ (λh=>by simp only[mem_append,List.mem_range,mem_singleton]at h;omega)];by_cases h3:j<a.length+m.length
  ·have d:j<(a++m).length:=by rw[length_append];exact h3
   have e:j<(c++m).length:=by rw[length_append,O];exact h3
   rw[getElem?_append_left d,getElem?_append_left e,getElem?_append_right om,getElem?_append_right om,O]
  ·have d:(a++m).length<=j:=by rw[length_append];omega
   have e:(c++m).length<=j:=by rw[length_append,O];omega
   have f:j-(a++m).length=(j-(a++m).length-1)+1:=Yt
   have g:(c++m).length=(a++m).length:=by rw[length_append,length_append,O]
   rw[getElem?_append_right d,getElem?_append_right e,g,f,List.getElem?_cons_succ,List.getElem?_cons_succ]
def Q0{N m k:Nat}(h:k<n):emb N (List.range n++[n+m]) k=k:=by grind[emb]
theorem Pr(N n m:Nat):emb N (List.range n++[n+m]) n=n+m:=by simp[emb]
section
variable {P:Program} {A:Array Oper} {G:Bool} {K:AX->AE->St->Prop} {C:List Oper} {I:List Ak} {s:AE} {H:St} {R:TypeId} {D:String} {S:Array Edge}
def tO{d:Option Tmp}{f:FuncId}{args:Array Operand}{pre o:List AV}{B0 B1 B:List Ob}{T0 T1 M M2:List Tok}{x0 x1:Tok}{v:AV}{z j r:Nat}(ha:j7 s args.toList some=some J)
  (hp:AQ P f (pre ++ .an T0.length z n j r::o) ⟨B0,T0++[x0]⟩ (λe a7=>e = .ret v/\a7=⟨B1,T1++[x1]⟩)) (hσ:H=⟨B0++B,T0++M++x0::M2⟩) (hB:B1.length=B0.length) (hT:T1.length=T0.length)
  (a0:aQ B0.length T0.length B0=true) (a5:aL B0.length T0.length (T0++[x0])=true) (x:aQ B0.length (T0.length+1) B0=true) (y:aL B0.length (T0.length+1) (T0++[x0])=true)
  (a1:aQ B0.length T0.length B1=true) (a6:aL B0.length T0.length (T1++[x1])=true)
  (a3:aE B0.length T0.length pre=true) (a4:aE B0.length T0.length o=true) (hl:aE B0.length (T0.length+1) (pre ++ .an T0.length z n j r::o)=true)
  (hv:v.aa B0.length T0.length=true) (hw:AA J (pre ++ .an (T0.length+M.length) z n j r::o))
  (k:AD P A G K C (.all::I) (iJ d v s) ⟨B1++B,T1++M++x1::M2⟩):AD P A G K (⟨d, .call ⟨.value (.func f),args,p⟩,R,D,S,none⟩::C) I s H:=by
 subst hσ;have g:∀i,i<B0.length->emb (B0.length+B.length) (List.range B0.length) i=i:=λi X=>sO (.inr X)
 have m:∀i,i<T0.length->emb (T0.length+M.length+1+M2.length) (List.range T0.length++[T0.length+M.length]) i=i:=λi X=>Q0 X
 have e0:=n8 g m B0 a0;have e1:=mJ g m (T0++[x0]) a5;have w:∀(Q N:Nat->Nat) (a b:List AV),aW Q N (a++b)=aW Q N a++aW Q N b:=λQ N a b=>by
  induction a with
  |nil=>rfl
  |cons c a E=>rw[cons_append,aW,aW,E,cons_append]
 have u:aW (emb (B0.length+B.length) (List.range B0.length)) (emb (T0.length+M.length+1+M2.length) (List.range T0.length++[T0.length+M.length])) (pre ++ .an T0.length z n j r::o)=pre ++ .an (T0.length+M.length) z n j r::o:=by rw[w,aW,dX g m pre a3,dX g m o a4,AV.ae,Pr]
 refine lX (nB:=B0.length+B.length) (nT:=T0.length+M.length+1+M2.length) (List.range B0.length) (List.range T0.length++[T0.length+M.length]) ha hp Wa Wh ⟨List.nodup_range,λi X=>WJ⟩
  ⟨Eu _ _,λi X=>by simp only[mem_append,List.mem_range,mem_singleton]at X;omega⟩
  Wa Wa (λj i ob h ho=> ?_) (λj i t h ht=> ?_) (by rw[List.length_range,rZ];exact x) (by rw[List.length_range,rZ];exact y) (by rw[List.length_range,rZ];exact hl)
  (by rw[u];exact hw) (iN g m v hv) (B':= B1++B) (T':= T1++M++x1::M2) ?_ ?_ k
 ·grind
 ·have q:=congrArg (λl:List Tok=>l[j]?) e1;simp only[List.getElem?_map,ht]at q;show (T0++M++x0::M2)[i]? =_;by_cases hj:j<T0.length
  ·rw[HY hj]at h;cases h;rw[List.append_assoc,getElem?_append_left hj];rw[getElem?_append_left hj]at ht;rw[ht];exact q.symm
  ·have a2:=(List.getElem?_eq_some_iff.1 ht).1;simp only[length_append,length_cons,length_nil]at a2;obtain rfl:j=T0.length:=om
   rw[FZ]at h;cases h;rw[getElem?_append_right Wa];rw[getElem?_append_right (le_refl _)]at ht;simp only[Nat.sub_self,length_append]at ht ⊢;show some x0=_;rw[show some x0=some t from ht];exact q.symm
 ·rw[n8 g m B1 a1];exact oL B0 B B1 (.inr hB) om
 ·rw[mJ g m _ a6];exact Mk T0 M M2 T1 x0 x1 hT
def F0{d:Option Tmp}{f:FuncId}{args:Array Operand}{b:List AV}{v:AV}{T1:List Tok}(ha:j7 s args.toList some=some J)
  (hp:∀B,AQ P f b ⟨B,H.T⟩ (λe σ'=> e = .ret v/\σ'= ⟨B,T1⟩)) (hw:AA J b)
  (k:AD P A G K C (.tk::I) (iJ d v s) ⟨H.B,T1⟩):AD P A G K (⟨d, .call ⟨.value (.func f),args,p⟩,R,D,S,none⟩::C) I s H:=
 bT (t := .tk) (σ':= ⟨H.B,T1⟩) rfl ⟨rfl,λB=>by
  intro g w a next Q j l hn
  have h:args.toList.map (ev s)=J:=Option.some.inj (g6 _ _ _ ha)
  have hl:=jF (g:=g) (w:=w) (s:=s) (a:=a) args.toList (λx Y=>l x Wn)
  rw[h]at hl
  have c:AL g w b (args.map a.eval).toList:=by
   rw[Array.toList_map]
   exact hw _ _ _ hl
  unfold Oper.wp
  rw[kD (hp B).1 a w]
  refine((hp B).2 _ w _ j c).mono ?_
  rintro e w' ⟨i,σ', x,h1,h2,h3,rfl,rfl⟩
  obtain⟨u,rfl,m⟩:=h3
  exact hn u w' i h1 h2 m⟩ k
def Ev{T:TypeId}{a:Array TypeId}{b:Array TypeId}(h:P.underlying T=some (.func a b c)){u:Value}{r:Bool}(d:(u = .nilFunc/\r=true)\/(∃f x y,u = .func f x y)/\r=false)(n:Nat)(w:World):(Op.equalIn (n+1) T u .nilFunc).run P w = .ok r w:=by rcases d with⟨rfl,rfl⟩|⟨⟨f,x,y,rfl⟩,rfl⟩<;>simp[Op.equalIn,run_underlying h,Result.andThen]
def Ml[Lay P]{d:Tmp}{T U:TypeId}{x:Operand}{v:AV}{b:Bool}{m:TI}(hT:ty? P T=some m)(hk:m.kind = .func)(Y:ev? s x=some v)(hv:(match v with | .nilfn=>some true | .fn _ _ _=>some false|_=>none)=some b)(k:AD P A G K C (.pure::I) ((d, .bool b)::s) H):
  AD P A G K (⟨some d, .binOp .eql T x (.const .nilFunc) U,R,D,S,none⟩::C) I s H:=
 bT rfl (eZ λg w a o=>by
  have h1:=op1 Y Wd o;obtain⟨j,h,z0,t1,t2,l,u,_⟩:=(eK hT).ex;have n:∃a b c,h = .func a b c:=by rw[hk]at l;cases h<;>first|exact⟨_,_,_,rfl⟩|cases l
  obtain⟨q,r,t,rfl⟩:=n;have i:a.eval (.const .nilFunc) = .nilFunc:=rfl;refine⟨.bool b, ?_,rfl⟩;cases v with
  |nilfn=>cases hv;have e:a.eval x = .nilFunc:=h1;have h3:(Op.equal T .nilFunc .nilFunc).run P w = .ok true w:=Ev t2 (.inl ⟨rfl,rfl⟩) 9999 w;simp[execOp,e,i,eqGuard,Go.binOp,h3,Result.andThen]
  |fn f p cs=>cases hv;obtain⟨vs,ws,e,_⟩:=h1;have h3:(Op.equal T (.func f vs ws) .nilFunc).run P w = .ok false w:=Ev t2 (.inr ⟨⟨_,_,_,rfl⟩,rfl⟩) 9999 w;simp[execOp,e,i,eqGuard,Go.binOp,h3,Result.andThen]
  |_=>cases hv) k
end
end Go.Av
namespace Go.Proofs.YtdodieljpcfpcaaGreatDoor
open Go Go.Av Go.Proofs.Tryz
attribute [local irreducible] AB AD AN AQ Av.AS AZ
theorem At.read{st:AT}(h:At st)(n:Aa)(O:(eF st.R).length<st.c):At (st.read n):=⟨h.F,by
 intro e
 have h2:(jM n st.R).length=0:=congrArg List.length e
 rw[kG]at h2
 exact h.R0 (List.eq_nil_of_length_eq_zero h2),by
 show (eF (jM n st.R)).length<=st.c
 rw[uN n st.R h.R0]
 split
 ·exact h.RL
 ·rw[length_append];simp only[length_cons,length_nil];omega,by
 show (jM n st.R).length<=_
 rw[kG];exact h.RN,h.T⟩
def eRd(s:AI)(d:AR)(A:List AG)(Y:Am s d A)(pl:Pl)(hpl:Bp s d A pl)(tb a:AF)(t:Ae)(w:List Sl)(p:Ac)(st:AT)(h:At st)(hr:(eF st.R).length<st.c)(hs:Ai w st.c)(hp:p.length<=st.c)(f:st.c<=4096)
  (O:(w9 s pl w t p (cN st.L ⟨tb,a⟩) (st.read ⟨tb,a⟩)).2.c<=4096):
  Bs s d A 21 [jR (.an 3 10 1 0 0) tb a t w p, .ab (.ptr 0 0), .ab (.ptr 1 0)] st (knG 0 (isT t)) (w9 s pl w t p (cN st.L ⟨tb,a⟩) (st.read ⟨tb,a⟩)):=by
 have e:=aCy s d A st ⟨tb,a⟩ h om [.Y [knG 0 (isT t)]] rfl;have b:=aD3 s d A Y pl hpl tb a t w p (cN st.L ⟨tb,a⟩) (FV h.T _) (st.read ⟨tb,a⟩) (h.read _ hr) hs hp f O;unfold Bs at b ⊢;generalize w9 s pl w t p (cN st.L ⟨tb,a⟩) (st.read ⟨tb,a⟩)=r at *
 refine gM (nB:=2) (mT:=4) (cK [] func21 ?_) rfl (cM _ _ _ _ _ om) (kA _ _ (aF _ _ _ (d8 _)))
 repeat' first|refine .br ?_|refine .s1 ?_|(refine .q ?_ ?_<;>intro O)|refine dR e ?_|refine dR b ?_|fail
 exact⟨_,_,rfl,eU _ _,rfl,rfl⟩
def Ew(s:AI)(pl:Pl)(tb:AF)(w:List Sl)(t:Ae)(p:Ac):∀(l:List AH) (i k:Nat) (h:k<l.length) (st:AT),
  cD s pl tb w (l.take (k+1)) t p i st=((cD s pl tb w (l.take k) t p i st).1++[(dL s pl tb w l[k] t (p++[⟨[],((i+k:Nat):Int)⟩]) (cD s pl tb w (l.take k) t p i st).2).1],(dL s pl tb w l[k] t (p++[⟨[],((i+k:Nat):Int)⟩]) (cD s pl tb w (l.take k) t p i st).2).2)
 |[],i,k,h,st=>by simp at h
 |v::l,i,0,h,st=>by rw[List.take_succ_cons,List.take_zero,List.take_zero];simp only[cD,List.nil_append,List.getElem_cons_zero,Nat.add_zero]
 |v::l,i,k+1,h,st=>by have E:=Ew s pl tb w t p l (i+1) k Wp (dL s pl tb w v t (p++[⟨[],i⟩]) st).2;rw[List.take_succ_cons,List.take_succ_cons,cD,cD];grind
theorem F1(s:AI)(pl:Pl)(tb:AF)(w:List Sl)(t:Ae)(p:Ac):∀(l:List AH) (i:Nat) (st:AT),(cD s pl tb w l t p i st).1.length=l.length
 |[],_,_=>by rw[cD];rfl
 |v::l,i,st=>by rw[cD,length_cons,F1 s pl tb w t p l];rfl
def Jh(s:AI)(pl:Pl)(hpl:Aw pl)(tb:AF)(w:List Sl)(v:AH)(t:Ae)(p:Ac)(st:AT)(h:At st):st.c+1<=(dL s pl tb w v t p st).2.c:=by
 obtain⟨k,n,str,l,m⟩:=v;rw[dL];dsimp only;split
 ·split
  ·exact le_refl _
  ·exact le_refl _
 split
 ·split
  ·exact le_refl _
  ·exact(sN s pl hpl tb w l (b7 t) p 0 st.ag h.ag.ok).c
 split
 ·split
  ·exact le_refl _
  ·exact le_refl _
 split
 ·exact le_refl _
 unfold w9;split
 ·exact le_refl _
 split
 ·split
  ·exact le_refl _
  ·exact le_refl _
 split
 ·exact le_refl _
 ·exact(hpl _ _ _ _ _ _ (h.b7 _).ok).c
def Kw(s:AI)(pl:Pl)(hpl:Aw pl)(tb:AF)(w:List Sl)(t:Ae)(p:Ac):∀(l:List AH) (i:Nat) (st:AT),At st->st.c+l.length<=(cD s pl tb w l t p i st).2.c
 |[],_,st,h=>by rw[cD];exact le_refl _
 |v::l,i,st,h=>by rw[cD];have h1:=Jh s pl hpl tb w v t (p++[⟨[],i⟩]) st h;have h2:=Kw s pl hpl tb w t p l (i+1) _ (nY s pl hpl tb w v t (p++[⟨[],i⟩]) st h).ok;grind
def Ex(s:AI)(pl:Pl)(hpl:Aw pl)(tb:AF)(w:List Sl)(t:Ae)(p:Ac):∀(l:List AH) (i k:Nat) (st:AT),At st->(cD s pl tb w (l.take k) t p i st).2.c<=(cD s pl tb w l t p i st).2.c
 |[],i,k,st,h=>by rw[List.take_nil];exact le_refl _
 |v::l,i,0,st,h=>by rw[List.take_zero];have:=(sN s pl hpl tb w (v::l) t p i st h).c;simpa only [cD]using this
 |v::l,i,k+1,st,h=>by exact Ex s pl hpl tb w t p l (i+1) k _ (nY s pl hpl tb w v t (p++[⟨[],i⟩]) st h).ok
def pU(n m:Nat)(h:2<m)(st:AT)(x:AV)(Y:x.K=true):aL n m (evT st++[.Y [x]])=true:=by rw[iE,nG _ _ h];simp[aL,Tok.aa,aE,aF n m x Y]
theorem Ai.mono{l:List Sl}{c c': Nat}(h:Ai l c)(O:c<=c'):Ai l c':= ⟨le_trans h.sz (Nat.mul_le_mul_left _ om),h.all⟩
theorem Ey(tb a:AF)(t:Ae)(w:List Sl)(p:Ac):(jR .nilp tb a t w p).K=true:=by simp[jR,AV.K,aB,aZ,dK]
def mM(t:Ae)(y:AH)(tb a:AF)(t0:Ae)(w:List Sl)(p:Ac):aB [t.C,y.C,jR .nilp tb a t0 w p]=true:=by simp[aB,Ey,AH.K];rfl
def CH(s:AI)(v:AH)(t:Ae):Prop:=fQ s t.name=true\/Ad v
def Bf(s:AI)(d:AR)(A:List AG)(pl:Pl)(tb:AF)(w:List Sl)(v:AH):Prop:=∀(t:Ae) (p:Ac) (st:AT) (m0:Bool),t.name.length<=1048640->At st->Ai w st.c->p.length<=st.c->st.c<=4096->CH s v t->(dL s pl tb w v t p st).2.c<=4096->
 Bs s d A 65 [.ptr 0 0, .an 3 10 1 0 0,t.C,v.C,jR .nilp tb [] ⟨[],0,0⟩ w p] st (knG 0 m0) (dL s pl tb w v t p st)
theorem Ji(l:List Nd)(x:Nd):(l.map λy=>AV.ab y.aj)++[AV.ab x.aj]=(l++[x]).map λy=>AV.ab y.aj:=WN
def aCD(s:AI)(d:AR)(A:List AG)(Y:Am s d A)(pl:Pl)(hpl:Aw pl)(tb:AF)(w:List Sl)(v:AH)(E:∀k (h:k<v.l.length),Bf s d A pl tb w v.l[k])(t:Ae)(p:Ac)(st:AT)(m:Bool)(ht:t.name.length<=1048640)(h:At st)(hs:Ai w st.c)(hp:p.length<st.c)(a9:st.c<=4096)
  (hv:∀k (h:k<v.l.length),CH s v.l[k] t) (a2:v.kind=6) (O:(cD s pl tb w v.l t p 0 st).2.c<=4096):
  Bs s d A 119 [.ptr 0 0, .an 3 10 1 0 0,t.C,v.C,jR .nilp tb [] ⟨[],0,0⟩ w p] st (knG 0 m) (.mk 1 m bO [] (cD s pl tb w v.l t p 0 st).1,(cD s pl tb w v.l t p 0 st).2):=by
 have ab:=Kw s pl hpl tb w t p v.l 0 st h;have hk:(v.kind != 6)=false:=by rw[a2];rfl
 refine gM (nB:=2) (mT:=4) (cK [] func119 ?_) rfl (cM _ _ _ _ _ om) (kA _ _ (aF _ _ _ (d8 _)))
 repeat' first|refine .br ?_|refine .s1 ?_|(refine .q ?_ ?_<;>intro O)|refine fY rfl ?_|refine aX (agg:=true) ?_|fail
 refine bY 28 rfl (cU (k:=3) (i:=0) (c:=9) rfl rfl rfl (lF (z:=1) rfl rfl rfl) rfl rfl) ?_;refine bK v.l.length (λk=>[(28, .int .i64 k),(27, .int .i64 v.l.length),(26, .slice v.lv .no),(9, .ab (jR .nilp tb [] ⟨[],0,0⟩ w p)),(7, .ab t.C),(1, .an 3 10 1 0 0),(0, .ptr 0 0)]) (λk=>⟨evB s d A (cD s pl tb w (v.l.take k) t p 0 st).2,evT (cD s pl tb w (v.l.take k) t p 0 st).2++[.Y [.agg [.int .i64 1, .bool m, .int .i64 0, .int .i64 0, .str [], .slice [] .nil, .slice [] .nil, .slice [] .nil, .slice [] .nil, .slice ((cD s pl tb w (v.l.take k) t p 0 st).1.map λy => .ab y.aj) (.own 4 1)]], .len k]⟩) (λk=>True) ⟨rfl,congrArg (AV.int .i64) YU,rfl,rfl,rfl,rfl,rfl,trivial⟩ λk aa _=> ?_
 by_cases h1:k<v.l.length
 ·have d1:=ltT h1;have x1:=lK h1;have a:=sN s pl hpl tb w (v.l.take k) t p 0 st h;have a4:=F1 s pl tb w t p (v.l.take k) 0 st;have u:=Ew s pl tb w t p v.l 0 k h1 st;have g:=Ex s pl hpl tb w t p v.l 0 (k+1) st h;rw[u]at g;rw[Nat.zero_add]at u g;have a5:(v.l.take k).length=k:=by simp;omega
  generalize cD s pl tb w (v.l.take k) t p 0 st=q at *
  have x:=nY s pl hpl tb w v.l[k] t (p++[⟨[],(k:Int)⟩]) q.2 a.ok;have f:=E k h1 t (p++[⟨[],(k:Int)⟩]) q.2 false ht a.ok (hs.mono a.c) (by rw[length_append];have:=a.c;simp only[length_cons,length_nil];omega) (by have:=x.c;dsimp only at g;omega) (hv k h1) (le_trans g O);have ad:q.2.c<=4096:=by have:=x.c;dsimp only at g;omega
  have ac:=aAp p ⟨[],(k:Int)⟩ om;unfold Bs at f;generalize dL s pl tb w v.l[k] t (p++[⟨[],(k:Int)⟩]) q.2=r at *
  have a6:(q.1.map λy=>AV.ab y.aj).length=k:=by rw[length_map,a4,a5]
  have a1:∀B,AQ prog 113 [.an 3 10 1 0 0] ⟨B,evT q.2++[.Y [.agg [.int .i64 1, .bool m, .int .i64 0, .int .i64 0, .str [], .slice [] .nil, .slice [] .nil, .slice [] .nil, .slice [] .nil, .slice (q.1.map λy => .ab y.aj) (.own 4 1)]], .len k]⟩ (λe σ'=> e = .ret (.an 5 10 1 0 0)/\σ'= ⟨B,evT q.2++[.Y [.agg [.int .i64 1, .bool m, .int .i64 0, .int .i64 0, .str [], .slice [] .nil, .slice [] .nil, .slice [] .nil, .slice [] .nil, .slice ((q.1.map λy => .ab y.aj)++[.an 5 10 1 0 0]) (.own 4 1)]], .len (k+1), .Y [kn0 false]]⟩):=
   λB=>Vq (j:=3) (b:=4) (n:=k) rfl rfl a6 Wc om
  have q1:=cM s d A q.2 3 om;have q2:=pU 2 3 om q.2 (knG 0 false) rfl;have q3:=cM s d A q.2 4 om;have q4:=pU 2 4 om q.2 (knG 0 false) rfl;have q5:=cM s d A r.2 3 om;have q6:=pU 2 3 om r.2 _ (d8 r.1);have q7:aE 2 3 [t.C,v.l[k].C,jR .nilp tb [] ⟨[],0,0⟩ w (p++[⟨[],(k:Int)⟩])]=true:=aC _ _ _ (mM _ _ _ _ _ _ _);have q8:aE 2 4 (AV.ptr 0 0::AV.an 3 10 1 0 0::[t.C,v.l[k].C,jR .nilp tb [] ⟨[],0,0⟩ w (p++[⟨[],(k:Int)⟩])])=true:=by have:=aC 2 4 _ (mM t v.l[k] tb [] ⟨[],0,0⟩ w (p++[⟨[],(k:Int)⟩]));rw[aE,aE,this];rfl
  generalize v.l[k]=y at *
  repeat' first|refine bY 10 rfl (cU (k:=3) (i:=0) (c:=9) rfl rfl rfl (nD (aY (k:=5) (n:=1) (j:=0))) rfl rfl) ?_|refine .s1 ?_|(refine .q ?_ ?_<;>intro O)|refine F0 rfl a1 (aD _) ?_|refine tO (B0:=evB s d A q.2) (B1:=evB s d A r.2) (T0:=evT q.2) (T1:=evT r.2) (x0 := .Y [knG 0 false]) (x1 := .Y [r.1.aj]) (M:=[_,_]) (M2:=[]) (pre:=[.ptr 0 0]) (o:=[_,_,_]) rfl f rfl rfl rfl q1 q2 q3 q4 q5 q6 rfl q7 q8 rfl (aD _) ?_|fail
  refine⟨h1,Z0, ?_, ?_, ?_,trivial⟩
  ·show aM 2 5 _=true;have a7:aE 2 5 v.lv=true:=aC _ _ _ v.bo;have a0:AV.aa 2 5 (jR .nilp tb [] ⟨[],0,0⟩ w p)=true:=aF _ _ _ (Ey _ _ _ _ _);simp only[aM,AV.aa,a7,a0];rfl
  ·show (aQ 2 5 (evB s d A r.2)&&aL 2 5 (evT r.2++[.Y [.agg [.int .i64 1, .bool m, .int .i64 0, .int .i64 0, .str [], .slice [] .nil, .slice [] .nil, .slice [] .nil, .slice [] .nil, .slice ((q.1.map λy => .ab y.aj)++[.ab r.1.aj]) (.own 4 1)]], .len (k+1)]))=true;have a3:aE 2 5 ((q.1.map λy => .ab y.aj)++[.ab r.1.aj])=true:=aC _ _ _ (by rw[Ji];exact gX _);rw[cM _ _ _ _ _ om,iE,nG _ _ om];simp only[aL,Tok.aa,aE,AV.aa,a3];rfl
  ·show (⟨evB s d A r.2,evT r.2++[.Y [.agg [.int .i64 1, .bool m, .int .i64 0, .int .i64 0, .str [], .slice [] .nil, .slice [] .nil, .slice [] .nil, .slice [] .nil, .slice ((q.1.map λy => .ab y.aj)++[.ab r.1.aj]) (.own 4 1)]], .len (k+1)]⟩:St)=⟨evB s d A (cD s pl tb w (v.l.take (k+1)) t p 0 st).2,evT (cD s pl tb w (v.l.take (k+1)) t p 0 st).2++[.Y [.agg [.int .i64 1, .bool m, .int .i64 0, .int .i64 0, .str [], .slice [] .nil, .slice [] .nil, .slice [] .nil, .slice [] .nil, .slice ((cD s pl tb w (v.l.take (k+1)) t p 0 st).1.map λy => .ab y.aj) (.own 4 1)]], .len (k+1)]⟩;rw[u,Ji]
 ·have d1:=ltF h1;obtain rfl:k=v.l.length:=om
  rw[List.take_length];generalize cD s pl tb w v.l t p 0 st=q at *
  refine .go ?_;refine⟨_,_,rfl,eP (k:=3) (y:=(Nd.mk 1 m bO [] q.1).aj) rfl ?_ rfl,rfl,rfl⟩;exact AC.agg (AA.cons (aG _) (AA.cons (aG _) (AA.cons (aG _) (AA.cons (aG _) (AA.cons (aG _) (AA.cons (AC.no (AA.eq (sC _ _ _ _).symm)) (AA.cons (AC.no (AA.eq (wQ _ _ _ _).symm)) (AA.cons (AC.no (aD _)) (AA.cons (aG _)
   (AA.cons (AC.no (AA.eq Yr)) (aD _)))))))))))
end Go.Proofs.YtdodieljpcfpcaaGreatDoor
