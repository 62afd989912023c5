/- Joined texts. -/
import Derived.Laws.BytesString
import Derived.Lib.ItoaMem
import Derived.Lib.ItoaLen
import Derived.Test.YtdodieljpcfpcaaGreatDoorGEvR17
set_option maxRecDepth 100000
set_option maxHeartbeats 16000000
set_option linter.all false
open List (getElem_mem length_map map_append mem_append take_append_drop take_length take_zero)
open Nat (le_refl le_trans zero_add zero_le)
open Bool (and_eq_true or_eq_true)
open Go Go.Av Go.Proofs.YtdodieljpcfpcaaGreatDoor Go.Proofs.Tryz
variable{u:AF}{l:List AG}{N:Nat}
namespace Go.Proofs.YtdodieljpcfpcaaGreatDoor
open Go Go.Av Go.Proofs.Tryz
def eH(d:AR):Nat->List Sl->Nat->Nat
 |_,[],n=>n
 |b, .mk k a nm ar di on se::l,n=>
  if n<b then
   (if k=1/\n+1+eH d (b-n) se 0<b then
    eH d b l (n+1+eH d (b-n) se 0+eH d (b-(n+1+eH d (b-n) se 0)) (cJ d nm).1.O 0)
   else eH d b l (n+1+eH d (b-n) se 0))
  else n
termination_by b l=>(b,fS l)
decreasing_by
 all_goals simp_wf
 all_goals simp only[fS,Sl.size]
 all_goals first
  |(apply Prod.Lex.right;omega)
  |(apply Prod.Lex.left;omega)
  |(rcases Nat.eq_zero_or_pos n with h|h
    ·subst h;apply Prod.Lex.right;omega
    ·apply Prod.Lex.left;omega)
theorem mZ(d:AR)(b n:Nat):eH d b [] n=n:=by rw[eH]
theorem mN(d:AR)(b:Nat)(x:Sl)(l:List Sl)(n:Nat):eH d b (x::l) n=if n<b then
   (if x.kind=1/\n+1+eH d (b-n) x.O 0<b then
    eH d b l (n+1+eH d (b-n) x.O 0+eH d (b-(n+1+eH d (b-n) x.O 0)) (cJ d x.name).1.O 0)
   else eH d b l (n+1+eH d (b-n) x.O 0))
  else n:=by cases x;rw[eH];rfl
def Fb(d:AR)(b:Nat):∀(l:List Sl) (n:Nat),n<=eH d b l n
 |[],n=>by rw[mZ];exact le_refl _
 |x::l,n=>by
  rw[mN];split
  ·split
   ·exact le_trans om (Fb d b l _)
   ·exact le_trans om (Fb d b l _)
  ·omega
inductive BE (d:AR):List Sl->Nat->Prop where
 |nil:BE d [] 0
 |cons (x:Sl) (l:List Sl) (a b c:Nat):BE d x.O a->(x.kind=1->BE d (cJ d x.name).1.O b)->BE d l c->BE d (x::l) (1+a+(if x.kind=1 then b else 0)+c)
def RF(d:AR):∀(b:Nat) (S:Nat) (l:List Sl) (n:Nat),aA Sl.size l<=S->eH d b l n<b->∃m,BE d l m/\eH d b l n=n+m:=by
 intro b;induction b using Nat.strongRecOn with
 |ind b e=>
 intro S;induction S with
 |zero=>
  intro l n h hr;cases l with
  |nil=>exact⟨0, .nil,by rw[mZ];rfl⟩
  |cons x l=>rw[aA]at h;have:=x.au;omega
 |succ S E=>
  intro l n h hr;cases l with
  |nil=>exact⟨0, .nil,by rw[mZ];rfl⟩
  |cons x l=>
   rw[aA]at h;have Y:=x.ax;rw[mN]at hr ⊢;split at hr;case isFalse=>omega
   rename_i hn;rw[if_pos hn];have f:∀r,n+1+eH d (b-n) x.O 0<=r->r<b->∃m,BE d x.O m/\eH d (b-n) x.O 0=m:=λr h1 h2=>by
    have h3:eH d (b-n) x.O 0<b-n:=om
    rcases Nat.eq_zero_or_pos n with h0|h0
    ·grind
    ·obtain⟨m,g,o⟩:=e (b-n) om _ x.O 0 (le_refl _) h3;simp_all
   split at hr
   ·rename_i hk;rw[if_pos hk];have k:=Fb d b l (n+1+eH d (b-n) x.O 0+eH d (b-(n+1+eH d (b-n) x.O 0)) (cJ d x.name).1.O 0);obtain⟨m,g,o⟩:=f _ (le_refl _) hk.2;obtain⟨q,t,u⟩:=e (b-(n+1+eH d (b-n) x.O 0)) om _ (cJ d x.name).1.O 0 (le_refl _) om;obtain⟨i,j,p⟩:=E l _ om hr;refine⟨_, .cons x l m q i g (λ_=>t) j, ?_⟩;grind
   ·rename_i hk;rw[if_neg hk];have k:=Fb d b l (n+1+eH d (b-n) x.O 0);obtain⟨m,g,o⟩:=f _ k hr;obtain⟨i,j,p⟩:=E l _ om hr;have a:x.kind≠1:=λc=>hk ⟨c,om⟩
    refine⟨_, .cons x l m 0 i g (λc=>absurd c a) j, ?_⟩;rw[p,if_neg a];omega
def BE.mem{d:AR}{l:List Sl}{n:Nat}(h:BE d l n):∀x∈l,(∃a,BE d x.O a/\a<n)/\(x.kind=1->∃b,BE d (cJ d x.name).1.O b/\b<n):=by
 induction h with
 |nil=>intro x Y;cases Y
 |cons y l a b c h1 h2 h3 e f g=>grind
def dU(d:AR):List (List Sl)->Nat->Nat
 |[],n=>n
 |l::r,n=>if n<=40 then dU d r (n+eH d 41 l 0) else n
def If(d:AR):∀(r:List (List Sl)) (n:Nat),n<=dU d r n
 |[],n=>le_refl _
 |l::r,n=>by
  rw[dU];split
  ·exact le_trans (Nat.le_add_right _ _) (If d r _)
  ·omega
def EJ(d:AR):∀(r:List (List Sl)) (n:Nat),dU d r n<=40->∀l∈r,∃m,BE d l m/\m<=40
 |[],n,h,l,hl=>by cases hl
 |l::r,n,h,a,hl=>by
  rw[dU]at h;split at h;case isFalse=>omega
  rcases List.mem_cons.1 hl with rfl|hl
  ·have:=If d r (n+eH d 41 a 0);obtain⟨m,b,c⟩:=RF d 41 _ a 0 (le_refl _) om;grind
  ·exact EJ d r _ h a hl
def wL(s:AI)(d:AR):∀(N:Nat) (l:List Sl) (u:AF) (n:Nat),BE d l n->n<=N->(cL s d N l u).length<=n/\∀p∈cL s d N l u,∃m,BE d p.x.O m/\m<n
 |0,l,u,n,h,hn=>⟨zero_le _,λp hp=>Xm⟩
 |N+1,l,u,n,h,hn=>by
  have f:∀(l:List Sl) (n:Nat),BE d l n->n<=N+1->(l.flatMap λx=>if x.kind=0 then [(⟨u,x⟩:As)] else if x.kind=2 then cL s d N x.O (dF s u x)
   else if x.kind=1 then cL s d N (cJ d x.name).1.O (cJ d x.name).1.on else []).length<=n/\∀p∈(l.flatMap λx=>if x.kind=0 then [(⟨u,x⟩:As)] else if x.kind=2 then cL s d N x.O (dF s u x)
   else if x.kind=1 then cL s d N (cJ d x.name).1.O (cJ d x.name).1.on else []),∃m,BE d p.x.O m/\m<n:=by
   intro l n h
   induction h with
   |nil=>intro _;exact⟨zero_le _,λp hp=>Xm⟩
   |cons x l a b c h1 h2 h3 v w k=>
    intro hn
    obtain⟨y,o⟩:=k om
    rw[List.flatMap_cons,List.length_append]
    have Y:(if x.kind=0 then [(⟨u,x⟩:As)] else if x.kind=2 then cL s d N x.O (dF s u x)
   else if x.kind=1 then cL s d N (cJ d x.name).1.O (cJ d x.name).1.on else []).length<=1+a+(if x.kind=1 then b else 0)/\∀p∈(if x.kind=0 then [(⟨u,x⟩:As)] else if x.kind=2 then cL s d N x.O (dF s u x)
   else if x.kind=1 then cL s d N (cJ d x.name).1.O (cJ d x.name).1.on else []),∃m,BE d p.x.O m/\m<1+a+(if x.kind=1 then b else 0):=by
     by_cases j:x.kind=0
     ·grind
     rw[if_neg j]
     by_cases i:x.kind=2
     ·rw[if_pos i]
      obtain⟨q,r⟩:=wL s d N x.O (dF s u x) a h1 om
      grind
     rw[if_neg i]
     by_cases e:x.kind=1
     ·rw[if_pos e]at hn
      rw[if_pos e,if_pos e]
      obtain⟨q,r⟩:=wL s d N (cJ d x.name).1.O (cJ d x.name).1.on b (h2 e) om
      grind
     ·simp_all
    refine⟨om,λp hp=> ?_⟩
    rcases mem_append.1 hp with hp|hp
    ·obtain⟨m,g,t⟩:=Y.2 p hp
     exact⟨m,g,om⟩
    ·obtain⟨m,g,t⟩:=o p hp
     exact⟨m,g,om⟩
  exact f l n h hn
attribute [local irreducible] AB AD AN AQ Av.AS AZ
def Fu(d:AR)(N:Nat)(l:List Sl):Prop:=∃m,BE d l m/\m<=N
def Fu.sub{d:AR}{l:List Sl}(h:Fu d N l){x:Sl}(Y:x∈l):0<N/\Fu d (N-1) x.O/\(x.kind=1->Fu d (N-1) (cJ d x.name).1.O):=by obtain⟨m,h1,h2⟩:=h;obtain⟨⟨a,h3,h4⟩,c⟩:=h1.mem x Y;refine⟨om,⟨a,h3,om⟩,λhk=> ?_⟩;obtain⟨b,e,f⟩:=c hk;exact⟨b,e,om⟩
theorem Fu.mono{d:AR}{M:Nat}{l:List Sl}(h:Fu d N l)(a:N<=M):Fu d M l:=by obtain⟨m,h1,h2⟩:=h;exact⟨m,h1,om⟩
def r9(s:AI){d:AR}(a:d.size<=1048576):∀(N:Nat) (l:List Sl) (u:AF),aA Sl.size l<=1048576->∀p∈cL s d N l u,p.x.size<=1048576
 |0,l,u,h,p,hp=>by rw[cL]at hp;cases hp
 |N+1,l,u,h,p,hp=>by
  obtain⟨x,Y,hp⟩:=List.mem_flatMap.1 hp;have h1:=aN (size:=Sl.size) Y;have h2:=x.ax;split at hp
  ·grind
  split at hp
  ·exact r9 s a N x.O _ om p hp
  split at hp
  ·exact r9 s a N _ _ (r8 a _) p hp
  ·cases hp
def mO{s:AI}{d:AR}{l:List Sl}(h:Fu d N l):(cL s d N l u).length<=N/\∀p∈cL s d N l u,0<N/\Fu d (N-1) p.x.O:=by obtain⟨m,h1,h2⟩:=h;obtain⟨a,b⟩:=wL s d N l u m h1 h2;refine⟨om,λp hp=> ?_⟩;obtain⟨q,h3,h4⟩:=b p hp;exact⟨om,q,h3,om⟩
def KY(s:AI)(d:AR)(N:Nat)(u:AF)(x:Sl):List As:=if x.kind=0 then [⟨u,x⟩] else if x.kind=2 then cL s d (N-1) x.O (dF s u x)
 else if x.kind=1 then cL s d (N-1) (cJ d x.name).1.O (cJ d x.name).1.on else []
theorem Ig{s:AI}{d:AR}{l:List Sl}(h:Fu d N l):cL s d N l u=l.flatMap (KY s d N u):=by
 cases N with
 |zero=>
  cases l with
  |nil=>rw[cL];rfl
  |cons x l=>have:=(h.sub (x:=x) Wa).1;omega
 |succ N=>rw[cL];rfl
def Ih{d:AR}:∀ {l:List Sl} {m:Nat},BE d l m->∀k,∃q,BE d (l.take k) q/\q<=m
 |_,_, .nil,k=>by rw[List.take_nil];exact⟨0, .nil,le_refl _⟩
 |_,_, .cons x l a b c ha hb hl,k=>by
  cases k with
  |zero=>exact⟨0, .nil,zero_le _⟩
  |succ k=>obtain⟨q,h1,h2⟩:=Ih hl k;exact⟨_, .cons x _ a b q ha hb h1,om⟩
def CO(s:AI)(d:AR)(N:Nat)(u:AF)(l:List Sl):Prop:=AQ prog 285 [s.C,d.C, .str u, .slice (l.map Sl.C) .no] ⟨[],[]⟩ (λe H=>e = .ret (.slice ((cL s d N l u).map As.C) (.own 0 8))/\H=⟨[],[.len (cL s d N l u).length]⟩)
def N8{s:AI}{d:AR}{l:List Sl}(h:CO s d N u l):AN prog 285 [s.C,d.C, .str u, .slice (l.map Sl.C) .no] (.slice ((cL s d N l u).map As.C) .no):=
 AQ.plain (by simp[-List.map_map,AV.K,dT]) (by simp[AV.K,aB,AI.K,AR.K,aZ]) (h.mono λe H h=>⟨_,h.1,AC.no (aD _)⟩)
def RG(s:AI)(d:AR)(hs:s.size<=1048576)(h:d.size<=1048576):∀(N:Nat) (l:List Sl) (u:AF),N<=64->Fu d N l->aA Sl.size l<=1048576->CO s d N u l
 |N,l,u,hN,hF,hz=>by
  obtain⟨_,h2,_⟩:=uA h;have z:=aJ Sl.au l;have e:∀k,(List.flatMap (KY s d N u) (l.take k)).length<=N:=λk=>by obtain⟨m,v,g2⟩:=hF;obtain⟨q,w,g4⟩:=Ih v k;have p:Fu d N (l.take k):=⟨q,w,om⟩;rw[<-Ig p];exact(mO p).1
  refine cK [8] func285 ?_;rw[Ig hF];refine .ac ?_;refine KM l Sl.C As.C 8 (λk=>(l.take k).flatMap (KY s d N u)) 9 (λk=>[(10, .int .i64 k),(2, .str u),(3, .slice (l.map Sl.C) .no),(4, .ab s.C),(5, .ab d.C)]) rfl (λk h1 d1 x1 o=> ?_) (λ_=> ?_) dT
  ·have a:(l.take (k+1)).flatMap (KY s d N u)=(l.take k).flatMap (KY s d N u)++KY s d N u l[k]:=by rw[List.take_succ_eq_append_getElem h1,List.flatMap_append];simp
   have a0:=e k;have a2:=aN (size:=Sl.size) o;have a1:=l[k].ax;obtain⟨f0,i,j⟩:=hF.sub o;have hw:=Fa s u l[k] hs;have hf:=KV d l[k].name om;have X:=N8 (RG s d hs h (N-1) l[k].O (dF s u l[k]) om i om);have y:=(mO (s:=s) (u:=dF s u l[k]) i).1;have hj:l[k].kind=1->_:=λq=>N8 (RG s d hs h (N-1) (cJ d l[k].name).1.O (cJ d l[k].name).1.on om (j q) (r8 h _))
   have c:l[k].kind=1->_:=λq=>(mO (s:=s) (u:=(cJ d l[k].name).1.on) (j q)).1
   rw[<-l[k].bb]at X;have x:KY s d N u l[k]=if l[k].kind=0 then [⟨u,l[k]⟩] else if l[k].kind=2 then cL s d (N-1) l[k].O (dF s u l[k]) else if l[k].kind=1 then cL s d (N-1) (cJ d l[k].name).1.O (cJ d l[k].name).1.on else []:=rfl
   rw[x]at a;generalize (l.take k).flatMap (KY s d N u)=ys at *;generalize cL s d (N-1) l[k].O (dF s u l[k])=us at *;generalize cL s d (N-1) (cJ d l[k].name).1.O (cJ d l[k].name).1.on=vs at *;by_cases f:l[k].kind=0
   ·have r:=beT f
    rw[if_pos f]at a;repeat' first|refine .br ?_|refine .s1 ?_|(refine .q ?_ ?_<;>intro O)|refine bU (n:=ys.length) (length_map ..) ?_|fail
    exact ny (ys++[⟨u,l[k]⟩]) (by exact a)
   have r:(l[k].kind==0)=false:=by simp[f]
   rw[if_neg f]at a;by_cases g:l[k].kind=2
   ·have t:=beT g
    rw[if_pos g]at a;repeat' first|refine .br ?_|refine .s1 ?_|(refine .q ?_ ?_<;>intro O)|refine bU (n:=ys.length) (hf:=zA _) (hb:=by rw[length_map];dsimp only;omega) (hb':= by rw[length_map];omega) (length_map ..) ?_|fail
    exact ny (ys++us) (by exact a) (h4:=by simp)
   have t:(l[k].kind==2)=false:=by simp[g]
   rw[if_neg g]at a;by_cases b:l[k].kind=1
   ·have e1:=beT b
    rw[if_pos b]at a;have hj:=hj b;have c:=c b;repeat' first|refine .br ?_|refine .s1 ?_|(refine .q ?_ ?_<;>intro O)|refine bU (n:=ys.length) (hf:=zA _) (hb:=by rw[length_map];dsimp only;omega) (hb':= by rw[length_map];omega) (length_map ..) ?_|fail
    exact ny (ys++vs) (by exact a) (h4:=by simp)
   ·have e1:(l[k].kind==1)=false:=by simp[b]
    rw[if_neg b,List.append_nil]at a;repeat' first|refine .br ?_|refine .s1 ?_|(refine .q ?_ ?_<;>intro O)|fail
    exact ny ys (by exact a)
  ·rw[take_length];refine .go ?_;exact⟨rfl,rfl⟩
termination_by N=>N
decreasing_by all_goals omega
structure Bc(d:AR)(N:Nat)(p:As):Prop where
 fu:Fu d N p.x.O
 sz:p.x.size<=1048576
theorem Bc.O{d:AR}{p:As}(h:Bc d N p):aA Sl.size p.x.O<=1048576:=by have:=h.sz;have:=p.x.ax;omega
def KZ{s:AI}{d:AR}(f:d.size<=1048576){a b:As}(ha:Bc d N a)(hb:Bc d N b):(oT s d N a b).length<=N+N/\∀p∈oT s d N a b,0<N/\Bc d (N-1) p:=by
 obtain⟨g,c⟩:=mO (s:=s) (u:=dF s a.av a.x) ha.fu;obtain⟨i,e⟩:=mO (s:=s) (u:=dF s b.av b.x) hb.fu;unfold oT;refine⟨Yt,λp hp=> ?_⟩;rcases mem_append.1 hp with h|h
 ·exact⟨(c p h).1,(c p h).2,r9 s f N _ _ ha.O p h⟩
 ·exact⟨(e p h).1,(e p h).2,r9 s f N _ _ hb.O p h⟩
def RH(s:AI)(d:AR)(hs:s.size<=1048576)(e:d.size<=1048576)(N:Nat)(c:N<=64)(a b:As)(ha:Bc d N a)(hb:Bc d N b):AN prog 330 [s.C,d.C,a.C,b.C] (.slice ((oT s d N a b).map As.C) .no):=by
 have h1:=Fa s a.av a.x hs;have h2:=Fa s b.av b.x hs;have h3:=RG s d hs e N a.x.O (dF s a.av a.x) c ha.fu ha.O;have h4:=N8 (RG s d hs e N b.x.O (dF s b.av b.x) c hb.fu hb.O);have f:=(mO (s:=s) (u:=dF s a.av a.x) ha.fu).1;have g:=(mO (s:=s) (u:=dF s b.av b.x) hb.fu).1;unfold CO at h3;rw[<-a.x.bb]at h3;rw[<-b.x.bb]at h4;refine pEn 8 func330 ?_ (O:=by simp[-List.map_map,AV.K,dT]) (ha:=by simp[aB,AI.K,AR.K,As.K]);unfold oT;generalize cL s d N a.x.O (dF s a.av a.x)=ys at *;generalize cL s d N b.x.O (dF s b.av b.x)=h at *;repeat' first|refine .br ?_|refine .s1 ?_|(refine .q ?_ ?_<;>intro O)|refine jW rfl rfl h3 (by simp[aB,AV.K,Sl.b8,AI.K,AR.K]) (aD _) (by simp[AV.aa, -List.map_map,aC,dT]) rfl ?_|refine bU (n:=ys.length) (hf:=zA _) (hb:=by rw[length_map];dsimp only;omega) (hb':= by rw[length_map];omega) (length_map ..) ?_|fail
 exact aP rfl (AC.no (AA.eq (map_append ..).symm))
def N9(s:AI)(d:AR)(hs:s.size<=1048576)(f:d.size<=1048576):∀(N:Nat),N<=64->∀a b:As,Bc d N a->Bc d N b->AN prog 328 [s.C,d.C,a.C,b.C] (.bool (pB s d (N+1) a b))
 |N,m,a,b,ha,hb=>by
  have h1:=RD a.x;have h2:=RD b.x;have h3:=Cz s a.av a.x.name hs;have h4:=Cz s b.av b.x.name hs;have z:=V9 s (aK s a.av a.x.name).1.t (aK s b.av b.x.name).1.t hs;have h6:=RH s d hs f N m a b ha hb;obtain⟨h7,h⟩:=KZ (s:=s) f ha hb;have E:∀p∈oT s d N a b,∀q∈oT s d N a b,AN prog 328 [s.C,d.C,p.C,q.C] (.bool (pB s d N p q)):=λp hp q e=>by obtain⟨e1,i⟩:=h p hp;have:=N9 s d hs f (N-1) om p q i (h q e).2;rwa [show N-1+1=N by omega]at this
  refine pEn 8 func328 ?_ (ha:=by simp[aB,AI.K,AR.K,As.K]);rw[pB];generalize oT s d N a b=l at *;generalize c:jY (pB s d N) [] l=r at *;repeat' first|refine .br ?_|refine .s1 ?_|(refine .q ?_ ?_<;>intro O)|fail
  all_goals try first|exact mX|fail
  refine KU l As.C (pB s d N) (λk=>[(14, .int .i64 k),(4, .ab s.C),(5, .ab d.C),(13, .slice (l.map As.C) .no)]) (λk h1 o x1 n e=> ?_) (λ_ e=> ?_)
  ·repeat' first|refine .br ?_|refine .s1 ?_|(refine .q ?_ ?_<;>intro O)|fail
   refine NZ l k om As.C (λy=>pB s d N y l[k]) (λj=>[(15, .int .i64 j),(14, .int .i64 k),(4, .ab s.C),(5, .ab d.C),(13, .slice (l.map As.C) .no)]) (λj v w u x2 g hb=> ?_) (λ_ hb=> ?_)
   ·have O:=E l[j] g l[k] n;rw[c]at e;repeat' first|refine .br ?_|refine .s1 ?_|(refine .q ?_ ?_<;>intro O)|fail
    all_goals first|exact mX|exact nx|exact nx (h3:=by simp[aQ,aL,Ob.aa,aE,AV.aa,aC,b9,b8,aZ])|fail
   ·repeat' first|refine .br ?_|refine .s1 ?_|(refine .q ?_ ?_<;>intro O)|fail
    all_goals first|exact mX|exact nx|exact nx (h3:=by simp[aQ,aL,Ob.aa,aE,AV.aa,aC,b9,b8,aZ])|fail
  ·rw[c]at e;exact .wc
termination_by N=>N
decreasing_by omega
def Oa(s:AI)(d:AR)(N:Nat)(l:List As)(hl:l.length<=1048576)(E:∀p∈l,∀q∈l,AN prog 312 [s.C,d.C,p.C,q.C] (.bool (DM s d N p q))):AN prog 284 [s.C,d.C, .slice (l.map As.C) .no] (.bool (jY (DM s d N) [] l)):=by
 refine pEn 6 func284 ?_ (ha:=by simp[aB,AV.K,AI.K,AR.K,dT]);refine .ac ?_;refine KU l As.C (DM s d N) (λk=>[(7, .int .i64 k),(3, .ab s.C),(4, .ab d.C),(2, .slice (l.map As.C) .no)]) (λk h1 e x1 b c=> ?_) (λ_ c=> ?_)
 ·generalize jY (DM s d N) [] l=r at *
  repeat' first|refine .br ?_|refine .s1 ?_|(refine .q ?_ ?_<;>intro O)|fail
  refine NZ l k om As.C (λy=>DM s d N y l[k]) (λj=>[(8, .int .i64 j),(7, .int .i64 k),(3, .ab s.C),(4, .ab d.C),(2, .slice (l.map As.C) .no)]) (λj g h f i a hb=> ?_) (λ_ hb=> ?_)
  ·have O:=E l[j] a l[k] b
   repeat' first|refine .br ?_|refine .s1 ?_|(refine .q ?_ ?_<;>intro O)|fail
   all_goals first|exact mX|exact nx|exact nx (h3:=by simp[aQ,aL,Ob.aa,aE,AV.aa,aC,b9,b8,aZ])|fail
  ·repeat' first|refine .br ?_|refine .s1 ?_|(refine .q ?_ ?_<;>intro O)|fail
   all_goals first|exact mX|exact nx|exact nx (h3:=by simp[aQ,aL,Ob.aa,aE,AV.aa,aC,b9,b8,aZ])|fail
 ·generalize jY (DM s d N) [] l=r at *
  exact .wc
def Ii(s:AI)(d:AR)(hs:s.size<=1048576)(c:d.size<=1048576):∀(N:Nat),N<=64->∀a b:As,Bc d N a->Bc d N b->AN prog 312 [s.C,d.C,a.C,b.C] (.bool (DM s d (N+1) a b))
 |N,g,a,b,ha,hb=>by
  have h1:=RD a.x
  have h2:=RD b.x
  have h3:=N9 s d hs c N g a b ha hb
  have h4:=wJ s a.av hs
  have n:=wJ s b.av hs
  have o:=RH s d hs c N g a b ha hb
  obtain⟨t,f⟩:=KZ (s:=s) c ha hb
  have e1:=a.x.ax
  have e:=b.x.ax
  have i:=ha.sz
  have j:=hb.sz
  have k:=aJ AG.au a.x.args
  have m:=aJ AG.au b.x.args
  have u:=aAA a.x.args b.x.args om om
  have v:=Oa s d N (oT s d N a b) om λp hp q h=>by
   obtain⟨e1,e⟩:=f p hp
   have:=Ii s d hs c (N-1) om p q e (f q h).2
   rwa [show N-1+1=N by omega]at this
  refine pEn 8 func312 ?_ (ha:=by simp[aB,AI.K,AR.K,As.K])
  rw[DM]
  unfold VW
  generalize oT s d N a b=l at *
  generalize jY (DM s d N) [] l=r at *
  generalize pB s d (N+1) a b=q at *
  exact .wc
termination_by N=>N
decreasing_by omega
def MI(s:AI)(d:AR)(hs:s.size<=1048576)(e:d.size<=1048576):∀(M:Nat) (l:List Sl) (u:AF),aA Sl.size l<=M->M<=1048576->Fu d 64 l->AN prog 232 [s.C,d.C, .str u, .slice (l.map Sl.C) .no] (.bool (kW s d 64 l u))
 |M,l,u,h,v,hF=>by
  have g:=aJ Sl.au l
  have h1:=N8 (RG s d hs e 64 l u om hF om)
  obtain⟨h2,h3⟩:=mO (s:=s) (u:=u) hF
  have c:∀p∈cL s d 64 l u,Bc d 63 p:=λp hp=>⟨(h3 p hp).2,r9 s e 64 l u om p hp⟩
  have w:=Oa s d 64 (cL s d 64 l u) om λp hp q i=>Ii s d hs e 63 om p q (c p hp) (c q i)
  refine pEn 8 func232 ?_
  rw[PA]
  generalize cL s d 64 l u=f at *
  generalize jY (DM s d 64) [] f=r at *
  repeat' first|refine .br ?_|refine .s1 ?_|(refine .q ?_ ?_<;>intro O)|fail
  ·exact mX
  refine lZ l Sl.C (λx => !(decide (0<x.O.length) && !kW s d 64 x.O (dF s u x))) (λk=>[(9, .int .i64 k),(2, .str u),(3, .slice (l.map Sl.C) .no),(4, .ab s.C),(5, .ab d.C)]) (λk t o x1 a ha=> ?_) (λ_ ha=> ?_)
  ·have n:=aN (size:=Sl.size) a
   have m:=l[k].ax
   have hw:=Fa s u l[k] hs
   have X:=MI s d hs e (M-1) l[k].O (dF s u l[k]) om om ((hF.sub a).2.1.mono om)
   rw[<-l[k].bb]at X
   have j:=l[k].cj
   generalize l.all (λx => !(decide (0<x.O.length) && !kW s d 64 x.O (dF s u x)))=b at *
   generalize kW s d 64 l[k].O (dF s u l[k])=q at *
   repeat' first|refine .br ?_|refine .s1 ?_|(refine .q ?_ ?_<;>intro O)|fail
   all_goals first|exact mX|exact nx|exact nx (h3:=by simp[aQ,aL,Ob.aa,aE,AV.aa,aC,b9,b8,aZ])|fail
  ·generalize l.all (λx => !(decide (0<x.O.length) && !kW s d 64 x.O (dF s u x)))=b at *
   exact .wc
termination_by M=>M
decreasing_by have:=(l[k]).au;omega
structure CM(d:AR):Prop where
 ops:∀o∈d.ops,Fu d 64 o.O
 ai:∀f∈d.ai,Fu d 64 f.O
def T8(s:AI)(d:AR)(hs:s.size<=1048576)(a:d.size<=1048576)(hf:CM d):AN prog 157 [s.C,d.C] (.bool (Js s d)):=by
 obtain⟨h0,h2,_⟩:=uA a;refine pEn 4 func157 ?_;unfold Js;refine .ac ?_;refine lZ d.ops Aj.C (λo=>kW s d 64 o.O (aV s o)) (λk=>[(5, .int .i64 k),(2, .ab s.C),(3, .ab d.C)]) (λk h1 g x1 e ha=> ?_) (λ_ ha=> ?_)
 ·have h3:=Vc s d.ops[k];have h4:=MI s d hs a 1048576 d.ops[k].O (aV s d.ops[k]) (KW a e) (le_refl _) (hf.ops _ e);generalize d.ops.all (λo=>kW s d 64 o.O (aV s o))=b at *
  exact .wc
 ·generalize d.ops.all (λo=>kW s d 64 o.O (aV s o))=b at *
  refine .go ?_;refine lZ d.ai Af.C (λf=>kW s d 64 f.O f.on) (λk=>[(6, .int .i64 k),(2, .ab s.C),(3, .ab d.C)]) (λk h1 g x1 e hb=> ?_) (λ_ hb=> ?_)
  ·have h4:=MI s d hs a 1048576 d.ai[k].O d.ai[k].on (C0 a e) (le_refl _) (hf.ai _ e);generalize d.ai.all (λf=>kW s d 64 f.O f.on)=c at *
   exact .wc
  ·generalize d.ai.all (λf=>kW s d 64 f.O f.on)=c at *
   exact .wc
def T9(l:List AG)(n:AF):AF:=(bR n l).1.s
def okR(l:List AG)(n:AF):Bool:=(bR n l).1.kind==4&&(bR n l).1.s != []
theorem Oc(n:AF):∀l:List AG,(bR n l).2=false->(bR n l).1=bO
 |[],_=>rfl
 |m::l,h=>by
  rw[bR]at h ⊢;split at h
  ·cases h
  ·rename_i c;rw[if_neg c];exact Oc n l h
theorem Od(l:List AG)(n:AF):okR l n=true↔(bR n l).2=true/\(bR n l).1.kind=4/\(bR n l).1.s≠[]:=by
 unfold okR;rw[and_eq_true,beq_iff_eq,bne_iff_ne];constructor
 ·rintro⟨h1,h2⟩;refine⟨?_,h1,h2⟩;cases h:(bR n l).2 with
  |true=>rfl
  |false=>rw[Oc n l h]at h1;exact absurd h1 Wc
 ·simp_all
theorem K0(l:List AG):∀ns:List AF,uF l ns=if ns.all (okR l)=true then some (ns.map (T9 l)) else none
 |[]=>rfl
 |n::ns=>by
  rw[uF,K0 l ns,List.all_cons,List.map_cons];by_cases c:okR l n=true
  ·rw[if_pos ((Od l n).1 c),c,Bool.true_and];split<;>rfl
  ·rw[if_neg (λx=>c ((Od l n).2 x)),if_neg (by rw[and_eq_true];exact λx=>c x.1)]
def p6(l:List AG)(ns:List AF):List AF×Bool:=if ns.all (okR l)=true then (ns.map (T9 l),decide (l.length=ns.length)) else ([],false)
def wM(l:List AG)(ns:List AF):dD l ns=if (p6 l ns).2=true then some (p6 l ns).1 else none:=by unfold dD p6;rw[K0];grind
def DQ{t1 t2:Nat}{s:AE}{a b r:AV}(h1:lk? s t1=some a)(h2:lk? s t2=some b)(hw:AC (.tup [a,b]) r):∃c,Av.ret (gK s [t1,t2]) = .ret c/\AC c r:=
 ⟨_,rfl,Wq⟩
def C1(l:List AG)(ns:List AF)(hl:l.length<=68719476736)(j:ns.length<=4):AN prog 206 [.slice (l.map AG.C) .no, .slice (ns.map AV.str) .no] (.tup [.slice ((p6 l ns).1.map AV.str) .no, .bool (p6 l ns).2]):=by
 refine AQ.plain (by simp[AV.K,aB,aR]) (by simp[AV.K,aB,aT,aR]) (cK [4,5] func206 ?_);unfold p6;refine .go ?_;refine eJ 6 false 1 rfl ?_;refine bK (hj:=by simp) ns.length (λk=>[(7, .int .i64 k),(0, .slice (l.map AG.C) .no),(1, .slice (ns.map AV.str) .no),(6, .slice (((ns.take k).map (T9 l)).map AV.str) (.own 0 1))]) (λk=>⟨[],[.len k]⟩) (λk=>(ns.take k).all (okR l)=true) Z0 λk hk hj=> ?_
 have c:(((ns.take k).map (T9 l)).map AV.str).length=k:=Wh
 by_cases h1:k<ns.length
 ·have i:=ltT h1;have x1:=aU (f:=AV.str) h1;have o:=wI ns[k] l om;have b:=Ha (p:=okR l) h1 hj;have a:=Hb (p:=okR l) h1;unfold okR at b a;cases d:((bR ns[k] l).1.kind==4)<;>rw[d]at b a
  ·have ha:ns.all (okR l)=false:=a rfl;have m:((bR ns[k] l).1.kind != 4)=true:=by unfold bne;rw[d];rfl
   rw[ha];refine .go ?_;exact DQ rfl rfl (AC.tup (AA.cons (AC.no (aD _)) (aD _)))
  have m:((bR ns[k] l).1.kind != 4)=false:=by unfold bne;rw[d];rfl
  cases h:((bR ns[k] l).1.s==[])
  ·have g:((bR ns[k] l).1.s != [])=true:=by unfold bne;rw[h];rfl
   rw[g]at b;have e:=b rfl;repeat' first|refine .s1 ?_|(refine .q ?_ ?_<;>intro O)|refine bU (n:=k) c ?_|fail
   exact⟨h1,⟨rfl,rfl,rfl,WL,trivial⟩,YM,WC,rfl,e⟩
  ·have g:((bR ns[k] l).1.s != [])=false:=by unfold bne;rw[h];rfl
   rw[g]at a;have ha:ns.all (okR l)=false:=a rfl;rw[ha];refine .go ?_;exact DQ rfl rfl (AC.tup (AA.cons (AC.no (aD _)) (aD _)))
 ·have i:=ltF h1;obtain rfl:k=ns.length:=om
  rw[take_length]at hj c;rw[take_length,hj];refine .go ?_;refine DQ rfl rfl (AC.tup (AA.cons (AC.no (aD _)) (AA.cons (AC.eq (congrArg AV.bool ?_)) (aD _))));rw[Bool.eq_iff_iff,beq_iff_eq,if_pos rfl,decide_eq_true_eq];omega
def m5(d:AM):BQ×Bool:=
 if d.name=nW then (match dD d.args [Dj] with|some [a]=>(⟨0,[],a,[],[]⟩,true)|_=>(sJ,false))
 else if d.name=Di then (match dD d.args [dJ,nW] with|some [a,b]=>(⟨1,a,b,[],[]⟩,true)|_=>(sJ,false))
 else if d.name=JP then (match dD d.args [dJ,JQ] with|some [a,b]=>(⟨2,a,[],b,[]⟩,true)|_=>(sJ,false))
 else if d.name=sDo then (match dD d.args [uH,dJ] with
  |some [a,b]=>(⟨3,b,[],[],a⟩,a==P9||(a==Qa||a==IA))
  |_=>match dD d.args [uH,dJ,nW] with|some [a,b,c]=>(⟨3,b,c,[],a⟩,a==aCo)|_=>(sJ,false))
 else (sJ,false)
def d7{x:AV}{xs:List AV}{t:Tk}:AA [x, .slice xs t] [x, .slice xs .no]:=AA.cons (aG _) (AA.cons (AC.no (aD _)) (aD _))
def aAF(d:AM)(k:d.args.length<=68719476736):AN prog 133 [d.C] (.tup [(m5 d).1.C, .bool (m5 d).2]):=by
 have h1:=C1 d.args [Dj] k Wc;have h2:=C1 d.args [dJ,nW] k Wc;have h3:=C1 d.args [dJ,JQ] k Wc;have h4:=C1 d.args [uH,dJ] k Wc;have e:=C1 d.args [uH,dJ,nW] k Wc;have f:=wM d.args [Dj];have g:=wM d.args [dJ,nW];have h:=wM d.args [dJ,JQ];have i:=wM d.args [uH,dJ];have j:=wM d.args [uH,dJ,nW];refine pER [.cell 2 55, .tmp 3] func133 (O:=by simp[AV.K,aB,BQ.K]) ?_;unfold m5;have t:(d.name==[99,111,108])=decide (d.name=nW):=by unfold nW;rw[Bool.eq_iff_iff];simp
 have u:(d.name==[108,105,110,107])=decide (d.name=Di):=by unfold Di;rw[Bool.eq_iff_iff];simp
 have v:(d.name==[103,101,116])=decide (d.name=JP):=by unfold JP;rw[Bool.eq_iff_iff];simp
 have w:(d.name==[100,111])=decide (d.name=sDo):=by unfold sDo;rw[Bool.eq_iff_iff];simp
 by_cases l:d.name=nW
 ·rw[decide_eq_true l]at t;rw[if_pos l];generalize p6 d.args [Dj]=q at h1 f;obtain⟨xs,ok⟩:=q;dsimp only at h1 f;cases ok with
  |false=>
   rw[if_neg Wc]at f;rw[f];repeat' first|refine .br ?_|refine .s1 ?_|(refine .q ?_ ?_<;>intro O)|refine aH (hw:=d7) h1 ?_|fail
   exact aO
  |true=>
   rw[if_pos rfl]at f;obtain⟨a,rfl,_⟩:=uG f;rw[f];have p:([a].map AV.str)[0]? =some (AV.str a):=rfl;repeat' first|refine .br ?_|refine .s1 ?_|(refine .q ?_ ?_<;>intro O)|refine aH (hw:=d7) h1 ?_|fail
   exact aO
 rw[decide_eq_false l]at t;rw[if_neg l];by_cases m:d.name=Di
 ·rw[decide_eq_true m]at u;rw[if_pos m];generalize p6 d.args [dJ,nW]=q at h2 g;obtain⟨xs,ok⟩:=q;dsimp only at h2 g;cases ok with
  |false=>
   rw[if_neg Wc]at g;rw[g];repeat' first|refine .br ?_|refine .s1 ?_|(refine .q ?_ ?_<;>intro O)|refine aH (hw:=d7) h2 ?_|fail
   exact aO
  |true=>
   rw[if_pos rfl]at g;obtain⟨a,b,rfl,_⟩:=gH g;rw[g];have p:([a,b].map AV.str)[0]? =some (AV.str a):=rfl;have r:([a,b].map AV.str)[1]? =some (AV.str b):=rfl;repeat' first|refine .br ?_|refine .s1 ?_|(refine .q ?_ ?_<;>intro O)|refine aH (hw:=d7) h2 ?_|fail
   exact aO
 rw[decide_eq_false m]at u;rw[if_neg m];by_cases n:d.name=JP
 ·rw[decide_eq_true n]at v;rw[if_pos n];generalize p6 d.args [dJ,JQ]=q at h3 h;obtain⟨xs,ok⟩:=q;dsimp only at h3 h;cases ok with
  |false=>
   rw[if_neg Wc]at h;rw[h];repeat' first|refine .br ?_|refine .s1 ?_|(refine .q ?_ ?_<;>intro O)|refine aH (hw:=d7) h3 ?_|fail
   exact aO
  |true=>
   rw[if_pos rfl]at h;obtain⟨a,b,rfl,_⟩:=gH h;rw[h];have p:([a,b].map AV.str)[0]? =some (AV.str a):=rfl;have r:([a,b].map AV.str)[1]? =some (AV.str b):=rfl;repeat' first|refine .br ?_|refine .s1 ?_|(refine .q ?_ ?_<;>intro O)|refine aH (hw:=d7) h3 ?_|fail
   exact aO
 rw[decide_eq_false n]at v;rw[if_neg n];by_cases o:d.name=sDo;case neg=>rw[decide_eq_false o]at w;rw[if_neg o];refine .ac ?_;exact aO
 rw[decide_eq_true o]at w;rw[if_pos o];generalize p6 d.args [uH,dJ]=q at h4 i;obtain⟨xs,ok⟩:=q;dsimp only at h4 i;cases ok with
 |true=>
  rw[if_pos rfl]at i;obtain⟨a,b,rfl,_⟩:=gH i;rw[i];have p:([a,b].map AV.str)[0]? =some (AV.str a):=rfl;have r:([a,b].map AV.str)[1]? =some (AV.str b):=rfl;have j1:(a==[112,117,116])=(a==P9):=rfl;have j2:(a==[99,117,116])=(a==Qa):=rfl;have x:(a==[98,117,114,110])=(a==IA):=rfl;dsimp only;cases y:(a==P9)<;>rw[y]at j1
  ·cases z:(a==Qa)<;>rw[z]at j2
   ·cases b3:(a==IA)<;>rw[b3]at x
    all_goals
     repeat' first|refine .br ?_|refine .s1 ?_|(refine .q ?_ ?_<;>intro O)|refine aH (hw:=d7) h4 ?_|refine aH (hw:=d7) e ?_|fail
     exact aI rfl (AC.tup (AA.cons (aG _) (AA.cons (AC.eq (congrArg AV.bool x)) (aD _))))
   ·repeat' first|refine .br ?_|refine .s1 ?_|(refine .q ?_ ?_<;>intro O)|refine aH (hw:=d7) h4 ?_|refine aH (hw:=d7) e ?_|fail
    exact aO
  ·repeat' first|refine .br ?_|refine .s1 ?_|(refine .q ?_ ?_<;>intro O)|refine aH (hw:=d7) h4 ?_|refine aH (hw:=d7) e ?_|fail
   exact aO
 |false=>
  rw[if_neg Wc]at i;rw[i];dsimp only;generalize p6 d.args [uH,dJ,nW]=q at e j;obtain⟨ys,ok⟩:=q;dsimp only at e j;cases ok with
  |false=>
   rw[if_neg Wc]at j;rw[j];repeat' first|refine .br ?_|refine .s1 ?_|(refine .q ?_ ?_<;>intro O)|refine aH (hw:=d7) h4 ?_|refine aH (hw:=d7) e ?_|fail
   exact aO
  |true=>
   rw[if_pos rfl]at j;obtain⟨a,b,c,rfl,_⟩:=pE j;rw[j];have p:([a,b,c].map AV.str)[0]? =some (AV.str a):=rfl;have r:([a,b,c].map AV.str)[1]? =some (AV.str b):=rfl;have y2:([a,b,c].map AV.str)[2]? =some (AV.str c):=rfl;repeat' first|refine .br ?_|refine .s1 ?_|(refine .q ?_ ?_<;>intro O)|refine aH (hw:=d7) h4 ?_|refine aH (hw:=d7) e ?_|fail
   exact aO
def aAG(s:AI)(name:AF)(hs:s.size<=1048576):AN prog 135 [s.C, .str name] (.bool (m9 s name)):=by
 have h1:=EH s name hs;have h2:=tZ s name hs;have h3:=zI (jK s name) s.ar (by have:=sR s name (show s.size<=1048640 by omega);omega);refine pEn 4 func135 ?_;unfold m9;cases c:fQ s name<;>rw[c]at h1
 ·refine .ac ?_;exact bW
 cases b:(s.ar==[])
 ·have a:(s.ar != [])=true:=by unfold bne;rw[b];rfl
  rw[a];cases d:decide (s.ar∈jK s name)<;>rw[d]at h3
  all_goals
   repeat' first|refine .br ?_|refine aH h3 ?_|refine .s1 ?_|(refine .q ?_ ?_<;>intro O)|fail
   exact bW
 ·have a:(s.ar != [])=false:=by unfold bne;rw[b];rfl
  rw[a];refine .ac ?_;exact bW
def MJ(f:Ah)(arg:AF):Bool:=match sD f.params arg with
 |none=>false
 |some p=>(p.t.name==sID||p.t.name==cW)&&p.t.ak==f.t.ak
def RI(s:AI)(u:AF)(f:Ah)(b:BQ):Bool:=
 if b.how=0 then !f9 s u&&eC s f.t.name
 else if b.how=1 then !f9 s u&&m9 s f.t.name
 else if b.how=2 then (!f9 s u&&m9 s f.t.name)&&MJ f b.arg
 else if b.how=3 then f9 s u&&(f.t.ak==0&&(eC s f.t.name||m9 s f.t.name))
 else false
def RJ(f:Ah):Option BQ:=match f.ao with
 |[]=>some ⟨0,[],f.name,[],[]⟩
 |[d]=>if (m5 d).2=true then some (m5 d).1 else none
 |_=>none
def ofQ(s:AI)(u:AF)(f:Ah):BQ×Bool:=if f.name=bC then (sJ,false) else match RJ f with
 |none=>(sJ,false)
 |some b=>if RI s u f b=true then (b,true) else (sJ,false)
theorem K1(d:AM)(h:(m5 d).2=true):(m5 d).1.how=0\/(m5 d).1.how=1\/(m5 d).1.how=2\/(m5 d).1.how=3:=by
 unfold m5 at h ⊢
 repeat' split at h
 all_goals first|(cases h;done)|(simp_all;done)
def PF{xs ys:List AF}{a b c d e:AF}(h:dD l [a,b]=some xs)(k:dD l [c,d,e]=some ys):False:=by
 unfold dD at h k;split at h
 ·split at k
  ·simp_all
  ·cases k
 ·cases h
def RK(f:Ah)(d:AM):(JR f d).2=((m5 d).2&&(if (m5 d).1.how=2 then MJ f (m5 d).1.arg else true))/\((JR f d).2=true->(JR f d).1=(m5 d).1):=by
 unfold JR m5;by_cases g:d.name=nW
 ·rw[if_pos g,if_pos g];cases e:dD d.args [Dj] with
  |none=>exact⟨rfl,λ_=>rfl⟩
  |some xs=>obtain⟨x,rfl,_⟩:=uG e;exact⟨rfl,λ_=>rfl⟩
 rw[if_neg g,if_neg g];by_cases i:d.name=Di
 ·rw[if_pos i,if_pos i];cases e:dD d.args [dJ,nW] with
  |none=>exact⟨rfl,λ_=>rfl⟩
  |some xs=>obtain⟨x,y,rfl,_⟩:=gH e;exact⟨rfl,λ_=>rfl⟩
 rw[if_neg i,if_neg i];by_cases j:d.name=JP
 ·rw[if_pos j,if_pos j];cases e:dD d.args [dJ,JQ] with
  |none=>exact⟨rfl,λ_=>rfl⟩
  |some xs=>
   obtain⟨x,y,rfl,_⟩:=gH e;dsimp only;unfold Qb MJ;cases o:sD f.params y with
   |none=>exact⟨rfl,λh=>Wu⟩
   |some p=>
    dsimp only;by_cases l:(p.t.name=sID\/p.t.name=cW)/\p.t.ak=f.t.ak
    ·rw[if_pos l];refine⟨?_,λ_=>rfl⟩;rw[if_pos rfl,Bool.true_and,eq_comm,and_eq_true,or_eq_true];simpa using l
    ·rw[if_neg l];refine⟨?_,λh=>Wu⟩;rw[if_pos rfl,Bool.true_and,eq_comm,Bool.eq_false_iff,ne_eq,and_eq_true,or_eq_true];simpa using l
 rw[if_neg j,if_neg j];by_cases k:d.name=sDo
 ·rw[if_pos k,if_pos k];unfold doB;cases n:dD d.args [uH,dJ,nW] with
  |some xs=>
   obtain⟨a,b,c,rfl,_⟩:=pE n;cases m:dD d.args [uH,dJ] with
   |some ys=>exact(PF m n).elim
   |none=>exact⟨Wa,λ_=>rfl⟩
  |none=>
   cases m:dD d.args [uH,dJ] with
   |some ys=>obtain⟨a,b,rfl,_⟩:=gH m;exact⟨Wa,λ_=>rfl⟩
   |none=>exact⟨rfl,λ_=>rfl⟩
 ·rw[if_neg k,if_neg k];exact⟨rfl,λ_=>rfl⟩
theorem RM{s:AI}{f:Ah}{b:BQ}(h:b.how=0\/b.how=1\/b.how=2\/b.how=3):RI s u f b=(DW s u f b.how&&(if b.how=2 then MJ f b.arg else true)):=by
 unfold RI DW;have e:(f.t.ak==0)=decide (f.t.ak=0):=YN
 rcases h with h|h|h|h
 ·simp[h,Bool.and_comm]
 ·simp[h,Bool.and_comm]
 ·rw[h];simp only[reduceIte,show ¬(2:Int)=0 by decide,show ¬(2:Int)=1 by decide,show ¬(2:Int)=3 by decide];cases f9 s u<;>cases m9 s f.t.name<;>cases MJ f b.arg<;>rfl
 ·rw[h,e];simp only[reduceIte,show ¬(3:Int)=0 by decide,show ¬(3:Int)=1 by decide,show ¬(3:Int)=2 by decide];cases f9 s u<;>cases m9 s f.t.name<;>cases eC s f.t.name<;>cases decide (f.t.ak=0)<;>rfl
theorem aAH(s:AI)(u:AF)(f:Ah):ofB s u f=ofQ s u f:=by
 unfold ofB ofQ;by_cases hn:f.name=bC
 ·rw[if_pos hn,if_neg (λx=>x.2.1 hn)]
 rw[if_neg hn];unfold jT RJ
 match j:f.ao with
 |[]=>
  dsimp only;rw[RM (.inl rfl)];by_cases c:DW s u f 0=true
  ·rw[if_pos ⟨rfl,hn,c⟩,c];simp
  ·rw[if_neg (λx=>c x.2.2),if_neg WY]
 |[d]=>
  dsimp only;obtain⟨e,g⟩:=RK f d;by_cases c:(m5 d).2=true
  ·rw[if_pos c];dsimp only;rw[RM (K1 d c)];rw[c,Bool.true_and]at e;by_cases a:(JR f d).2=true
   ·rw[g a];rw[<-e,a,Bool.and_true];by_cases b:DW s u f (m5 d).1.how=true
    ·rw[if_pos ⟨rfl,hn,b⟩,if_pos b]
    ·rw[if_neg (λx=>b x.2.2),if_neg b]
   ·rw[if_neg (λx=>a x.1), <-e,if_neg W5]
  ·rw[if_neg c];dsimp only;have:(JR f d).2=false:=by rw[e];simp[c]
   rw[if_neg (by simp[this])]
 |d::h::i=>dsimp only;rw[if_neg Wa]
def aCN(s:AI)(u:AF)(f:Ah)(hs:s.size<=1048576)(hf:f.size<=1048640):AN prog 90 [s.C, .str u,f.C] (.tup [(ofB s u f).1.C, .bool (ofB s u f).2]):=by
 have ab:=f.b1;have aa:=aJ AO.au f.params;have k:=Ju s f.t.name hs;have m:=aAG s f.t.name hs;have i1:(f.name==[95,95,116,121,112,101,110,97,109,101])=decide (f.name=bC):=by unfold bC;rw[Bool.eq_iff_iff];simp
 refine pER [.cell 6 55, .tmp 7] func90 (O:=by simp[AV.K,aB,BQ.K]) ?_;rw[aAH];unfold ofQ;by_cases q:f.name=bC
 ·rw[decide_eq_true q]at i1;rw[if_pos q];refine .ac ?_;exact aO
 rw[decide_eq_false q]at i1;rw[if_neg q];unfold RJ
 match i:f.ao with
 |d::d2::ds=>
  have e2:decide ((1:Int)<(f.ao.length:Int))=true:=by rw[i];simp;omega
  refine .ac ?_;exact aO
 |[]=>
  have e2:decide ((1:Int)<(f.ao.length:Int))=false:=YB
  have e3:((f.ao.length:Int)==1)=false:=YB
  dsimp only;unfold RI;rw[if_pos rfl];unfold f9;cases v:(s.ar != [])
  ·cases a:eC s f.t.name<;>rw[a]at k
   all_goals
    refine .ac ?_;exact aO
  ·cases c:(u==s.ar)
   ·have h:(!(u==s.ar))=true:=by rw[c];rfl
    cases a:eC s f.t.name<;>rw[a]at k
    all_goals
     refine .ac ?_;exact aO
   ·have h:(!(u==s.ar))=false:=by rw[c];rfl
    refine .ac ?_;exact aO
 |[d]=>
  have e2:decide ((1:Int)<(f.ao.length:Int))=false:=YB
  have e3:((f.ao.length:Int)==1)=true:=YB
  have x1:(f.ao.map AM.C)[0]? =some d.C:=YB
  have a9:d.size<=f.size:=by have:=aN (size:=AM.size) (l:=f.ao) (x:=d) (by rw[i];simp);omega
  have a8:d.args.length<=d.size:=YQ
  have hF:=aAF d om;have n:=K1 d;dsimp only;generalize m5 d=r at *
  obtain⟨b,ok⟩:=r;dsimp only at *
  cases ok with
  |false=>rw[if_neg Wc];refine .ac ?_;exact aO
  |true=>
   rw[if_pos rfl];dsimp only;have hh:=n rfl;have hP:=N5 f.params b.arg om;have hQ:MJ f b.arg=((p7 f.params b.arg).2&&((p7 f.params b.arg).1.t.name==sID||(p7 f.params b.arg).1.t.name==cW)&&(p7 f.params b.arg).1.t.ak==f.t.ak):=by
    unfold MJ p7;cases sD f.params b.arg with
    |none=>rfl
    |some p=>dsimp only;rw[Bool.true_and]
   generalize p7 f.params b.arg=pr at hP hQ;obtain⟨p,e⟩:=pr;dsimp only at hP hQ;have j1:(p.t.name==[73,68])=(p.t.name==sID):=rfl;have j2:(p.t.name==[83,116,114,105,110,103])=(p.t.name==cW):=rfl;unfold RI;rw[hQ];unfold f9;rcases hh with hk|hk|hk|hk
   ·have w:=beT hk;have y:(b.how==1)=false:=by simp[hk]
    have z:(b.how==2)=false:=XT
    have k3:(b.how==3)=false:=XT
    rw[if_pos hk];cases v:(s.ar != [])
    ·cases a:eC s f.t.name<;>rw[a]at k
     all_goals
      refine .ac ?_;exact aO
    ·cases c:(u==s.ar)
     ·have h:(!(u==s.ar))=true:=by rw[c];rfl
      cases a:eC s f.t.name<;>rw[a]at k
      all_goals
       refine .ac ?_;exact aO
     ·have h:(!(u==s.ar))=false:=by rw[c];rfl
      refine .ac ?_;exact aO
   ·have w:(b.how==0)=false:=by simp[hk]
    have y:=beT hk;have z:(b.how==2)=false:=XT
    have k3:(b.how==3)=false:=XT
    rw[if_neg (show ¬b.how=0 by omega),if_pos hk];cases v:(s.ar != [])
    ·cases a:m9 s f.t.name<;>rw[a]at m
     all_goals
      refine .ac ?_;exact aO
    ·cases c:(u==s.ar)
     ·have h:(!(u==s.ar))=true:=by rw[c];rfl
      cases a:m9 s f.t.name<;>rw[a]at m
      all_goals
       refine .ac ?_;exact aO
     ·have h:(!(u==s.ar))=false:=by rw[c];rfl
      refine .ac ?_;exact aO
   ·have w:(b.how==0)=false:=by simp[hk]
    have y:(b.how==1)=false:=XT
    have z:=beT hk;have k3:(b.how==3)=false:=XT
    rw[if_neg (show ¬b.how=0 by omega),if_neg (show ¬b.how=1 by omega),if_pos hk];cases v:(s.ar != [])
    ·cases a:m9 s f.t.name<;>rw[a]at m
     ·refine .ac ?_;exact aO
     cases e
     ·refine .ac ?_;exact aO
     cases o:(p.t.name==sID)<;>rw[o]at j1
     ·cases w3:(p.t.name==cW)<;>rw[w3]at j2
      ·refine .ac ?_;exact aO
      cases g:(p.t.ak==f.t.ak)
      ·have j:(!(p.t.ak==f.t.ak))=true:=by rw[g];rfl
       refine .ac ?_;exact aO
      have j:(!(p.t.ak==f.t.ak))=false:=Y4
      refine .ac ?_;exact aO
     cases g:(p.t.ak==f.t.ak)
     ·have j:(!(p.t.ak==f.t.ak))=true:=by rw[g];rfl
      refine .ac ?_;exact aO
     have j:(!(p.t.ak==f.t.ak))=false:=Y4
     refine .ac ?_;exact aO
    ·cases c:(u==s.ar)
     ·have h:(!(u==s.ar))=true:=by rw[c];rfl
      cases a:m9 s f.t.name<;>rw[a]at m
      ·refine .ac ?_;exact aO
      cases e
      ·refine .ac ?_;exact aO
      cases o:(p.t.name==sID)<;>rw[o]at j1
      ·cases w3:(p.t.name==cW)<;>rw[w3]at j2
       ·refine .ac ?_;exact aO
       cases g:(p.t.ak==f.t.ak)
       ·have j:(!(p.t.ak==f.t.ak))=true:=by rw[g];rfl
        refine .ac ?_;exact aO
       have j:(!(p.t.ak==f.t.ak))=false:=Y4
       refine .ac ?_;exact aO
      cases g:(p.t.ak==f.t.ak)
      ·have j:(!(p.t.ak==f.t.ak))=true:=by rw[g];rfl
       refine .ac ?_;exact aO
      have j:(!(p.t.ak==f.t.ak))=false:=Y4
      refine .ac ?_;exact aO
     ·have h:(!(u==s.ar))=false:=by rw[c];rfl
      refine .ac ?_;exact aO
   ·have w:(b.how==0)=false:=by simp[hk]
    have y:(b.how==1)=false:=XT
    have z:(b.how==2)=false:=XT
    have k3:=beT hk;rw[if_neg (show ¬b.how=0 by omega),if_neg (show ¬b.how=1 by omega),if_neg (show ¬b.how=2 by omega),if_pos hk];cases v:(s.ar != [])
    ·refine .ac ?_;exact aO
    ·cases c:(u==s.ar)
     ·have h:(!(u==s.ar))=true:=by rw[c];rfl
      refine .ac ?_;exact aO
     ·have h:(!(u==s.ar))=false:=by rw[c];rfl
      cases w0:(f.t.ak==0)
      ·have n7:(!(f.t.ak==0))=true:=by rw[w0];rfl
       refine .ac ?_;exact aO
      have n7:(!(f.t.ak==0))=false:=by rw[w0];rfl
      cases a:eC s f.t.name<;>rw[a]at k
      ·cases o:m9 s f.t.name<;>rw[o]at m
       all_goals
        refine .ac ?_;exact aO
      refine .ac ?_;exact aO
theorem C2(d:AR)(b:Nat):∀(x y:List Sl) (n:Nat),eH d b (x++y) n=eH d b y (eH d b x n)
 |[],y,n=>by rw[mZ];rfl
 |x::l,y,n=>by
  rw[List.cons_append,mN,mN]
  split
  ·split
   ·exact C2 d b l y _
   ·exact C2 d b l y _
  ·rename_i h
   cases y with
   |nil=>rw[mZ]
   |cons z y=>rw[mN,if_neg h]
def qR{d:AR}(a:d.size<=1048576):∀(b S:Nat) (l:List Sl) (n:Nat),aA Sl.size l<=S->eH d b l n<=n\/eH d b l n<=b * 1048579+S
 |b,S,[],n,h=>by rw[mZ];exact .inl (le_refl _)
 |b,S,x::l,n,h=>by
  rw[aA]at h
  have Y:=x.ax
  have f:=x.au
  rw[mN]
  split
  case isFalse=>exact .inl (le_refl _)
  rename_i hn
  have g:=qR a (b-n) (aA Sl.size x.O) x.O 0 (le_refl _)
  have c:eH d (b-n) x.O 0<=(b-n) * 1048579+aA Sl.size x.O:=om
  generalize eH d (b-n) x.O 0=A at *
  split
  ·rename_i hk
   have i:=qR a (b-(n+1+A)) 1048576 (cJ d x.name).1.O 0 (r8 a _)
   have e:eH d (b-(n+1+A)) (cJ d x.name).1.O 0<=(b-(n+1+A)) * 1048579+1048576:=om
   generalize eH d (b-(n+1+A)) (cJ d x.name).1.O 0=B at *
   rcases qR a b (aA Sl.size l) l (n+1+A+B) (le_refl _) with h1|h1
   ·right;omega
   ·right;omega
  ·rcases qR a b (aA Sl.size l) l (n+1+A) (le_refl _) with h1|h1
   ·right;omega
   ·right;omega
termination_by b S l=>(b,fS l)
decreasing_by
 all_goals simp_wf
 all_goals first
  |(apply Prod.Lex.left;omega)
  |(rcases Nat.eq_zero_or_pos n with h0|h0
    ·subst h0;rw[Nat.sub_zero];apply Prod.Lex.right;cases x;simp only[fS,Sl.size,Sl.O]at *; omega
    ·apply Prod.Lex.left;omega)
  |(apply Prod.Lex.right;cases x;simp only[fS,Sl.size]at *; omega)
def aAI(d:AR)(c:d.size<=1048576):∀(b S:Nat) (l:List Sl),aA Sl.size l<=S->S<=1048576->0<b->b<=41->AN prog 38 [d.C, .slice (l.map Sl.C) .no, .int .i64 ((b:Int)-1)] (.int .i64 (eH d b l 0))
 |b,S,l,hl,hS,hb,y=>by
  have a3:=aJ Sl.au l
  obtain⟨_,z,_⟩:=uA c
  refine pEn 6 func38 ?_
  refine .ac ?_
  refine fB l Sl.C (λk=>[(8, .int .i64 k),(7, .int .i64 (eH d b (l.take k) 0)),(1, .slice (l.map Sl.C) .no),(2, .int .i64 ((b:Int)-1)),(3, .ab d.C)]) (λ_=>⟨[],[]⟩) (λ_=>True) trivial (λk h1 p x1 _=> ?_) (λp _=> ?_) (hs:=⟨rfl,by rw[take_zero,mZ];rfl,rfl,rfl,rfl,trivial⟩)
  ·have a2:=qR c b S (l.take k) 0 (by have:=fO Sl.size l k;omega)
   have a:eH d b (l.take (k+1)) 0=eH d b [l[k]] (eH d b (l.take k) 0):=by rw[List.take_succ_eq_append_getElem h1,C2]
   rw[mN,mZ,mZ]at a
   have e:¬eH d b (l.take k) 0<b->eH d b l 0=eH d b (l.take k) 0:=λh=>by
    rw[show eH d b l 0=eH d b (l.drop k) (eH d b (l.take k) 0) by rw[<-C2,take_append_drop],List.drop_eq_getElem_cons h1,mN,if_neg h]
   have hz:=aN (size:=Sl.size) (getElem_mem h1)
   have a4:=l[k].ax
   have a0:=KV d l[k].name om
   have m:eH d b (l.take k) 0<b->AN prog 38 [d.C, .slice l[k].sv .no, .int .i64 ((b:Int)-1-(eH d b (l.take k) 0:Int))] (.int .i64 (eH d (b-eH d b (l.take k) 0) l[k].O 0)):=λh=>by
    have:=aAI d c (b-eH d b (l.take k) 0) (S-1) l[k].O om om om om
    rwa [l[k].bb,show (b:Int)-1-(eH d b (l.take k) 0:Int)=((b-eH d b (l.take k) 0:Nat):Int)-1 by omega]
   have v:=qR c (b-eH d b (l.take k) 0) (aA Sl.size l[k].O) l[k].O 0 (le_refl _)
   generalize eH d b (l.take k) 0=n at *
   generalize u:eH d (b-n) l[k].O 0=A at *
   have j:n+1+A<b->AN prog 38 [d.C, .slice ((cJ d l[k].name).1.O.map Sl.C) .no, .int .i64 ((b:Int)-1-((n+1+A:Nat):Int))] (.int .i64 (eH d (b-(n+1+A)) (cJ d l[k].name).1.O 0)):=λh=>by
    have:=aAI d c (b-(n+1+A)) 1048576 (cJ d l[k].name).1.O (r8 c _) om om om
    rwa [show (b:Int)-1-((n+1+A:Nat):Int)=((b-(n+1+A):Nat):Int)-1 by omega]
   have w:=qR c (b-(n+1+A)) 1048576 (cJ d l[k].name).1.O 0 (r8 c _)
   generalize eH d (b-(n+1+A)) (cJ d l[k].name).1.O 0=B at *
   generalize l[k]=x at *
   by_cases g:n<b
   ·have e1:decide ((n:Int)<=(b:Int)-1)=true:=decide_eq_true om
    have m:=m g
    rw[if_pos g]at a
    have o:(n:Int)+1+(A:Int)=((n+1+A:Nat):Int):=om
    by_cases f:x.kind=1
    ·have q:=beT f
     by_cases i:n+1+A<b
     ·have j:=j i
      rw[if_pos ⟨f,i⟩]at a
      have t:decide ((n:Int)+1+(A:Int)<=(b:Int)-1)=true:=decide_eq_true om
      rw[<-o]at j
      repeat' first|refine tF (r:=(b:Int)-1-(n:Int)) ?_|refine tF (r:=(b:Int)-1-((n:Int)+1+(A:Int))) ?_|refine .s1 ?_|fail
      exact nz trivial (hs:=⟨rfl,congrArg (AV.int .i64) Zg,rfl,rfl,rfl,trivial⟩)
     ·rw[if_neg (λh=>i h.2)]at a
      have t:decide ((n:Int)+1+(A:Int)<=(b:Int)-1)=false:=decide_eq_false om
      repeat' first|refine tF (r:=(b:Int)-1-(n:Int)) ?_|refine .s1 ?_|fail
      exact nz trivial (hs:=⟨rfl,congrArg (AV.int .i64) Zg,rfl,rfl,rfl,trivial⟩)
    ·have q:=beF f
     rw[if_neg (λh=>f h.1)]at a
     repeat' first|refine tF (r:=(b:Int)-1-(n:Int)) ?_|refine .s1 ?_|fail
     exact nz trivial (hs:=⟨rfl,congrArg (AV.int .i64) Zg,rfl,rfl,rfl,trivial⟩)
   ·have e1:decide ((n:Int)<=(b:Int)-1)=false:=decide_eq_false om
    rw[e g]
    exact .wc
  ·rw[take_length]
   exact .wc
termination_by b S=>(b,S)
decreasing_by
 ·rcases Nat.eq_zero_or_pos (eH d b (l.take k) 0) with h0|h0
  ·rw[h0,Nat.sub_zero];apply Prod.Lex.right;have:=l[k].au;omega
  ·apply Prod.Lex.left;omega
 ·apply Prod.Lex.left;omega
def x6{m:List AG}:AA [AV.agg [.int .i64 0, .int .i64 0, .str [], .slice [] .nil, .slice (m.map AG.C) .no]] [(AH.mk 0 0 [] [] m).C]:=by refine AA.cons ?_ (aD _);unfold AH.C;rw[sC,AH.bf];exact AC.agg (AA.cons (aG _) (AA.cons (aG _) (AA.cons (aG _) (AA.cons (AC.no (aD _)) (aD _)))))
def Jv(l:List AM)(h:aA AM.size l<=1048576):AN prog 86 [.slice (l.map AM.C) .no] (.int .i64 (gJ l)):=by
 have hl:=aJ AM.au l;have b:=pM l;refine pEn 2 func86 ?_;refine .go ?_;refine fB l AM.C (λk=>[(4, .int .i64 k),(3, .int .i64 (gJ (l.take k))),(0, .slice (l.map AM.C) .no)]) (λ_=>⟨[],[]⟩) (λ_=>True) trivial (λk h1 c x1 _=> ?_) (λ_ _=> ?_)
 ·have h2:=aN (size:=AM.size) (getElem_mem h1);have h3:l[k].size=l[k].name.length+aA AG.size l[k].args+3:=rfl;have hz:=z7 (.mk 0 0 [] [] l[k].args) WE;have d:szV (.mk 0 0 [] [] l[k].args)=1+szM l[k].args:=by rw[szV,szL];simp only[List.length_nil]
  have a:=x6 (m:=l[k].args);have ht:gJ (l.take (k+1))=gJ (l.take k)+(1+l[k].name.length+(1+szM l[k].args)):=gO h1;have e:gJ (l.take (k+1))<=gJ l:=fO _ l (k+1);repeat' first|refine .br ?_|refine aH (hw:=a) hz ?_|refine .s1 ?_|(refine .q ?_ ?_<;>intro O)|fail
  exact nz trivial (hs:=⟨rfl,congrArg (AV.int .i64) W7,rfl,trivial⟩)
 ·rw[take_length];exact .wc
def gR:List Sl->Nat
 |[]=>0
 | .mk k a nm ar di on se::l=>(1+nm.length+a.length+on.length+(1+szM ar)+gJ di+gR se)+gR l
termination_by l=>fS l
decreasing_by
 all_goals simp_wf
 all_goals simp only[fS,Sl.size]
 all_goals omega
theorem qS(x:Sl)(l:List Sl):gR (x::l)=(1+x.name.length+x.bn.length+x.on.length+(1+szM x.args)+gJ x.ao+gR x.O)+gR l:=by cases x;rw[gR];rfl
theorem Gx:∀a b:List Sl,gR (a++b)=gR a+gR b
 |[],b=>by rw[gR,zero_add];rfl
 |x::a,b=>by rw[List.cons_append,qS,qS,Gx a b];omega
def sA:∀(N:Nat) (l:List Sl),aA Sl.size l<=N->gR l<=aA Sl.size l
 |N,[],h=>by rw[gR];omega
 |0,x::l,h=>by rw[aA]at h;have:=x.au;omega
 |N+1,x::l,h=>by rw[aA]at h ⊢;have h1:=x.ax;have h3:=sA N x.O om;have h4:=sA N l om;have a:=pM x.ao;have b:=Fj x.args;rw[qS];omega
def Jw:∀(N:Nat) (l:List Sl),aA Sl.size l<=N->N<=1048576->AN prog 87 [.slice (l.map Sl.C) .no] (.int .i64 (gR l))
 |N,l,h,g=>by
  have hl:=aJ Sl.au l;refine pEn 2 func87 ?_;refine .go ?_;refine fB l Sl.C (λk=>[(4, .int .i64 k),(3, .int .i64 (gR (l.take k))),(0, .slice (l.map Sl.C) .no)]) (λ_=>⟨[],[]⟩) (λ_=>True) trivial (λk h1 f x1 _=> ?_) (λ_ _=> ?_) (hs:=⟨rfl,by rw[take_zero,gR];rfl,rfl,trivial⟩)
  ·have h2:=aN (size:=Sl.size) (getElem_mem h1);have h3:=l[k].ax;have c:=sA _ (l.take (k+1)) (le_refl _);have d:=fO Sl.size l (k+1);have ht:gR (l.take (k+1))=gR (l.take k)+(1+l[k].name.length+l[k].bn.length+l[k].on.length+(1+szM l[k].args)+gJ l[k].ao+gR l[k].O):=by rw[List.take_succ_eq_append_getElem h1,Gx,qS,gR,Nat.add_zero]
   have i:=Jv l[k].ao om;have e:=Jw (N-1) l[k].O om om;rw[<-l[k].bb]at e;have hz:=z7 (.mk 0 0 [] [] l[k].args) WE;have b:szV (.mk 0 0 [] [] l[k].args)=1+szM l[k].args:=by rw[szV,szL];simp only[List.length_nil]
   rw[b]at hz;have a:=x6 (m:=l[k].args)
   repeat' first|refine .br ?_|refine aH (hw:=a) hz ?_|refine .s1 ?_|(refine .q ?_ ?_<;>intro O)|fail
   exact nz trivial (hs:=⟨rfl,congrArg (AV.int .i64) W7,rfl,trivial⟩)
  ·rw[take_length];exact .wc
termination_by N=>N
decreasing_by have:=(l[k]).au;omega
def EK(p:AO):Nat:=1+szV p.d+p.name.length
def C3(o:Aj):Nat:=1+gJ o.ao+gR o.O+o.name.length+aA EK o.vars
def Gy(f:Af):Nat:=1+gJ f.ao+gR f.O+f.name.length
def Jx(d:AR):Bool:=decide (((aA C3 d.ops+aA Gy d.ai:Nat):Int)<=3200)
def Ua(d:AR)(t:d.size<=1048576):AN prog 37 [d.C] (.bool (Jx d)):=by
 obtain⟨h0,h2,h3,h4,_⟩:=uA t;have u:d.size=aA Aj.size d.ops+aA Af.size d.ai+3:=rfl;have r:∀l:List AO,aA EK l<=aA AO.size l:=λl=>nE (λp=>by have:=G9 p.d;unfold EK AO.size;omega) l
 have i:∀l:List Aj,aA C3 l<=aA Aj.size l:=λl=>nE (λo=>by have:=r o.vars;have:=pM o.ao;have:=sA _ o.O (le_refl _);unfold C3 Aj.size;omega) l
 have hF:∀l:List Af,aA Gy l<=aA Af.size l:=λl=>nE (λo=>by have:=pM o.ao;have:=sA _ o.O (le_refl _);unfold Gy Af.size;omega) l
 have m:=i d.ops;have h:=hF d.ai;refine pEn 2 func37 ?_;refine .ac ?_;refine fB d.ops Aj.C (λk=>[(4, .int .i64 k),(3, .int .i64 (aA C3 (d.ops.take k))),(1, .ab d.C)]) (λ_=>⟨[],[]⟩) (λ_=>True) trivial (λk h1 g x1 _=> ?_) (λ_ _=> ?_)
 ·have a:=getElem_mem h1;have Y:=h3 _ a;have e:d.ops[k].size=d.ops[k].name.length+aA AO.size d.ops[k].vars+aA AM.size d.ops[k].ao+aA Sl.size d.ops[k].O+6:=rfl;have x:=aJ AO.au d.ops[k].vars;have z:=Jv d.ops[k].ao om;have q2:=Jw 1048576 d.ops[k].O om (le_refl _);have ht:aA C3 (d.ops.take (k+1))=aA C3 (d.ops.take k)+(1+gJ d.ops[k].ao+gR d.ops[k].O+d.ops[k].name.length+aA EK d.ops[k].vars):=gO h1;have b:=fO C3 d.ops (k+1);have c:=λj=>fO EK d.ops[k].vars j
  generalize aA C3 (d.ops.take k)=n at *;repeat' first|refine .br ?_|refine .s1 ?_|(refine .q ?_ ?_<;>intro O)|fail
  refine fB d.ops[k].vars AO.C (λj=>[(5, .int .i64 j),(3, .int .i64 ((n+1+gJ d.ops[k].ao+gR d.ops[k].O+d.ops[k].name.length+aA EK (d.ops[k].vars.take j):Nat):Int)),(4, .int .i64 k),(1, .ab d.C)]) (λ_=>⟨[],[]⟩) (λ_=>True) trivial (λj f d2 x2 _=> ?_) (λ_ _=> ?_) (hs:=⟨rfl,congrArg (AV.int .i64) (by rw[take_zero,aA];omega),rfl,rfl,trivial⟩)
  ·have hz:=aN (size:=AO.size) (getElem_mem f);have y:=d.ops[k].vars[j].lens;have q3:=z7 d.ops[k].vars[j].d om;have v:aA EK (d.ops[k].vars.take (j+1))=aA EK (d.ops[k].vars.take j)+(1+szV d.ops[k].vars[j].d+d.ops[k].vars[j].name.length):=gO f;have w:=c (j+1);repeat' first|refine .br ?_|refine .s1 ?_|(refine .q ?_ ?_<;>intro O)|fail
   exact nz trivial (hs:=⟨rfl,congrArg (AV.int .i64) (by rw[v];omega),rfl,rfl,trivial⟩)
  ·rw[take_length];refine .go ?_;exact nz trivial (hs:=⟨rfl,congrArg (AV.int .i64) W7,rfl,trivial⟩)
 ·rw[take_length];refine .go ?_;refine fB d.ai Af.C (λk=>[(6, .int .i64 k),(3, .int .i64 ((aA C3 d.ops+aA Gy (d.ai.take k):Nat):Int)),(1, .ab d.C)]) (λ_=>⟨[],[]⟩) (λ_=>True) trivial (λk h1 g x1 _=> ?_) (λ_ _=> ?_) (hs:=⟨rfl,congrArg (AV.int .i64) (by rw[take_zero,aA];rfl),rfl,trivial⟩)
  ·have a:=getElem_mem h1;have Y:=h4 _ a;have e:d.ai[k].size=d.ai[k].name.length+d.ai[k].on.length+aA AM.size d.ai[k].ao+aA Sl.size d.ai[k].O+4:=rfl;have z:=Jv d.ai[k].ao om;have q2:=Jw 1048576 d.ai[k].O om (le_refl _);have ht:aA Gy (d.ai.take (k+1))=aA Gy (d.ai.take k)+(1+gJ d.ai[k].ao+gR d.ai[k].O+d.ai[k].name.length):=gO h1;have b:=fO Gy d.ai (k+1);repeat' first|refine .br ?_|refine .s1 ?_|(refine .q ?_ ?_<;>intro O)|fail
   exact nz trivial (hs:=⟨rfl,congrArg (AV.int .i64) W7,rfl,trivial⟩)
  ·rw[take_length];exact .wc
def sB(s:AI)(d:AR):Bool:=rL s&&(Jx d&&decide (dU d (d.ops.map Aj.O++d.ai.map Af.O) 0<=40))
def lO(r:Row):Nat:=1+r.key.length+r.av.length+(1+szM r.aq)
def mP(t:AY):Nat:=1+t.name.length+aA lO t.af
def wN(l:List AY):Bool:=decide (((aA mP l:Nat):Int)<=4000)
def Oe:∀m:List AG,m.length<=szM m
 |[]=>zero_le _
 | .mk n v::m=>by
  have:=Oe m
  have:1<=szV v:=by cases v;rw[szV];omega
  rw[szM,List.length_cons];omega
def aAJ(r:Row)(hz:aA AG.size r.aq<=1048576)(h:r.key.length+r.av.length<=68719476736):AN prog 39 [r.C] (.int .i64 (lO r)):=by
 have hz:=z7 (.mk 0 0 [] [] r.aq) WE;have b:szV (.mk 0 0 [] [] r.aq)=1+szM r.aq:=by rw[szV,szL];simp only[List.length_nil]
 have hs:=Fj r.aq;rw[b]at hz;have a:=x6 (m:=r.aq);refine pEn 2 func39 ?_ (ha:=by simp[aB,Row.K])
 repeat' first|refine .br ?_|refine aH (hw:=a) hz ?_|refine .s1 ?_|(refine .q ?_ ?_<;>intro O)|fail
 refine aP rfl (AC.eq (congrArg (AV.int .i64) ?_));unfold lO;omega
def RO(l:List AY)(hz:aA mP l<=68719476736)(hr:∀t∈l,∀r∈t.af,aA AG.size r.aq<=1048576):AN prog 12 [Tbls.C l] (.bool (wN l)):=by
 have hl:=aJ (size:=mP) (λt=>by unfold mP;omega) l;refine pEn 2 func12 ?_ (ha:=by simp[aB,Tbls.K]);refine .ac ?_;refine fB l AY.C (λk=>[(4, .int .i64 k),(3, .int .i64 (aA mP (l.take k))),(0,Tbls.C l)]) (λ_=>⟨[],[]⟩) (λ_=>True) trivial (λk h1 o x1 _=> ?_) (λ_ _=> ?_)
 ·have d:=getElem_mem h1;have Y:=aN (size:=mP) d;have i:mP l[k]=1+l[k].name.length+aA lO l[k].af:=rfl;have f:=aJ (size:=lO) (λt=>by unfold lO;omega) l[k].af;have ht:aA mP (l.take (k+1))=aA mP (l.take k)+(1+l[k].name.length+aA lO l[k].af):=gO h1;have e:=fO mP l (k+1);have c:=λj=>fO lO l[k].af j
  have b:=hr l[k] d;generalize aA mP (l.take k)=n at *
  repeat' first|refine .br ?_|refine .s1 ?_|(refine .q ?_ ?_<;>intro O)|fail
  refine fB l[k].af Row.C (λj=>[(5, .int .i64 j),(3, .int .i64 ((n+1+l[k].name.length+aA lO (l[k].af.take j):Nat):Int)),(4, .int .i64 k),(0,Tbls.C l)]) (λ_=>⟨[],[]⟩) (λ_=>True) trivial (λj a p v _=> ?_) (λ_ _=> ?_) (hs:=⟨rfl,congrArg (AV.int .i64) (by rw[take_zero,aA];omega),rfl,rfl,trivial⟩)
  ·have hz:=aN (size:=lO) (getElem_mem a);have m:lO l[k].af[j]=1+l[k].af[j].key.length+l[k].af[j].av.length+(1+szM l[k].af[j].aq):=rfl;have u:=aAJ l[k].af[j] (b _ (getElem_mem a)) om;have g:aA lO (l[k].af.take (j+1))=aA lO (l[k].af.take j)+lO l[k].af[j]:=gO a;have h:=c (j+1)
   repeat' first|refine .br ?_|refine .s1 ?_|(refine .q ?_ ?_<;>intro O)|fail
   exact nz trivial (hs:=⟨rfl,congrArg (AV.int .i64) (by rw[g];omega),rfl,rfl,trivial⟩) (hb:=by show aM 0 0 _=true;simp[aM,AV.aa,aF,Tbls.K])
  ·rw[take_length];refine .go ?_;exact nz trivial (hs:=⟨rfl,congrArg (AV.int .i64) W7,rfl,trivial⟩) (hb:=by show aM 0 0 _=true;simp[aM,AV.aa,aF,Tbls.K])
 ·rw[take_length];exact .wc
def RP{l:List AY}{n:Nat}(h:aA AY.size l<=n):∀t∈l,∀r∈t.af,aA AG.size r.aq<=n:=λt ht r hr=>by
 have h1:=aN (size:=AY.size) ht
 have h2:t.size=t.name.length+aA Row.size t.af+2:=rfl
 have h3:=aN (size:=Row.size) hr
 have h4:r.size=r.key.length+r.av.length+aA AG.size r.aq+4:=rfl
 omega
def RQ(l:List AY):aA mP l<=aA AY.size l:=
 nE (λt=>by
  have:aA lO t.af<=aA Row.size t.af:=nE (λr=>by have:=Fj r.aq;unfold lO Row.size;omega) _
  unfold mP AY.size;omega) l
def PG{l:List AY}(h:wN l=true)(hv:∀t∈l,∀r∈t.af,Bv r):BV 4000 l:=by
 unfold wN at h;rw[decide_eq_true_eq]at h;have h0:aA mP l<=4000:=om
 have hl:=aJ (size:=mP) (λt=>by unfold mP;omega) l;refine⟨⟨om,λt ht=> ?_,λt ht r hr=> ?_⟩,hv⟩
 ·have h1:=aN (size:=mP) ht;have h2:mP t=1+t.name.length+aA lO t.af:=rfl;have h3:=aJ (size:=lO) (λt=>by unfold lO;omega) t.af;omega
 ·have h1:=aN (size:=mP) ht;have h2:mP t=1+t.name.length+aA lO t.af:=rfl;have h3:=aN (size:=lO) hr;have h4:lO r=1+r.key.length+r.av.length+(1+szM r.aq):=rfl;have a:=Oe r.aq;omega
def Ub{s:AI}(h:rL s=true)(u name:AF):(aK s u name).1.params.length<=4000:=by
 unfold rL at h;rw[decide_eq_true_eq]at h;unfold aK;cases hf:iW s u name with
 |none=>exact zero_le _
 |some f=>
  dsimp only;unfold iW at hf;split at hf
  ·cases hf;exact zero_le _
  ·split at hf
   ·have b:=List.mem_of_find?_eq_some hf;unfold bN dQ at b;split at b
    ·rename_i c a;split at a
     ·cases a;cases b
     ·have h1:sP c<=IF s:=aN (size:=sP) (List.mem_of_find?_eq_some a);have h2:1+f.name.length+mH f.params+gJ f.ao<=rK c.fields:=aN (size:=λf:Ah=>1+f.name.length+mH f.params+gJ f.ao) b;have h3:f.params.length<=mH f.params:=aJ (size:=λp:AO=>1+p.name.length+szV p.d) (λp=>om) _;unfold sP at h1;omega
    ·cases b
   ·cases hf
def B8(k:Nat)(L:List AY):Prop:=BV (4000+2001 * min k 410) L
def Ij{s:AI}{d:AR}{A:List AG}(Y:Am s d A)(hl:rL s=true)(O:∀name,Ap s (aK s u name).1.t.name):BI s A u B8:=by
 have a:∀g:AW,(F4 s A u g).1.length<=4000:=λg=>by have h1:=tQ s true false A (lC s) (mkM s true A (cX s) (hdS g).args) (aK s u (hdS g).name).1.params;have h2:=Ub hl u (hdS g).name;unfold F4 dV;omega
 refine⟨λk L h=> ?_,λk m L h f=>BV.mono h om,O,λk L g h _ _ _ hk=>⟨_,h.a7, ?_⟩,λk L g h j hz _ hk=> ?_⟩
 ·have:=h.mono (B':= 1048576) om;exact⟨this.a7,this.bj⟩
 ·have:=a g;omega
 ·obtain⟨e,b⟩:=Co Y u (hdS g) j hz;have:=(E5 (c:=Ps s A u g) h (λm i=>(b m i).2)).2;refine this.mono ?_;have h2:(Ps s A u g).args.length<=4000:=a g;omega
theorem zL{s:AI}(h:dQ s []=none)(name:AF):(aK s [] name).1=qB:=by
 have h2:bN s []=(uY,false):=by unfold bN;rw[h]
 have h3:fQ s []=false:=by unfold fQ fJ;rw[h2];rfl
 unfold aK iW;rw[if_neg (by rw[h3];simp),h2];rfl
def RR(s:AI)(u:AF):(ofB s u qB).1.how≠3:=by
 unfold ofB;split
 ·decide
 ·decide
def Ik{s:AI}(h:A5 s):Be s s.ar/\Bl s s.ar:=by
 by_cases a:s.ar=[]
 ·have hn:=h.nil;rw[a];refine⟨⟨λname=> ?_, ?_⟩,λname _ _=>zL hn name⟩
  ·rw[zL hn];exact JV hn
  ·rw[zL hn];exact RR s []
 ·exact JW h a
def zM{s:AI}{d:AR}{A:List AG}(Y:Am s d A)(hl:rL s=true)(h:A5 s)(o:Aj):BI s A (aV s o) B8:=by
 refine Ij Y hl λname=> ?_
 unfold aV;split
 ·exact(Ik h).1.calm name
 ·exact(oK h _ (yF h) name).1
theorem mE(d:AR):∀(a b:List (List Sl)) (n:Nat),dU d (a++b) n=dU d b (dU d a n)
 |[],b,n=>rfl
 |l::a,b,n=>by
  rw[List.cons_append,dU,dU]
  split
  ·exact mE d a b _
  ·rename_i h
   cases b with
   |nil=>rfl
   |cons z b=>rw[dU,if_neg h]
theorem wO(d:AR){n:Nat}(h:¬n<=40):∀r:List (List Sl),dU d r n=n
 |[]=>rfl
 |l::r=>by rw[dU,if_neg h]
def Ve{d:AR}(a:d.size<=1048576){l:List Sl}(hl:aA Sl.size l<=1048576):AN prog 38 [d.C, .slice (l.map Sl.C) .no, .int .i64 40] (.int .i64 (eH d 41 l 0))/\eH d 41 l 0<=68719476736:=
 ⟨aAI d a 41 1048576 l hl (le_refl _) om om,by have:=qR a 41 1048576 l 0 hl;omega⟩
def RS(s:AI)(d:AR)(hs:s.size<=1048576)(e:d.size<=1048576):AN prog 11 [s.C,d.C] (.bool (sB s d)):=by
 obtain⟨h0,h2,h3,h4,_⟩:=uA e;have t:=aAr s om;have u:=Ua d e;refine pEn 4 func11 ?_;unfold sB;generalize rL s=r at *
 generalize Jx d=p at *
 repeat' first|refine .br ?_|refine .s1 ?_|(refine .q ?_ ?_<;>intro O)|fail
 all_goals try first|exact p5|fail
 all_goals
  have c:(r&&p)=true:=Xw
  simp only[and_eq_true]at c;rw[c.1,c.2,Bool.true_and,Bool.true_and];refine fB d.ops Aj.C (λk=>[(6, .int .i64 k),(5, .int .i64 (dU d ((d.ops.take k).map Aj.O) 0)),(3, .ab d.C)]) (λ_=>_) (λ_=>True) trivial (λk h1 g x1 _=> ?_) (λf _=> ?_)
  ·obtain⟨l,o⟩:=Ve e (KW e (getElem_mem h1));have ht:dU d ((d.ops.take (k+1)).map Aj.O) 0=dU d [d.ops[k].O] (dU d ((d.ops.take k).map Aj.O) 0):=by rw[KX h1,mE]
   have a:¬dU d ((d.ops.take k).map Aj.O) 0<=40->dU d (d.ops.map Aj.O++d.ai.map Af.O) 0=dU d ((d.ops.take k).map Aj.O) 0:=λh=>by rw[mE, <-take_append_drop k d.ops,map_append,take_append_drop,mE,wO d h,wO d h]
   rw[dU,dU]at ht;generalize dU d ((d.ops.take k).map Aj.O) 0=n at *
   by_cases b:n<=40
   ·have e1:decide ((n:Int)<=40)=true:=decide_eq_true om;rw[if_pos b]at ht;refine .go ?_;exact nz trivial (hs:=⟨rfl,congrArg (AV.int .i64) W7,rfl,trivial⟩)
   ·have e1:decide ((n:Int)<=40)=false:=decide_eq_false om;rw[a b,decide_eq_false b];refine .go ?_;refine lZ ([]:List Af) Af.C (λ_=>true) (λj=>[(7, .int .i64 j),(5, .int .i64 n),(3, .ab d.C)]) (λj h _ _ _ _=>absurd h Wa) (λ_ _=> ?_);exact .wc
  ·rw[take_length,mE];generalize dU d (d.ops.map Aj.O) 0=n0 at *
   refine .go ?_;refine fB d.ai Af.C (λk=>[(7, .int .i64 k),(5, .int .i64 (dU d ((d.ai.take k).map Af.O) n0)),(3, .ab d.C)]) (λ_=>_) (λ_=>True) trivial (λk h1 g x1 _=> ?_) (λf _=> ?_)
   ·obtain⟨l,o⟩:=Ve e (C0 e (getElem_mem h1));have ht:dU d ((d.ai.take (k+1)).map Af.O) n0=dU d [d.ai[k].O] (dU d ((d.ai.take k).map Af.O) n0):=by rw[KX h1,mE]
    have a:¬dU d ((d.ai.take k).map Af.O) n0<=40->dU d (d.ai.map Af.O) n0=dU d ((d.ai.take k).map Af.O) n0:=λh=>by rw[<-take_append_drop k d.ai,map_append,take_append_drop,mE,wO d h]
    rw[dU,dU]at ht;generalize dU d ((d.ai.take k).map Af.O) n0=n at *
    by_cases b:n<=40
    ·have e1:decide ((n:Int)<=40)=true:=decide_eq_true om;rw[if_pos b]at ht;refine .go ?_;exact nz trivial (hs:=⟨rfl,congrArg (AV.int .i64) W7,rfl,trivial⟩)
    ·have e1:decide ((n:Int)<=40)=false:=decide_eq_false om;rw[a b,decide_eq_false b];exact .wc
   ·rw[take_length];have i:∀m:Nat,decide ((m:Int)<=40)=decide (m<=40):=λm=>by rw[decide_eq_decide];omega
    refine .go ?_;exact aP rfl (AC.eq (congrArg AV.bool (i _)))
def K2{s:AI}{d:AR}(h:sB s d=true):CM d:=by
 unfold sB at h;simp only[and_eq_true,decide_eq_true_eq]at h;have:=EJ d _ 0 h.2.2;refine⟨λo c=> ?_,λf hf=> ?_⟩
 ·obtain⟨m,a,b⟩:=this o.O (by simp only[mem_append,List.mem_map];exact .inl ⟨o,c,rfl⟩);exact⟨m,a,om⟩
 ·obtain⟨m,a,b⟩:=this f.O (by simp only[mem_append,List.mem_map];exact .inr ⟨f,hf,rfl⟩);exact⟨m,a,om⟩
def aAK(n:AF):AN prog 163 [.str n] (.bool (uK n)):=by
 refine pEn 2 func163 ?_;repeat' first|refine .s1 ?_|(refine .q ?_ ?_<;>intro O)|fail
 all_goals refine aP rfl (AC.eq ?_)
 all_goals simp_all[uK,uZ,vA,SI,lD]
def aDh(n:Int):AN prog 170 [.int .i64 n] (zO n).C:=by refine pER [.cell 2 43] func170 (O:=AH.K _) ?_;refine .go ?_;exact aI rfl cE
def RT(n:AF):AN prog 167 [.str n] (jJ n).C:=by refine pER [.cell 2 43] func167 (O:=AH.K _) ?_;refine .go ?_;exact aI rfl cE
def MK(n:Int):AN prog 169 [.int .i64 n] (.bool (jE n)):=by
 refine pEn 2 func169 ?_;repeat' first|refine .s1 ?_|(refine .q ?_ ?_<;>intro O)|fail
 all_goals refine aP rfl (AC.eq ?_)
 all_goals first|(simp_all[jE];done)|(simp_all[jE];omega)
def Uc(name:AF)(l:List AG)(hl:l.length<=9223372036854775807):AN prog 42 [.str name, .slice (l.map AG.C) .no] (.tup [(bR name l).1.C, .bool (bR name l).2]):=by
 refine pER [.cell 4 43, .tmp 5] func42 ?_;refine .go ?_;refine AB.loop (λn s H=>∃k:Nat,n=l.length-k/\k<=l.length/\bR name l=bR name (l.drop k)/\H=⟨[.cells fI],[]⟩/\
  s=[(6, .int .i64 k),(1, .slice (l.map AG.C) .no),(0, .str name),(4, .ptr 0 0)])
  (s0:=[(6, .int .i64 (0:Nat)),(1, .slice (l.map AG.C) .no),(0, .str name),(4, .ptr 0 0)])
  Z0 ⟨0,rfl,zero_le _,rfl,rfl,rfl⟩ ?_
 rintro n s H ⟨k,rfl,hk,hp,rfl,rfl⟩;by_cases h1:k<l.length
 ·have a:=ltT h1;have x1:=aU (f:=AG.C) h1
  repeat' first|refine .s1 ?_|(refine .q ?_ ?_<;>intro O)|fail
  ·refine aI rfl (AC.eq ?_);rw[hp,pK h1,if_pos O];rfl
  ·refine⟨l.length-(k+1),om,[(6, .int .i64 ((k+1:Nat):Int)),(1, .slice (l.map AG.C) .no),(0, .str name),(4, .ptr 0 0)],
    Z0,by simp[aM,AV.aa,dE],rfl,k+1,rfl,om,XX,rfl,rfl⟩
 ·have a:=ltF h1;refine .go ?_;refine aI rfl ?_;rw[hp,List.drop_eq_nil_of_le om,bR];exact AC.tup (AA.cons cE (aD _))
def aCO(r:Row)(name:AF)(hl:r.aq.length<=9223372036854775807):AN prog 99 [r.C, .str name] (iG r name).C:=by
 refine pER [.cell 4 43] func99 (O:=AH.K _) (ha:=by simp[aB,AV.K,Row.K]) ?_;have a:=Uc name r.aq hl;repeat' first|refine dB ?_|refine .s1 ?_|(refine .q ?_ ?_<;>intro O)|refine aH a ?_|fail
 exact aO
def ML(l:List AY)(name:AF)(hl:l.length<=9223372036854775807):AN prog 242 [Tbls.C l, .str name] (.int .i64 (bE (λt:AY=>t.name==name) l 0)):=by
 refine pEn 4 func242 (ha:=by simp[aB,AV.K,Tbls.K]) ?_;refine .go ?_;refine AB.loop (λn s H=>∃k:Nat,n=l.length-k/\k<=l.length/\bE (λt:AY=>t.name==name) l 0=bE (λt:AY=>t.name==name) (l.drop k) k/\H=⟨[],[]⟩/\
  s=[(5, .int .i64 k),(0,Tbls.C l),(1, .str name)])
  (s0:=[(5, .int .i64 (0:Nat)),(0,Tbls.C l),(1, .str name)])
  Z0 ⟨0,rfl,zero_le _,rfl,rfl,rfl⟩ ?_
 rintro n s H ⟨k,rfl,hk,hp,rfl,rfl⟩;by_cases h1:k<l.length
 ·have a:=ltT h1;have x1:=aU (f:=AY.C) h1
  repeat' first|refine .s1 ?_|(refine .q ?_ ?_<;>intro O)|fail
  ·refine aP rfl (AC.eq ?_);rw[hp,cP h1,if_pos O]
  ·refine⟨l.length-(k+1),om,[(5, .int .i64 ((k+1:Nat):Int)),(0,Tbls.C l),(1, .str name)],
    Z0,Xc,rfl,k+1,rfl,om,Xt,rfl,rfl⟩
 ·have a:=ltF h1;refine .go ?_;refine aP rfl (AC.eq ?_);rw[hp,List.drop_eq_nil_of_le om,bE]
def aAL(l:List Row)(name:AF)(hl:l.length<=9223372036854775807):AN prog 243 [.slice (l.map Row.C) .no, .str name] (.int .i64 (bE (λr:Row=>r.key==name) l 0)):=by
 refine pEn 4 func243 (ha:=by simp[aB,AV.K,mQ]) ?_;refine .go ?_;refine AB.loop (λn s H=>∃k:Nat,n=l.length-k/\k<=l.length/\bE (λr:Row=>r.key==name) l 0=bE (λr:Row=>r.key==name) (l.drop k) k/\H=⟨[],[]⟩/\
  s=[(5, .int .i64 k),(0, .slice (l.map Row.C) .no),(1, .str name)])
  (s0:=[(5, .int .i64 (0:Nat)),(0, .slice (l.map Row.C) .no),(1, .str name)])
  Z0 ⟨0,rfl,zero_le _,rfl,rfl,rfl⟩ ?_
 rintro n s H ⟨k,rfl,hk,hp,rfl,rfl⟩;by_cases h1:k<l.length
 ·have a:=ltT h1;have x1:=aU (f:=Row.C) h1
  repeat' first|refine .s1 ?_|(refine .q ?_ ?_<;>intro O)|fail
  ·refine aP rfl (AC.eq ?_);rw[hp,cP h1,if_pos O]
  ·refine⟨l.length-(k+1),om,[(5, .int .i64 ((k+1:Nat):Int)),(0, .slice (l.map Row.C) .no),(1, .str name)],
    Z0,by simp[aM,AV.aa,gL],rfl,k+1,rfl,om,Xt,rfl,rfl⟩
 ·have a:=ltF h1;refine .go ?_;refine aP rfl (AC.eq ?_);rw[hp,List.drop_eq_nil_of_le om,bE]
def Vf(l:List AY)(n:Aa)(hl:l.length<=9223372036854775807)(hr:∀t∈l,t.af.length<=9223372036854775807):
  AN prog 164 [Tbls.C l,n.C] (cN l n).C:=by
 refine pER [.cell 4 101] func164 (O:=Bt.K _) (ha:=by simp[aB,Tbls.K,Aa.K]) ?_;have hp:=ML l n.table hl;rcases eV (λt:AY=>t.name==n.table) l 0 with⟨h1,h2⟩|⟨i,X,h1,h2⟩
 ·rw[h1]at hp;repeat' first|refine dB ?_|refine .s1 ?_|(refine .q ?_ ?_<;>intro O)|refine aH hp ?_|fail
  refine aI rfl ?_;have e:cN l n=qX:=by rw[cN,h2]
  rw[e];exact oH (r:=qW) rfl
 ·rw[h1]at hp;simp only[zero_add]at hp;have a:=aAL l[i].af n.key (hr _ (getElem_mem X));have x1:=aU (f:=AY.C) X;rcases eV (λr:Row=>r.key==n.key) l[i].af 0 with⟨h3,h4⟩|⟨k,hk,h3,h4⟩
  ·rw[h3]at a;repeat' first|refine dB ?_|refine .s1 ?_|(refine .q ?_ ?_<;>intro O)|refine aH hp ?_|refine aH a ?_|fail
   refine aI rfl ?_;have e:cN l n=qX:=by rw[cN,h2];simp only[h4]
   rw[e];exact oH (r:=qW) rfl
  ·rw[h3]at a;simp only[zero_add]at a;have b:=aU (f:=Row.C) hk;repeat' first|refine dB ?_|refine .s1 ?_|(refine .q ?_ ?_<;>intro O)|refine aH hp ?_|refine aH a ?_|fail
   all_goals refine aI rfl ?_
   ·have e:cN l n=⟨qW,false,10⟩:=by rw[cN,h2];simp only[h4,EQ];rw[if_pos O]
    rw[e];exact oH (r:=qW) rfl
   ·have e:cN l n=⟨l[i].af[k],true,0⟩:=by rw[cN,h2];simp only[h4,EQ];rw[if_neg W8]
    rw[e];exact oH rfl
theorem Il{α:Type}{p:α->Bool}{l:List α}{k:Nat}(h:k<l.length):qI p (l.drop k)=if p l[k] then some 0 else (qI p (l.drop (k+1))).map (· +1):=by rw[List.drop_eq_getElem_cons h,qI]
def aAM(l:List AG)(m:AG)(hl:l.length<=1048576):AN prog 165 [.slice (l.map AG.C) .no,m.C] (.slice ((oV l m.name m.v).map AG.C) .no):=by
 refine jI (by simp[AV.K,aT]) (by simp[aB,AV.K,aT,AG.K]) (cK [4] func165 ?_);have a:(l.map AG.C).length=l.length:=Wa
 repeat' first|refine dB ?_|refine .s1 ?_|(refine .q ?_ ?_<;>intro O)|refine dH (m:=l.length) (zX l) a ?_|fail
 change AB _ _ _ _ _ _ _;refine AB.loop (λn s H=>∃k:Nat,n=l.length-k/\k<=l.length/\qI (λx:AG=>x.name==m.name) l=(qI (λx:AG=>x.name==m.name) (l.drop k)).map (· +k)/\H=⟨[],[.Y (l.map AG.C)]⟩/\
  s=[(6, .int .i64 k),(5, .Y 0 6 l.length 0 l.length),(3, .ab m.C)])
  (s0:=[(6, .int .i64 (0:Nat)),(5, .Y 0 6 l.length 0 l.length),(3, .ab m.C)])
  Z0 ⟨0,rfl,zero_le _,Wa,rfl,rfl⟩ ?_
 rintro n s H ⟨k,rfl,hk,hp,rfl,rfl⟩;by_cases h1:k<l.length
 ·have b:decide ((k:Int)<((l.length-0:Nat):Int))=true:=by simp[h1]
  have x1:=aU (f:=AG.C) h1
  repeat' first|refine .s1 ?_|(refine .q ?_ ?_<;>intro O)|refine fM ?_|refine j8 ?_|refine fF ?_|refine jH ?_|refine aX (agg:=true) (hn:=a) (he:=x1) ?_|fail
  ·refine⟨_,_,rfl,(b6 rfl Wa rfl).trans (AJ.a6 (AC.no (AA.eq ?_)))⟩;have e:oV l m.name m.v=l.set k (.mk l[k].name m.v):=by unfold oV;rw[hp,Il h1,if_pos O];simp only[Option.map_some,zero_add];exact sL h1 _
   rw[e,List.drop_zero,List.take_of_length_le Wa,List.map_set];rfl
  ·refine⟨l.length-(k+1),om,[(6, .int .i64 ((k+1:Nat):Int)),(5, .Y 0 6 l.length 0 l.length),(3, .ab m.C)],
    Z0,by simp[aM,AV.aa,AG.C,aE,mK,mL],by simp[aQ,aL,Tok.aa,dE],k+1,rfl,om, ?_,rfl,rfl⟩
   rw[hp,Il h1,if_neg W8,Option.map_map]
   congr 1
   funext x
   simp;omega
 ·have b:decide ((k:Int)<((l.length-0:Nat):Int))=false:=by simp;omega
  repeat' first|refine .s1 ?_|(refine .q ?_ ?_<;>intro O)|refine fM ?_|refine j8 ?_|refine fF ?_|refine jH ?_|refine eI (m:=l.length+1) (hb':= by omega) a ?_|fail
  refine⟨_,_,rfl,(b6 rfl Wa rfl).trans (AJ.a6 (AC.no (AA.eq ?_)))⟩;have e:oV l m.name m.v=l++[.mk m.name m.v]:=by unfold oV;rw[hp,List.drop_eq_nil_of_le om,qI];rfl
  rw[e,List.drop_zero,List.take_of_length_le Wa,map_append];rfl
end Go.Proofs.YtdodieljpcfpcaaGreatDoor
namespace Go.Av
open Go
section
variable [AK]
variable {P:Program} [Lay P] {A:Array Oper} {G:Bool} {K:AX->AE->St->Prop} {C:List Oper} {I:List Ak} {s:AE} {H:St}
variable {d:Tmp} {R:TypeId} {D:String} {S:Array Edge}
theorem Gz:∀(ns:List Int) (b:ByteArray),ns.foldl (λr n=>r.push (UInt8.ofNat n.toNat)) b=⟨(b.data.toList++ns.map λn=>UInt8.ofNat n.toNat).toArray⟩
 |[],b=>by cases b;simp
 |n::ns,b=>by rw[List.foldl_cons,Gz ns];simp_all
def Jy{x y:Operand}{T U:TypeId}{k:IntKind}{m n r:Int}(Y:ev? s x=some (.int k m))(hy:ev? s y=some (.int k n))(hr:k.wrap (m+n)=r)(a:AD P A G K C (.pure::I) ((d, .int k r)::s) H):
  AD P A G K (⟨some d, .binOp .add T x y U,R,D,S,none⟩::C) I s H:=Ke (Y:=Y) (hy:=hy) (by rw[hr];exact a)
def Of{x:Operand}{T U:TypeId}{ns:List Int}{tk:Tk}{ys:List UInt8}{f tE tU:TI}(hT:ty? P T=some f)(hk:f.kind = .slice)(hE:ty? P f.elem=some tE)(u:tE.kind = .int .u8)(hU:ty? P U=some tU)(z:tU.kind = .string)
  (Y:ev? s x=some (.slice (ns.map (AV.int .u8)) tk)) (hy:ns.map (λn=>UInt8.ofNat n.toNat)=ys)
  (k:AD P A G K C (.pure::I) ((d, .str ys)::s) H):AD P A G K (⟨some d, .convert T U x,R,D,S,none⟩::C) I s H:=
 bT rfl (eZ λg w a ho=>by
  obtain⟨p,cap,sz,Vs,e,c1,c2,c3,af,c5,c6⟩:=op1 Y Wd ho
  obtain⟨_,dd,_,t1,t2,t3,t4,_⟩:=(eK hT).ex
  have hd:∃e,dd = .slice e:=Wi
  obtain⟨i,rfl⟩:=hd
  have y:i=f.elem:=t4
  subst y
  obtain⟨_,d2,_,_,e2,e3,_⟩:=(eK hE).ex
  have o:=Kb (e3.trans u)
  subst o
  obtain⟨_,d3,_,_,u2,u3,_⟩:=(eK hU).ex
  have t:=Ej (u3.trans z)
  subst t
  have l:Vs=ns.map (Value.int .u8):=by
   have a8:∀(c:List Int) (Us:List Value),AL g w (c.map (AV.int .u8)) Us->Us=c.map (Value.int .u8):=by
    intro c
    induction c with
    |nil=>intro Us h;exact h
    |cons m c E=>
     rintro Us ⟨v,r,rfl,h1,h2⟩
     rw[E r h2,show v = .int .u8 m from h1];rfl
   grind
  subst l
  refine⟨.string ⟨ys.toArray⟩, ?_,rfl⟩
  have b:(Go.Conv.bytesToString (.slice p (ns.map (Value.int .u8)).length cap)).run P w = .ok (.string ⟨ys.toArray⟩) w:=by
   cases p with
   |none=>
    have:=(c5 rfl).1
    have hn:ns=[]:=by simpa using this
    subst hn
    subst hy
    simp[Go.Conv.bytesToString];rfl
   |some q=>
    obtain⟨hs,hm⟩:=c6 q rfl
    have hl:(loadCells q (ns.map (Value.int .u8)).length).run P w = .ok (ns.map (Value.int .u8)).toArray w:=by
     refine run_loadCells_list w q (ns.map (Value.int .u8)) (λj v hj=> ?_)
     obtain⟨h1,h2⟩:=hm j v hj
     rw[List.getElem?_map]at hj
     obtain⟨n,hn,rfl⟩:=Option.map_eq_some_iff.1 hj
     have hz:sz=1:=by rw[<-h1];rfl
     obtain⟨_,h3,_⟩:=h2 0 (.int .u8 n) rfl
     have hq:q.spot=none:=hs.resolve_right (by intro e0;rw[List.map_eq_nil_iff]at e0;subst e0;simp at hn)
     rw[hz]at h3
     obtain⟨qb,qo,qs⟩:=q
     simp only at hq h3
     subst hq
     rw[show (⟨qb,qo,none⟩:Addr).add j=⟨qb,qo+j * 1+0,none⟩ by unfold Addr.add;split<;>simp_all]
     exact h3
    rw[run_bytesToString w q _ cap ns hl,Gz,hy]
    rfl
  have O:=run_convert_bytes_string (P:=P) w T U f.elem p (ns.map (Value.int .u8)).length cap t2 e2 u2
  rw[b,length_map]at O
  rw[length_map]at e
  simp[execOp,e,O,Result.andThen]) k
end
end Go.Av
namespace Go.Proofs.YtdodieljpcfpcaaGreatDoor
open Go Go.Av Go.Proofs.Tryz
attribute [local irreducible] AB AD AN AQ Av.AS AZ
def K3(a:Nat):UInt8:=UInt8.ofNat (48+a % 10)
def PH(n m:Int)(out:AF):Prop:=(if m=0 then [] else Lib.decDigits m.natAbs)++out=Lib.decDigits n.natAbs
def PI{n m:Int}{a:AF}(b:m≠0)(h:PH n m a):PH n (m.tdiv 10) (K3 m.natAbs::a):=by
 unfold PH at h ⊢;rw[if_neg b]at h;rw[<-h];have ht:(m.tdiv 10).natAbs=m.natAbs/10:=by rw[Int.natAbs_tdiv];rfl
 by_cases c:m.natAbs<10
 ·have h0:m.tdiv 10=0:=by have:(m.tdiv 10).natAbs=0:=W7;omega
  rw[if_pos h0,Lib.decDigits_one c];unfold K3;grind
 ·have h0:m.tdiv 10≠0:=by have:(m.tdiv 10).natAbs≠0:=W7;omega
  rw[if_neg h0,ht];conv=>rhs;rw[Lib.decDigits,dif_neg c]
  rw[List.append_assoc];rfl
def RU(m:Int):(if m.tmod 10<0 then 0-m.tmod 10 else m.tmod 10)=(m.natAbs % 10:Nat):=WN
def RV(n:Int)(h0 : -9223372036854775808<=n)(h1:n<=9223372036854775807):AN prog 288 [.int .i64 n] (.str (Lib.itoa n)):=by
 refine pEn 2 func288 ?_;by_cases e:n=0
 ·subst e;refine .go ?_;refine aP rfl (AC.eq (congrArg AV.str ?_));show _=Lib.itoa ((0:Nat):Int);rw[Lib.itoa_nonneg,Lib.decDigits_one Wc];rfl
 ·have r:=beF e;refine .go ?_;refine AB.loop (λz s H=>∃(m:Int) (a:AF),z=m.natAbs/\m.natAbs<=n.natAbs/\PH n m a/\H=⟨[],[]⟩/\s=[(0, .int .i64 n),(3, .str a),(4, .int .i64 m)])
   (s0:=[(0, .int .i64 n),(3, .str []),(4, .int .i64 n)]) Z0 ⟨n,[],rfl,le_refl _,by unfold PH;rw[if_neg e,List.append_nil],rfl,rfl⟩ ?_
  rintro z s H ⟨m,a,rfl,hm,hj,rfl,rfl⟩;have ht:(m.tdiv 10).natAbs=m.natAbs/10:=by rw[Int.natAbs_tdiv];rfl
  have b:=RU m;have l:a.length<=20:=by
   have h3:a.length<=(Lib.decDigits n.natAbs).length:=by rw[<-hj,List.length_append];omega
   rw[Lib.decDigits_length]at h3;exact le_trans h3 (Lib.nDigits_le20 _ om)
  by_cases f:m=0
  ·subst f;have g:a=Lib.decDigits n.natAbs:=by unfold PH at hj;rwa [if_pos rfl,List.nil_append]at hj
   by_cases d:n<0
   ·have o:decide (n<0)=true:=decide_eq_true d;repeat' first|refine .s1 ?_|(refine .q ?_ ?_<;>intro O)|refine QE rfl rfl Xo ?_|fail
    refine aP rfl (AC.eq (congrArg AV.str ?_));unfold Lib.itoa;rw[if_pos d,g];rfl
   ·have o:decide (n<0)=false:=decide_eq_false d;refine .go ?_;refine aP rfl (AC.eq (congrArg AV.str ?_));unfold Lib.itoa;rw[if_neg d,g,show n.natAbs=n.toNat by omega]
  ·have t:=bnT f;have h:=PI f hj;have k:IntKind.i64.wrap (m.tdiv 10)=m.tdiv 10:=IntWalk.i64_in _ om;have j:IntKind.u8.wrap ((48+m.natAbs % 10:Nat):Int)=((48+m.natAbs % 10:Nat):Int):=by show ((48+m.natAbs % 10:Nat):Int) % 256=_;omega
   by_cases c:m.tmod 10<0
   ·have i:decide (m.tmod 10<0)=true:=decide_eq_true c;rw[if_pos c]at b;have p:IntKind.i64.wrap (0-m.tmod 10)=((m.natAbs % 10:Nat):Int):=by rw[b];exact IntWalk.i64_in _ om
    repeat' first|refine Jy rfl rfl wa ?_|refine .s1 ?_|(refine .q ?_ ?_<;>intro O)|refine Ka rfl rfl Wc rfl ?_|refine Vb rfl p ?_|refine Jy rfl rfl wa ?_|refine gE rfl rfl rfl rfl j ?_|refine Of (ns:=[((48+m.natAbs % 10:Nat):Int)]) rfl rfl rfl rfl rfl rfl rfl (show _=[K3 m.natAbs] from rfl) ?_|refine QE rfl rfl Xo ?_|refine ND rfl rfl Wc k ?_|fail
    exact⟨(m.tdiv 10).natAbs,om,[(0, .int .i64 n),(3, .str (K3 m.natAbs::a)),(4, .int .i64 (m.tdiv 10))],Z0,rfl,rfl,m.tdiv 10,K3 m.natAbs::a,rfl,om,h,rfl,rfl⟩
   ·have i:decide (m.tmod 10<0)=false:=decide_eq_false c;rw[if_neg c]at b;rw[b]at i;repeat' first|refine Jy rfl rfl wa ?_|refine .s1 ?_|(refine .q ?_ ?_<;>intro O)|refine Ka rfl rfl Wc b ?_|refine Jy rfl rfl wa ?_|refine gE rfl rfl rfl rfl j ?_|refine Of (ns:=[((48+m.natAbs % 10:Nat):Int)]) rfl rfl rfl rfl rfl rfl rfl (show _=[K3 m.natAbs] from rfl) ?_|refine QE rfl rfl Xo ?_|refine ND rfl rfl Wc k ?_|fail
    exact⟨(m.tdiv 10).natAbs,om,[(0, .int .i64 n),(3, .str (K3 m.natAbs::a)),(4, .int .i64 (m.tdiv 10))],Z0,rfl,rfl,m.tdiv 10,K3 m.natAbs::a,rfl,om,h,rfl,rfl⟩
def MM(n:AF):((n==[73,110,116])=true/\(n==[83,116,114,105,110,103])=false/\(n==[66,111,111,108,101,97,110])=false/\(n==[73,68])=false/\n=C8)\/
  ((n==[73,110,116])=false/\(n==[83,116,114,105,110,103])=true/\(n==[66,111,111,108,101,97,110])=false/\(n==[73,68])=false/\n=cW)\/
  ((n==[73,110,116])=false/\(n==[83,116,114,105,110,103])=false/\(n==[66,111,111,108,101,97,110])=true/\(n==[73,68])=false/\n=iB)\/
  ((n==[73,110,116])=false/\(n==[83,116,114,105,110,103])=false/\(n==[66,111,111,108,101,97,110])=false/\(n==[73,68])=true/\n=sID)\/
  ((n==[73,110,116])=false/\(n==[83,116,114,105,110,103])=false/\(n==[66,111,111,108,101,97,110])=false/\(n==[73,68])=false/\n≠C8/\n≠cW/\n≠iB/\n≠sID):=by
 by_cases h1:n=C8
 ·subst h1;exact .inl ⟨rfl,rfl,rfl,rfl,rfl⟩
 by_cases h2:n=cW
 ·subst h2;exact .inr (.inl ⟨rfl,rfl,rfl,rfl,rfl⟩)
 by_cases h3:n=iB
 ·subst h3;exact .inr (.inr (.inl ⟨rfl,rfl,rfl,rfl,rfl⟩))
 by_cases h4:n=sID
 ·subst h4;exact .inr (.inr (.inr (.inl ⟨rfl,rfl,rfl,rfl,rfl⟩)))
 exact .inr (.inr (.inr (.inr ⟨by simpa [C8]using h1,by simpa [cW]using h2,by simpa [iB]using h3,by simpa [sID]using h4,h1,h2,h3,h4⟩)))
def MN(k:Int):((k==2)=true/\(k==1)=false/\(k==4)=false/\k=2)\/((k==2)=false/\(k==1)=true/\(k==4)=false/\k=1)\/((k==2)=false/\(k==1)=false/\(k==4)=true/\k=4)\/((k==2)=false/\(k==1)=false/\(k==4)=false/\k≠2/\k≠1/\k≠4):=by
 by_cases h2:k=2
 ·subst h2;exact .inl ⟨rfl,rfl,rfl,rfl⟩
 by_cases h1:k=1
 ·subst h1;exact .inr (.inl ⟨rfl,rfl,rfl,rfl⟩)
 by_cases h4:k=4
 ·subst h4;exact .inr (.inr (.inl ⟨rfl,rfl,rfl,rfl⟩))
 exact .inr (.inr (.inr ⟨by simp[h2],Xg,by simp[h4],h2,h1,h4⟩))
theorem RW(name:AF)(v:AH):oU name v=(if ((name==[73,110,116])&&((v.kind==2)&&(decide (v.n < -2147483648)||decide (2147483647<v.n))))=true then (bO,8)
  else if ((name==[73,68])&&(v.kind==2))=true then (jJ (Lib.itoa v.n),0)
  else if (((name==[73,110,116])&&(v.kind==2))||(((name==[66,111,111,108,101,97,110])&&(v.kind==1))||(((name==[83,116,114,105,110,103])||(name==[73,68]))&&(v.kind==4))))=true then (v,0) else (bO,7)):=by unfold oU;simp only[and_eq_true,or_eq_true,beq_iff_eq,decide_eq_true_eq];rfl
def PJ(name:AF)(v:AH)(h0 : -9223372036854775808<=v.n)(h1:v.n<=9223372036854775807):AN prog 236 [.str name,v.C] (VE.C (oU name v)):=by
 have X:=RV v.n h0 h1;have ht:=RT (Lib.itoa v.n);refine pER [.cell 4 43, .tmp 5] func236 (O:=VE.K _) ?_;rw[RW];rcases MM name with⟨c,d,a,b,_⟩|⟨c,d,a,b,_⟩|⟨c,d,a,b,_⟩|⟨c,d,a,b,_⟩|⟨c,d,a,b,_⟩<;>rcases MN v.kind with⟨g,f,h,_⟩|⟨g,f,h,_⟩|⟨g,f,h,_⟩|⟨g,f,h,_⟩<;>rw[c,d,a,b,g,f,h]
 ·by_cases hr:v.n < -2147483648
  ·have i:=decide_eq_true hr;rw[i];refine .ac ?_;exact aI rfl bP
  ·have i:=decide_eq_false hr;by_cases e:2147483647<v.n
   ·have j:=decide_eq_true e;rw[i,j];refine .ac ?_;exact aI rfl bP
   ·have j:=decide_eq_false e;rw[i,j];refine .ac ?_;exact aO
 all_goals
  refine .ac ?_
  first|exact aI rfl bP|exact aO
def aAN(name:AF)(m A:List AG)(a:Bool)(y:AH)(hy:oF m name=some y)(f:m.length<=68719476736)(he:A.length<=68719476736):AN prog 289 [.str name, .slice (m.map AG.C) .no, .bool a, .slice (A.map AG.C) .no] (.bool (!fX a A y)):=by
 have d:=wI name m om;rw[kH,hy]at d;have b:=wI y.s A om;rw[kH]at b;refine pEn 8 func289 ?_;unfold fX;cases c:oF A y.s with
 |none=>
  rw[c]at b;cases a<;>cases e:(y.kind==8)
  all_goals
   refine .go ?_;exact bW
 |some z=>
  rw[c]at b;cases a<;>cases e:(y.kind==8)
  all_goals
   refine .go ?_;exact bW
def Jz(r:R3):R3:=(r.1,r.2.1&&decide (r.2.2=0),r.2.2)
theorem C4(b:AH)(a:Int):M3.C (Jz (b,true,a)) = .tup [b.C, .bool (a==0), .int .i64 a]:=by
 unfold M3.C Jz;have c:(a==0)=decide (a=0):=YN
 simp only[Bool.true_and,c]
def MO(s:AI)(a within hb:Bool)(A g:List AG)(dfl D:AO->VE)(p:AO)(he:A.length<=68719476736)(a7:g.length<=68719476736)(hp:p.t.name.length<=68719476736)(o:hb=(p.has&&(!within||eC s p.t.name)))
  (hL:a=true->∀x∈g,AN prog 93 [s.C,p.t.C,x.v.C, .slice (A.map AG.C) .no] (VE.C (qC s a A dfl p.t x.v)))
  (hI:a=false->∀x∈g,AN prog 94 [s.C,p.t.C,x.v.C] (VE.C (qC s a A dfl p.t x.v)))
  (hD:p.has=true->(within=false\/eC s p.t.name=true)->AN prog 93 [s.C,p.t.C,p.d.C, .slice [] .no] (VE.C (D p))):
  AN prog 43 [s.C,p.t.C,(bR p.name g).1.C, .bool (bR p.name g).2, .bool hb,p.d.C, .bool a, .slice (A.map AG.C) .no] (M3.C (Jz (oY s a within A D (mkM s a A dfl g) p))):=by
 have X:=rIs p.t om;have a1:aB [s.C,p.t.C,(bR p.name g).1.C, .bool (bR p.name g).2, .bool hb,p.d.C, .bool a, .slice (A.map AG.C) .no]=true:=by simp[AV.K,aB,AI.K,Ae.K,AH.K,aT]
 have n:hb=true->p.has=true/\(within=false\/eC s p.t.name=true):=λh=>by rw[o]at h;simp only[and_eq_true,or_eq_true,Bool.not_eq_true']at h;exact h
 have l:hb=false->¬(p.has=true/\(within=false\/eC s p.t.name=true)):=λh h2=>by
  have:(p.has&&(!within||eC s p.t.name))=true:=by simp only[and_eq_true,or_eq_true,Bool.not_eq_true'];exact h2
  rw[<-o,h]at this;cases this
 refine AQ.plain (M3.K _) a1 (wA [.cell 16 43, .tmp 17, .tmp 18] func43 ?_);rw[kH];have i:∀ {K:Prop},True:=λ{K}=>trivial
 cases u:oF g p.name with
 |none=>
  rw[Hh u];unfold LN;cases b:hb with
  |true=>
   obtain⟨j,k⟩:=n b;rw[if_pos ⟨j,k⟩];have c:=hD j k;generalize D p=r at c;obtain⟨z,w⟩:=r;unfold VE.C at c;simp only at c;rw[C4]
   repeat' first|refine .br ?_|refine .s1 ?_|(refine .q ?_ ?_<;>intro O)|refine aH (hw:=AA.cons (aG _) (AA.cons (aG _) (AA.cons (aG _) (AA.cons (AC.no (aD _)) (aD _))))) c ?_|fail
   exact aO
  |false=>
   rw[if_neg (l b)];cases b4:isT p.t<;>rw[b4]at X
   all_goals
    refine .ac ?_;exact aI rfl yI
 |some x=>
  rw[Hi u];have Y:∃m∈g,m.v=x:=by unfold oF at u;rw[Option.map_eq_some_iff]at u;obtain⟨m,h1,h2⟩:=u;exact⟨m,List.mem_of_find?_eq_some h1,h2⟩
  obtain⟨m,hm,rfl⟩:=Y;have f:=wI m.v.s A om;rw[kH]at f;cases a with
  |false=>
   have ht:fX false A m.v=true:=by unfold fX;simp
   rw[if_pos ht];have ha:=hI rfl m hm;generalize qC s false A dfl p.t m.v=r at ha;obtain⟨z,w⟩:=r;unfold VE.C at ha;simp only at ha;rw[C4];refine .ac ?_;exact aO
  |true=>
   have ha:=hL rfl m hm;cases k8:(m.v.kind==8) with
   |false=>
    have ht:fX true A m.v=true:=by unfold fX;rw[k8];rfl
    rw[if_pos ht];generalize qC s true A dfl p.t m.v=r at ha;obtain⟨z,w⟩:=r;unfold VE.C at ha;simp only at ha;rw[C4];refine .ac ?_;exact aO
   |true=>
    cases e:oF A m.v.s with
    |some y=>
     have ht:fX true A m.v=true:=by unfold fX;rw[k8,e];rfl
     rw[if_pos ht];rw[e]at f;generalize qC s true A dfl p.t m.v=r at ha;obtain⟨z,w⟩:=r;unfold VE.C at ha;simp only at ha;rw[C4];refine .ac ?_;exact aO
    |none=>
     have ht:fX true A m.v=false:=by unfold fX;rw[k8,e];rfl
     rw[if_neg (by rw[ht];decide)];rw[e]at f;unfold LN;cases b:hb with
     |true=>
      obtain⟨j,k⟩:=n b;rw[if_pos ⟨j,k⟩];have c:=hD j k;generalize D p=r at c;obtain⟨z,w⟩:=r;unfold VE.C at c;simp only at c;rw[C4]
      repeat' first|refine .br ?_|refine .s1 ?_|(refine .q ?_ ?_<;>intro O)|refine aH (hw:=AA.cons (aG _) (AA.cons (aG _) (AA.cons (aG _) (AA.cons (AC.no (aD _)) (aD _))))) c ?_|fail
      exact aO
     |false=>
      rw[if_neg (l b)];cases b4:isT p.t<;>rw[b4]at X
      all_goals
       refine .ac ?_;exact aI rfl yI
end Go.Proofs.YtdodieljpcfpcaaGreatDoor
