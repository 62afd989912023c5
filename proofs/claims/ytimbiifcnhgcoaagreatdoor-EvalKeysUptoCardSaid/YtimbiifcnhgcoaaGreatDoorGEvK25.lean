/- Joined texts. -/
import Derived.Test.YtimbiifcnhgcoaaGreatDoorGEvK17
set_option maxRecDepth 100000
set_option maxHeartbeats 16000000
set_option linter.all false
open List (cons_append getElem_mem)
open Nat (strongRecOn zero_le)
open Bool (and_eq_true)
open Go Go.Av Go.Proofs.YtimbiifcnhgcoaaGreatDoor Go.Proofs.Tryz
variable{s' s0:AE}{e0:AV}{a:Array Oper}{args:Array Operand}{p:Array TypeId}{b:Bool}{fn:Func}{z0 n:Int}{cls ys:List AV}{T':List Tok}{i nT o k:Nat}{Y:St}{ti:TI}{tk:Tk}{T:TypeId}
namespace Go.Av
open Go
variable [AL]
mutual
theorem rL{g:Gh}{w:World}:∀(x:AV) (v:Value),Aa g w x v->x.ab g.bx.length g.tk.length=true
 | .undef,_,_=>rfl
 | .bool _,_,_=>rfl
 | .int _ _,_,_=>rfl
 | .str _,_,_=>rfl
 | .agg cs,_,⟨vs,_,h,_⟩=>m6 cs _ h
 | .tup cs,_,⟨vs,_,h⟩=>m6 cs _ h
 | .slice xs t,_,⟨a,cap,sz,Vs,_,_,_,h3,h4,_,_⟩=>by
  simp only[AV.ab,and_eq_true]
  refine⟨?_,m6 xs _ h4⟩
  cases t with
  |own k z=>obtain⟨_,r,h,_⟩:=h3;simpa using (List.getElem?_eq_some_iff.1 h).1
  |_=>rfl
 | .ptr i _,_,⟨b,h,_⟩=>by simpa [AV.ab]using (List.getElem?_eq_some_iff.1 h).1
 | .ac x,_,⟨b,o,V,_,_,h⟩=>rL x _ h
 | .nilp,_,_=>rfl
 | .praw _,_,_=>rfl
 | .fn _ c cs,_,⟨vs,ws,_,d,e⟩=>by simp only[AV.ab,m6 c _ d,m6 cs _ e];rfl
 | .nilfn,_,_=>rfl
 | .iface _ x,_,⟨u,_,h⟩=>rL x _ h
 | .nili,_,_=>rfl
 | .map i,_,⟨b,h,_⟩=>by simpa [AV.ab]using (List.getElem?_eq_some_iff.1 h).1
 | .nilmap,_,_=>rfl
 | .iter i,_,⟨b,h,_⟩=>by simpa [AV.ab]using (List.getElem?_eq_some_iff.1 h).1
 | .view xs _,_,⟨a,cap,sz,Vs,_,_,_,_,h4,_,_⟩=>m6 xs _ h4
 | .aa k _ _ _ _,_,⟨a,cap,_,_,_,_,_,_,r,h,_⟩=>by simpa [AV.ab]using (List.getElem?_eq_some_iff.1 h).1
 | .ao k _ _ _ _,_,⟨b,o,_,_,r,h,_⟩=>by simpa [AV.ab]using (List.getElem?_eq_some_iff.1 h).1
theorem m6{g:Gh}{w:World}:∀(cs:List AV) (vs:List Value),AM g w cs vs->aE g.bx.length g.tk.length cs=true
 |[],_,_=>rfl
 |c::cs,_,⟨v,C,_,a,b⟩=>by simp only[aE,rL c _ a,m6 cs _ b];rfl
end
def BA(N:Nat)(D:List Deferred)(s:AE)(H:St):Prop:=∃(g:Gh) (w:World) (a:Act),Inv g H w/\A3 g w s a.tmps/\a.tmps.size=N/\a.defers=D
def CL(e:AX)(s:AE)(H:St):AX->AE->St->Prop:=λe1 s1 σ1=>e1=e/\s1=s/\σ1=H
def EX(P:Program)(N:Nat)(D:List Deferred)(c:Code)(K:AX->AE->St->Prop)(s:AE)(H:St):Prop:=
 BA N D s H->∃e s' Y,K e s' Y/\AB P N D c (CL e s' Y) s H
def Ln(t:Nat):List Nat->Bool
 |[]=>false
 |u::l=>bif Nat.beq u t then true else Ln t l
def nub(seen:List Nat):AE->AE
 |[]=>[]
 |(t,v)::s=>bif Ln t seen then nub seen s else (t,v)::nub (t::seen) s
section
variable {P:Program} {N:Nat} {D:List Deferred} {c:Code} {K:AX->AE->St->Prop} {s:AE} {H:St}
theorem JN:∀(s:AE) (a:List Nat) (t:Nat) (v:AV),(t,v)∈nub a s->Ln t a=false/\lk s t=v
 |[],_,_,_,h=>by simp[nub]at h
 |(u,x)::s,a,t,v,h=>by
  unfold nub at h
  have f:(t,v)∈nub a s->Ln u a=true->Ln t a=false/\lk ((u,x)::s) t=v:=λh c=>by
   obtain⟨b,d⟩:=JN s a t v h
   refine⟨b, ?_⟩
   unfold lk
   cases e:Nat.beq u t with
   |false=>exact d
   |true=>have:=Nat.eq_of_beq_eq_true e;subst this;rw[b]at c;cases c
  cases c:Ln u a with
  |true=>rw[c]at h;exact f h c
  |false=>
   rw[c]at h
   simp only[cond_false,List.mem_cons,Prod.mk.injEq]at h
   rcases h with⟨rfl,rfl⟩|h
   ·exact⟨c,by simp[lk]⟩
   ·obtain⟨b,d⟩:=JN s (u::a) t v h
    unfold Ln at b
    cases e:Nat.beq u t with
    |true=>rw[e]at b;cases b
    |false=>rw[e]at b;exact⟨b,by unfold lk;rw[e];exact d⟩
def Sub.of:∀ {l s:AE},(∀t v,(t,v)∈l->lk s t=v)->Sub l s
 |[],_,_=>trivial
 |(t,v)::l,_,h=>⟨h t v Wb,Sub.of λt v a=>h t v Ww⟩
def JO(a:List Nat)(s:AE):Sub (nub a s) s:=Sub.of λt v h=>(JN s a t v h).2
theorem ID{n m:Nat}:∀ {l:AE},(∀t v,(t,v)∈l->v.ab n m=true)->aM n m l=true
 |[],_=>rfl
 |(t,v)::l,h=>by rw[aM,h t v Wb,ID λt v a=>h t v Ww];rfl
theorem IE{n m:Nat}:∀ {l:List Ob},(∀o∈l,o.ab n m=true)->aQ n m l=true
 |[],_=>rfl
 |o::l,h=>by rw[aQ,h o Wb,IE λo a=>h o Ww];rfl
theorem IF{n m:Nat}:∀ {l:List Tok},(∀o∈l,o.ab n m=true)->aL n m l=true
 |[],_=>rfl
 |o::l,h=>by rw[aL,h o Wb,IF λo a=>h o Ww];rfl
theorem Gj{g:Gh}{w:World}:∀(l:List (AV×AV)) (es:List MapEntry),As g w l es->oS g.bx.length g.tk.length l=true
 |[],_,_=>rfl
 |(k,v)::l,_,⟨e,C,_,a,b,h3⟩=>by simp only[oS,rL _ _ a,rL _ _ b,Gj l _ h3];rfl
theorem BA.bw(h:BA N D s H)(b:List Nat):aM H.B.length H.T.length (nub b s)=true:=by
 obtain⟨g,w,a,X,hs,_⟩:=h;refine ID λt v d=> ?_
 have c:=hs t;rw[(JN s b t v d).2]at c;have:=rL _ _ c
 rwa [X.lenB,X.lenT]at this
def BA.state(h:BA N D s H):(aQ H.B.length H.T.length H.B&&aL H.B.length H.T.length H.T)=true:=by
 obtain⟨g,w,a,X,hs,_⟩:=h;rw[and_eq_true];constructor
 ·refine IE λo f=> ?_
  obtain⟨i,e,rfl⟩:=List.getElem_of_mem f;have b:i<g.bx.length:=by rw[X.lenB];exact e
  have c:=X.ob i _ _ (List.getElem?_eq_getElem b) (List.getElem?_eq_getElem e);rw[<-X.lenB, <-X.lenT];generalize H.B[i]=o at c;cases o with
  |cells cs=>obtain⟨J,R,_,d,_⟩:=c;exact m6 _ _ d
  |map es=>obtain⟨j,cl,_,d⟩:=c;exact Gj _ _ d
  |iter s p=>rfl
 ·refine IF λo f=> ?_
  obtain⟨i,e,rfl⟩:=List.getElem_of_mem f;have b:i<g.tk.length:=by rw[X.lenT];exact e
  have c:=X.tok i _ _ (List.getElem?_eq_getElem b) (List.getElem?_eq_getElem e);rw[<-X.lenB, <-X.lenT];generalize H.T[i]=o at c;cases o with
  |len n=>rfl
  |aa xs=>obtain⟨_,_,_,Vs,d,_⟩:=c;exact m6 _ _ d
def BA.next{e:AX}(h:BA N D s H)(O:AB P N D c (CL e s' Y) s H):BA N D s' Y:=by obtain⟨g,w,a,X,hs,ha,k⟩:=h;obtain⟨e1,b,w', ⟨m,n,l,g', _,d,h3,_,f,i,j⟩,_⟩:=O g w a X hs ha k default [] [];obtain⟨_,rfl,rfl⟩:=j;exact⟨g', w', b,f,i,d,h3⟩
theorem BA.weaken(h:BA N D s' H)(hs:Sub s s'):BA N D s H:=
 let ⟨g,w,a,X,hr,ha,b⟩:=h
 ⟨g,w,a,X,hs.a6 hr,ha,b⟩
theorem EX.mono{K': AX->AE->St->Prop}(h:EX P N D c K s H)(hk:∀e s H,K e s H->K' e s H):EX P N D c K' s H:=λhr=>
 let ⟨e,s', Y,a,b⟩:=h hr
 ⟨e,s', Y,hk _ _ _ a,b⟩
def EX.of{e:AX}(h:AB P N D c (CL e s' Y) s H)(hk:K e s' Y):EX P N D c K s H:=λ_=>⟨e,s', Y,hk,h⟩
theorem EX.weaken(h:EX P N D c K s H)(hs:Sub s s'):EX P N D c K s' H:=λhr=>
 let ⟨e,f,a,b,d⟩:=h (hr.weaken hs)
 ⟨e,f,a,b,d.weaken hs⟩
def x7(h:BA N D s H->EX P N D c K s H):EX P N D c K s H:=λhr=>h hr hr
def EX.via{b:AE}{σ1:St}(h:∀(c:Code) (K:AX->AE->St->Prop),AB P N D c K b σ1->AB P N D c K s H)(k:EX P N D c K b σ1):EX P N D c K s H:=λhr=>by
 have j:AB P N D .skip (λ_ _ _=>BA N D b σ1) b σ1:=λg w a X hs ha d=>wp_skip ⟨.normal,b,σ1,g,rfl,ha,d,eV g w,X,hs,⟨g,w,a,X,hs,ha,d⟩⟩
 obtain⟨g,w,a,X,hs,ha,d⟩:=hr
 obtain⟨_,_,_,⟨_,_,_,_,_,_,_,_,_,_,f⟩,_⟩:=h _ _ j g w a X hs ha d default [] []
 obtain⟨e,m,i,l,h3⟩:=k f
 exact⟨e,m,i,l,h _ _ h3⟩
def EX.skip(h:K .normal s H):EX P N D .skip K s H := .of (AB.skip ⟨rfl,rfl,rfl⟩) h
def EX.exit{id:Nat}(h:K (.exit id) s H):EX P N D (.exit id) K s H := .of (AB.exit ⟨rfl,rfl,rfl⟩) h
theorem EX.ret(h:K .ret s H):EX P N D .ret K s H := .of (AB.ret ⟨rfl,rfl,rfl⟩) h
def EX.seq{x y:Code}(h:EX P N D x (thn (EX P N D y K) K) s H):EX P N D (.seq x y) K s H:=λhr=>by
 obtain⟨e,s', Y,hk,hx⟩:=h hr
 have g:∀ {K'},thn (AB P N D y K') K' e s' Y->AB P N D (.seq x y) K' s H:=λh=>AB.seq (hx.mono λe1 m l ⟨a,b,c⟩=>by subst a b c;exact h)
 cases e with
 |normal=>
  obtain⟨i,k,f,d,j⟩:=hk (hr.next hx)
  exact⟨i,k,f,d,g j⟩
 |_=>exact⟨_,s', Y,hk,g ⟨rfl,rfl,rfl⟩⟩
theorem EX.block{id:Nat}(h:EX P N D c (blk id K) s H):EX P N D (.block id c) K s H:=λhr=>by
 obtain⟨e,s', Y,hk,hx⟩:=h hr
 have d:∀ {K'},blk id K' e s' Y->AB P N D (.block id c) K' s H:=λh=>AB.block (hx.mono λe1 i g ⟨a,b,c⟩=>by subst a b c;exact h)
 cases e with
 |exit f=>
  simp only[blk]at hk d
  cases h:Nat.beq f id with
  |true=>rw[h]at hk d;exact⟨.normal,s', Y,hk,d ⟨rfl,rfl,rfl⟩⟩
  |false=>rw[h]at hk d;exact⟨.exit f,s', Y,hk,d ⟨rfl,rfl,rfl⟩⟩
 |_=>exact⟨_,s', Y,hk,d ⟨rfl,rfl,rfl⟩⟩
theorem EX.q{x:Operand}{y z:Code}(ht:b=true->EX P N D y K s H)(hf:b=false->EX P N D z K s H)(O:ev s x = .bool b:=by exact rfl):EX P N D (.cond x y z) K s H:=λhr=>by
 cases b with
 |true=>obtain⟨e,f,a,c,d⟩:=ht rfl hr;exact⟨e,f,a,c,pC O d⟩
 |false=>obtain⟨e,f,a,c,d⟩:=hf rfl hr;exact⟨e,f,a,c,oA O d⟩
def EX.ct{x:Operand}{y z:Code}(h:EX P N D y K s H)(O:ev s x = .bool true:=by exact rfl):EX P N D (.cond x y z) K s H := .q (λ_=>h) (λh=>W0) O
def EX.cf{x:Operand}{y z:Code}(h:EX P N D z K s H)(O:ev s x = .bool false:=by exact rfl):EX P N D (.cond x y z) K s H := .q (λh=>W0) (λ_=>h) O
def EX.cy{x:Operand}{y z:Code}(h:EX P N D y K s H)(O:ev s x = .bool b:=by exact rfl)(hb:b=true:=by assumption):EX P N D (.cond x y z) K s H := .q (λ_=>h) (λk=>by rw[hb]at k;cases k) O
def EX.cn{x:Operand}{y z:Code}(h:EX P N D z K s H)(O:ev s x = .bool b:=by exact rfl)(hb:b=false:=by assumption):EX P N D (.cond x y z) K s H := .q (λk=>by rw[hb]at k;cases k) (λ_=>h) O
def AD.out{A:Array Oper}{G:Bool}:∀(l:List Oper) (I:List Aj) (s:AE) (H:St),AD P A G K l I s H->∃e s' Y,K e s' Y/\AD P A G (CL e s' Y) l I s H
 |[],I,s,H,⟨b,c⟩=>⟨_,s,H,c,b,rfl,rfl,rfl⟩
 |o::l,I,s,H,h=>by
  rcases h with⟨b,t,v,a,c,h3⟩|⟨b,c⟩|⟨b,c,x,a,h3,h4⟩
  ·obtain⟨e,s', Y,d,f⟩:=AD.out l _ _ _ h3
   exact⟨e,s', Y,d, .inl ⟨b,t,v,a,c,f⟩⟩
  ·obtain⟨e,s', Y,d,f⟩:=AD.out l _ _ _ c
   exact⟨e,s', Y,d, .inr (.inl ⟨b,f⟩)⟩
  ·exact⟨_,s,a,h4, .inr (.inr ⟨b,c,x,a,h3,rfl,rfl,rfl⟩)⟩
def EX.rg{id:Nat}(h:AD P a false K a.toList [] s H)(d:Cf N a.toList=true:=by exact rfl):EX P N D (.region id a false) K s H:=
 let ⟨_,_,_,b,c⟩:=AD.out _ _ _ _ h
 .of (AB.region d c) b
def EX.rd[Lay P]{id:Nat}(h:AD P a true K a.toList [] s H)(b:P.follows .mixedOrders=true:=by exact Lay.c0)(e:Cf N a.toList=true:=by exact rfl):EX P N D (.region id a true) K s H:=
 let ⟨_,_,_,c,d⟩:=AD.out _ _ _ _ h
 .of (vJ b e d) c
inductive Ch (P:Program) (N:Nat) (D:List Deferred) (c:Code) (nB nT:Nat) (e:AX) (s': AE) (Y:St):Nat->AE->St->Prop where
 |done {n:Nat} {s:AE} {H:St}:AB P N D c (CL e s' Y) s H->e ≠ .normal->Ch P N D c nB nT e s' Y n s H
 |next {n m:Nat} {s s1 s2:AE} {H σ1:St}:AB P N D c (CL .normal s1 σ1) s H->m<n->Sub s2 s1->aM nB nT s2=true->(aQ nB nT (σ1.B.take nB)&&aL nB nT (σ1.T.take nT))=true->
   Ch P N D c nB nT e s' Y m s2 ⟨σ1.B.take nB,σ1.T.take nT⟩->Ch P N D c nB nT e s' Y n s H
theorem Ch.loop{nB:Nat}{e:AX}{n:Nat}(h:Ch P N D c nB nT e s' Y n s0 H)(hs:Sub s0 s)(k:H.B.length=nB)(hT:H.T.length=nT):AB P N D (.loop c) (CL e s' Y) s H:=by
 subst k hT;refine AB.loop (Ch P N D c H.B.length H.T.length e s' Y) hs h λn f d h=> ?_
 cases h with
 |done h he=>exact h.mono λe1 f d ⟨a,b,c⟩=>by subst a b c;cases e1<;>first|exact absurd rfl he|exact⟨rfl,rfl,rfl⟩
 |next h g i h3 h4 j=>exact h.mono λe1 f d ⟨a,b,c⟩=>by subst a b c;exact⟨_,g,_,i,h3,h4,j⟩
theorem EX.loop(I:Nat->AE->St->Prop){n:Nat}{s0:AE}(j:Sub s0 s)(h0:I n s0 H)
  (d:∀n b σ1,I n b σ1->EX P N D c (thn (λs' Y=>∃m,m<n/\∃k,Sub k s'/\ aM H.B.length H.T.length k=true/\(aQ H.B.length H.T.length (Y.B.take H.B.length)&&aL H.B.length H.T.length (Y.T.take H.T.length))=true/\
   I m k ⟨Y.B.take H.B.length,Y.T.take H.T.length⟩) K) b σ1):EX P N D (.loop c) K s H:=λhr=>by
 have u:∀n b σ1,I n b σ1->BA N D b σ1->∃e s' Y,K e s' Y/\Ch P N D c H.B.length H.T.length e s' Y n b σ1:=by
  intro n
  induction n using strongRecOn with
  |ind n E=>
   intro b σ1 hI i
   obtain⟨e,k,f,hk,O⟩:=d n b σ1 hI i
   cases e with
   |normal=>
    obtain⟨m,y,z,v,x,h3,h4⟩:=hk
    have p:BA N D z ⟨f.B.take H.B.length,f.T.take H.T.length⟩:=by
     obtain⟨g,w,a,i1,i2,i3,i4⟩:=i.next O
     obtain⟨l,o⟩:=(and_eq_true _ _).mp h3
     exact⟨_,w,a,pK i1 l o,λt=>Aa.ab _ _ (rM x t) (v.a6 i2 t),i3,i4⟩
    obtain⟨e,s', Y,q,r⟩:=E m y z _ h4 p
    exact⟨e,s', Y,q, .next O y v x h3 r⟩
   |_=>exact⟨_,k,f,hk, .done O (λh=>W0)⟩
 obtain⟨e,s', Y,q,r⟩:=u n s0 H h0 (hr.weaken j)
 exact⟨e,s', Y,q,r.loop j rfl rfl⟩
structure Nr(i:Nat)(s:AE)(H:St)(k:Nat)(s': AE)(Y:St):Prop where
 sub:Sub ((i, .int .i64 ((k+1:Nat):Int))::nub [i] s) s'
 same:(⟨Y.B.take H.B.length,Y.T.take H.T.length⟩:St)=H
def JP(i n:Nat){b:Nat}(cons:∀k:Nat,k<n->decide ((k:Int)<(n:Int))=true->EX P N D c (thn (Nr i s H k) K) ((i, .int .i64 k)::nub [i] s) H)
  (nil:∀k:Nat,n<=k->((k:Int)<=z0\/k<=n)->decide ((k:Int)<(n:Int))=false->EX P N D c (thn (λ_ _=>False) K) ((i, .int .i64 k)::nub [i] s) H) (X:lk? s i=some (.int .i64 z0):=by exact rfl) (d:z0=(b:Int):=by exact rfl):EX P N D (.loop c) K s H:=by
 subst d;refine x7 λhr=>EX.loop (λm g a=>∃k:Nat,m=n-k/\((k:Int)<=(b:Int)\/k<=n)/\g=(i, .int .i64 k)::nub [i] s/\a=H) (n:=n-b) (s0:=(i, .int .i64 (b:Int))::nub [i] s) ⟨gY X,JO _ _⟩ ⟨b,rfl, .inl (Int.le_refl _),rfl,rfl⟩ ?_
 rintro m g a ⟨k,rfl,hkm,rfl,rfl⟩;by_cases f:k<n
 ·refine(cons k f (by simp[f])).mono λe s' Y h=> ?_
  cases e with
  |normal=>
   refine⟨n-(k+1),om,_,h.sub, ?_, ?_,k+1,rfl,om,rfl,h.same⟩
   ·rw[aM,hr.bw];rfl
   ·rw[show List.take a.B.length Y.B=a.B from congrArg St.B h.same,show List.take a.T.length Y.T=a.T from congrArg St.T h.same];exact hr.state
  |_=>exact h
 ·refine(nil k om hkm Wl).mono λe s' Y h=> ?_
  cases e with
  |normal=>exact h.elim
  |_=>exact h
def M8(s:AE)(H:St)(b j:Nat):Option AV:=match lk? s b with
 |some (.slice xs t)=>some (.slice xs t)
 |some (.ac (.slice xs t))=>some (.slice xs t)
 |some (.ac (.agg cs))=>cs[j]?
 |some (.agg cs)=>cs[j]?
 |some (.ptr i off)=>(match H.B[i]? with
  |some (.cells cs)=>cs[off+j]?
  |_=>none)
 |_=>none
def Dg{g:Gh}{w:World}{xs:List AV}{t:Tk}{v:Value}(h:Aa g w (.slice xs t) v):xs.length<=9223372036854775807:=by obtain⟨a,cap,sz,Vs,_,d,b,_,h4,_,_⟩:=h;have:=h4.length;have c:cap<=9223372036854775807:=b;omega
def GM{b j:Nat}{x:AV}(hr:BA N D s H)(h:M8 s H b j=some x):∃g w v,Aa g w x v:=by
 obtain⟨g,w,a,X,hs,_⟩:=hr;have hb:=hs b;unfold M8 at h;split at h
 ·rename_i c;rw[gY c]at hb;cases h;exact⟨_,_,_,hb⟩
 ·rename_i c;rw[gY c]at hb;cases h;obtain⟨_,_,_,_,_,d⟩:=hb;exact⟨_,_,_,d⟩
 ·rename_i c;rw[gY c]at hb;obtain⟨_,_,_,_,_,vs,_,d,_⟩:=hb;obtain⟨_,_,h3⟩:=d.get h;exact⟨_,_,_,h3⟩
 ·rename_i c;rw[gY c]at hb;obtain⟨vs,_,d,_⟩:=hb;obtain⟨_,_,h3⟩:=d.get h;exact⟨_,_,_,h3⟩
 ·rename_i c;rw[gY c]at hb;obtain⟨f,e,_⟩:=hb;split at h
  ·rename_i d;obtain⟨J,R,_,h3,_⟩:=X.ob _ _ _ e d;obtain⟨_,_,h4⟩:=h3.get h;exact⟨_,_,_,h4⟩
  ·cases h
 ·cases h
def UD(j:Nat):AV->Option AV
 | .slice xs t=>some (.slice xs t)
 | .agg cs=>cs[j]?
 |_=>none
def OI{b j l:Nat}{xs d:List AV}{t t2:Tk}{y:AV}(hr:BA N D s H)(h:M8 s H b j=some (.slice xs t))(hx:xs[k]? =some y)(c:UD l y=some (.slice d t2)):d.length<=9223372036854775807:=by
 obtain⟨g,w,v,a,cap,sz,Vs,_,_,_,_,h4,_,_⟩:=GM hr h;obtain⟨_,_,e⟩:=h4.get hx;unfold UD at c;split at c
 ·cases c;exact Dg e
 ·obtain⟨vs,_,f,_⟩:=e;obtain⟨_,_,i⟩:=f.get c;exact Dg i
 ·cases c
class Az(xs:List AV){α:outParam Type}(L:outParam (List α))(E:outParam (α->AV)):Prop where
 eq:xs=L.map E
instance {α:Type}{L:List α}{E:α->AV}:Az (L.map E) L E:=⟨rfl⟩
inductive CP where
 |f (b j i:Nat)
 |g (b j j2 i:Nat)
 |u (q i:Nat)
 |no
inductive Root where
 |slot (b off:Nat)
 |elem (b j off:Nat)
 |no
def GN:Code->List Oper
 | .region _ ops _=>ops.toList
 | .seq a _=>GN a
 |_=>[]
def Lp:List Oper->Nat->Option Op
 |[],_=>none
 |o::l,t=>match o.dst with
  |some d=>bif Nat.beq d t then some o.op else Lp l t
  |none=>Lp l t
def Vy(P:Program)[Lay P](T f:Nat):Nat:=match ty? P T with
 |some ti=>(match ti.fields[f]? with
  |some (o,_,_)=>o
  |none=>0)
 |none=>0
def P4(P:Program)[Lay P](ops:List Oper):Nat->Nat->Nat->Root
 |0,_,_ => .no
 |n+1,t,off=>match Lp ops t with
  |none => .slot t off
  |some (.fieldAddr T (.tmp x) f)=>P4 P ops n x (off+Vy P T f)
  |some (.field T (.tmp x) f)=>P4 P ops n x (off+Vy P T f)
  |some (.load _ (.tmp x))=>P4 P ops n x off
  |some (.move (.tmp x))=>P4 P ops n x off
  |some (.indexAddr _ (.tmp x) _)=>(match P4 P ops n x 0 with
   | .slot b j => .elem b j off
   |_ => .no)
  |_ => .no
def VA:List Oper->Option (Nat×Nat)
 |[]=>none
 |o::l=>match o.op with
  | .binOp .lss _ (.tmp x) (.tmp y) _=>some (x,y)
  |_=>VA l
def EW(n:Nat)(k:Nat->CP):CP:=match n with
 |0=>k 0
 |m+1=>k (m+1)
def wW(P:Program)[Lay P](c:Code):CP:=match VA (GN c) with
 |none => .no
 |some (x,y)=>
  let i:=match Lp (GN c) x with
   |some (.move (.tmp i))=>i
   |_=>x
  EW i λi=>match Lp (GN c) y with
  |none=>EW y λy => .u y i
  |some (.move (.tmp q))=>EW q λq => .u q i
  |some (.call c')=>(match c'.args.toList with
   |[.tmp z]=>(match P4 P (GN c) 12 z 0 with
    | .slot b j=>EW b λb=>EW j λj => .f b j i
    | .elem b j j2=>EW b λb=>EW j λj=>EW j2 λj2 => .g b j j2 i
    | .no => .no)
   |_ => .no)
  |_ => .no
theorem EX.F[Lay P]{b j i m:Nat}{α:Type}{xs:List AV}{L:List α}{E:α->AV}(cons:∀(k:Nat) (h:k<L.length),decide ((k:Int)<(L.length:Int))=true->decide ((k:Int)<(xs.length:Int))=true->xs[k]? =some (E L[k])->L[k]∈L->L.length<=9223372036854775807->EX P N D c (thn (Nr i s H k) K) ((i, .int .i64 k)::nub [i] s) H)
  (nil:∀k:Nat,L.length<=k->((k:Int)<=z0\/k<=L.length)->decide ((k:Int)<(L.length:Int))=false->decide ((k:Int)<(xs.length:Int))=false->EX P N D c (thn (λ_ _=>False) K) ((i, .int .i64 k)::nub [i] s) H) (n:wW P c = .f b j i:=by exact rfl) (hb:M8 s H b j=some (.slice xs tk):=by exact rfl) (e:Az xs L E:=by infer_instance) (X:lk? s i=some (.int .i64 z0):=by exact rfl) (g:z0=(m:Int):=by exact rfl):EX P N D (.loop c) K s H:=by
 refine x7 λhr=> ?_
 obtain⟨_,_,_,h0⟩:=GM hr hb;have o:=Dg h0;have he:=e.eq;have d:xs.length=L.length:=Zn
 exact JP i L.length (λk a l=>cons k a l (by rw[d];exact l) (by rw[he];simp[a]) (getElem_mem a) om) (λk a e h=>nil k a e h (by rw[d];exact h)) X g
theorem EX.G[Lay P]{b j i q p:Nat}{α:Type}{xs a:List AV}{n:Tk}{y:AV}{L:List α}{E:α->AV}(cons:∀(k:Nat) (h:k<L.length),decide ((k:Int)<(L.length:Int))=true->decide ((k:Int)<(a.length:Int))=true->a[k]? =some (E L[k])->L[k]∈L->L.length<=9223372036854775807->EX P N D c (thn (Nr i s H k) K) ((i, .int .i64 k)::nub [i] s) H)
  (nil:∀k:Nat,L.length<=k->((k:Int)<=z0\/k<=L.length)->decide ((k:Int)<(L.length:Int))=false->decide ((k:Int)<(a.length:Int))=false->EX P N D c (thn (λ_ _=>False) K) ((i, .int .i64 k)::nub [i] s) H) (r:wW P c = .g b j o i:=by exact rfl) (hb:M8 s H b j=some (.slice xs tk):=by exact rfl) (hx:xs[q]? =some y:=by assumption) (f:UD o y=some (.slice a n):=by exact rfl) (l:Az a L E:=by infer_instance) (X:lk? s i=some (.int .i64 z0):=by exact rfl) (m:z0=(p:Int):=by exact rfl):EX P N D (.loop c) K s H:=by
 refine x7 λhr=> ?_
 have t:=OI hr hb hx f;have he:=l.eq;have e:a.length=L.length:=Zn
 exact JP i L.length (λk d f=>cons k d f (by rw[e];exact f) (by rw[he];simp[d]) (getElem_mem d) om) (λk d l h=>nil k d l h (by rw[e];exact h)) X m
def EX.U[Lay P]{q i n e:Nat}{a:Int}(cons:∀k:Nat,k<n->(k:Int)<a->decide ((k:Int)<(n:Int))=true->EX P N D c (thn (Nr i s H k) K) ((i, .int .i64 k)::nub [i] s) H)
  (nil:∀k:Nat,n<=k->a<=(k:Int)->((k:Int)<=z0\/k<=n)->decide ((k:Int)<(n:Int))=false->EX P N D c (thn (λ_ _=>False) K) ((i, .int .i64 k)::nub [i] s) H) (f:wW P c = .u q i:=by exact rfl) (g:lk? s q=some (.int .i64 a):=by exact rfl) (d:a=(n:Int):=by exact rfl) (X:lk? s i=some (.int .i64 z0):=by exact rfl) (b:z0=(e:Int):=by exact rfl):EX P N D (.loop c) K s H:=JP i n (λk h=>cons k h om) (λk h=>nil k h om) X b
end
class EC(P:Program)(f:FuncId)(args:List AV){α:outParam Type}(E:outParam (α->AV))(Q:outParam (α->Prop)):Prop where
 ex:∃a args', Q a/\AA args args'/\ AN P f args' (E a)
section
variable {P:Program} {A:Array Oper} {G:Bool} {K:AX->AE->St->Prop} {C:List Oper} {I:List Aj} {s:AE} {H:St} {d:Option Tmp} {R:TypeId} {D:String} {S:Array Edge}
def AD.ce{f:FuncId}{J:List AV}{α:Type}{E:α->AV}{Q:α->Prop}(k:∀a:α,Q a->AD P A G K C (.pure::I) (iG d (E a) s) H)(ha:jZ s args.toList some=some J:=by exact rfl)(h:EC P f J E Q:=by infer_instance):
  AD P A G K (⟨d, .call ⟨.value (.func f),args,p⟩,R,D,S,none⟩::C) I s H:=
 let ⟨a,_,b,c,h3⟩:=h.ex
 aH ha h3 c (k a b)
end
theorem EC.enter{P:Program}{f:FuncId}{args d:List AV}{c:Code}{N:Nat}{α:Type}{E:α->AV}{Q:α->Prop}(ts:List Nat)(hf:P.funcs[f]? =some fn)(h:EX P N [] c (fin ts (λe _=>∃a,Q a/\∃v,e = .ret v/\AC v (E a))) (cD 0 d) ⟨[],[]⟩)
  (hb:fn.body=some c:=by exact rfl) (t:fn.ntmps=N:=by exact rfl) (j:(fn.name == "runtime.NumGoroutine")=false:=by exact rfl) (i:Nat.ble d.length N=true:=by exact rfl) (k:fn.results=(ts.map ResultVar.tmp).toArray:=by exact rfl) (p:ts.length<=6:=by decide)
  (hE:∀a,(E a).K=true) (hQ:∃a,Q a) (ha:aA d=true) (hw:AA args d):EC P f args E Q:=by
 by_cases hr:BA N [] (cD 0 d) ⟨[],[]⟩
 ·obtain⟨e,s', Y,hk,O⟩:=h hr;have r:∀ {o},fin ts o e s' Y->AI P f d ⟨[],[]⟩ o:=λhp=>AI.enter ts hf hb t j i k p (O.mono λe1 s1 a0 ⟨a,b,c⟩=>by subst a b c;exact hp)
  cases e with
  |normal=>obtain⟨a,n,v,q,m⟩:=hk;exact⟨a,d,n,hw,AI.plain (hE a) ha (r ⟨v,q,m⟩)⟩
  |ret=>obtain⟨a,n,v,q,m⟩:=hk;exact⟨a,d,n,hw,AI.plain (hE a) ha (r ⟨v,q,m⟩)⟩
  |pan x=>obtain⟨a,n,v,q,_⟩:=hk;cases q
  |exit id=>exact hk.elim
  |goto l=>exact hk.elim
 ·obtain⟨a,n⟩:=hQ;refine⟨a,d,n,hw,AI.plain (hE a) ha (AI.enter ts hf hb t j i k p λg w u X hs y z=>absurd ⟨g,w,u,X,hs,y,z⟩ hr)⟩
theorem P5{P:Program}[Lay P]{f:FuncId}{args d:List AV}{c:Code}{N:Nat}{α:Type}{E:α->AV}{Q:α->Prop}(q:List ResultVar)(hf:P.funcs[f]? =some fn)(h:EX P N [] c (QI P q (λe _=>∃a,Q a/\∃v,e = .ret v/\AC v (E a))) (cD 0 d) ⟨[],[]⟩)
  (hb:fn.body=some c:=by exact rfl) (y:fn.ntmps=N:=by exact rfl) (j:(fn.name == "runtime.NumGoroutine")=false:=by exact rfl) (i:Nat.ble d.length N=true:=by exact rfl) (k:fn.results=q.toArray:=by exact rfl)
  (hE:∀a,(E a).K=true) (hQ:∃a,Q a) (ha:aA d=true) (hw:AA args d):EC P f args E Q:=by
 by_cases hr:BA N [] (cD 0 d) ⟨[],[]⟩
 ·obtain⟨e,s', Y,hk,O⟩:=h hr;have t:∀ {o},QI P q o e s' Y->AI P f d ⟨[],[]⟩ o:=λhp=>Dv q hf hb y j i k (O.mono λe1 s1 a2 ⟨a,b,c⟩=>by subst a b c;exact hp)
  cases e with
  |normal=>obtain⟨u,r,a,n,v,p,m⟩:=hk;exact⟨a,d,n,hw,AI.plain (hE a) ha (t ⟨u,r,v,p,m⟩)⟩
  |ret=>obtain⟨u,r,a,n,v,p,m⟩:=hk;exact⟨a,d,n,hw,AI.plain (hE a) ha (t ⟨u,r,v,p,m⟩)⟩
  |pan x=>obtain⟨a,n,v,p,_⟩:=hk;cases p
  |exit id=>exact hk.elim
  |goto l=>exact hk.elim
 ·obtain⟨a,n⟩:=hQ;refine⟨a,d,n,hw,AI.plain (hE a) ha (Dv q hf hb y j i k λg w z X hs h1 h2=>absurd ⟨g,w,z,X,hs,h1,h2⟩ hr)⟩
theorem EX.s1{P:Program}[Lay P]{N:Nat}{D:List Deferred}{c:Code}{K:AX->AE->St->Prop}{s:AE}{H:St}{Q:Prop}(q:Q)
  (h:BY Q->EX P N D c K s H:=by intro q;(first|refine .seq ?_|refine .rg ?_|refine .rd ?_|refine .block ?_|refine .scope ?_|refine .skip ?_|refine .label ?_|refine .exit ?_|refine .ret ?_|refine .ct ?_|refine .cf ?_|refine .cy ?_|refine .cn ?_|refine cT ?_|refine .nl ?_|refine .dd ?_|refine .ys ?_|refine .no ?_|refine .lb ?_|refine .ln ?_|refine .ls ?_|refine .pv ?_|refine .ix ?_|refine .pt ?_|refine .pf ?_|refine .bx ?_|refine .al ?_|refine .st ?_|refine .ad ?_|refine .sb ?_|refine .mf ?_|refine .cl ?_|refine .cw ?_|refine .ck ?_);exact q.val):EX P N D c K s H:=h ⟨q⟩
def nr{k:Nat}{s s': AE}{H Y:St}(hs:Av.Sub ((i, .int .i64 ((k+1:Nat):Int))::nub [i] s) s':= by (repeat' first|exact trivial|refine⟨rfl, ?_⟩))(h:(⟨Y.B.take H.B.length,Y.T.take H.T.length⟩:St)=H:=by exact rfl):Nr i s H k s' Y:=⟨hs,h⟩
def fe{ts:List Nat}{s:AE}{α:Type}{E:α->AV}{Q:α->Prop}{a:α}(hw:AC (gG s ts) (E a):=by first|exact aG _|((repeat' first|exact aG _|exact aB _|refine AC.tup ?_|refine AC.agg ?_|refine AA.cons ?_ ?_|exact AC.no (aB _));done))(hQ:Q a:=by first|trivial|exact Nat.zero_le _|((try dsimp only at *);omega)|infer_instance|(simp_all;done)|grind):∃a,Q a/\∃v,Av.ret (gG s ts) = .ret v/\AC v (E a):=⟨a,hQ,_,rfl,hw⟩
theorem fr{P:Program}[Lay P]{b:List ResultVar}{s:AE}{H:St}{α:Type}{E:α->AV}{Q:α->Prop}{a:α}{v:AV}(h:resK? P s H b nI=some v:=by exact rfl)(hw:AC v (E a):=by first|exact aG _|((repeat' first|exact aG _|exact aB _|refine AC.tup ?_|refine AC.agg ?_|refine AA.cons ?_ ?_|exact AC.no (aB _));done))(hQ:Q a:=by first|trivial|exact Nat.zero_le _|((try dsimp only at *);omega)|infer_instance|(simp_all;done)|grind):∃c,resK? P s H b nI=some c/\∃a,Q a/\∃v,Av.ret c = .ret v/\AC v (E a):=⟨_,h,a,hQ,_,rfl,hw⟩
end Go.Av
namespace Go.Proofs.YtimbiifcnhgcoaaGreatDoor
open Go Go.Av Go.Proofs.Tryz
instance:Inhabited Ac:=⟨⟨[],0,0⟩⟩
instance:Inhabited AH:=⟨.mk 0 0 [] [] []⟩
instance:Inhabited AP:=⟨⟨[],default,false,default⟩⟩
instance (v:AH):Az v.lv v.l AH.C:=⟨v.b1⟩
instance (v:AH):Az v.mv v.m AF.C:=⟨v.bh⟩
variable [AL] {P:Program} [Lay P]
theorem en{f:FuncId}{args:List AV}{c:Code}{N:Nat}{α:Type}{E:α->AV}{Q:α->Prop}(ts:List Nat)(hf:P.funcs[f]? =some fn)(h:EX P N [] c (fin ts (λe _=>∃a,Q a/\∃v,e = .ret v/\AC v (E a))) (cD 0 args) ⟨[],[]⟩)
  (hb:fn.body=some c:=by exact rfl) (j:fn.ntmps=N:=by exact rfl) (d:(fn.name == "runtime.NumGoroutine")=false:=by exact rfl) (b:Nat.ble args.length N=true:=by exact rfl) (g:fn.results=(ts.map ResultVar.tmp).toArray:=by exact rfl) (i:ts.length<=6:=by decide)
  (hE:∀a,(E a).K=true:=by intro a;first|exact rfl|simp[-List.map_map,AV.K,aA,aT,bZ,aR,b9,jS,iS,aZ,eU,AH.K,Ag.K,Ah.K,Af.K,AJ.K,AR.K,Ac.K,AP.K]) (hQ:∃a,Q a:=by exact⟨default,by first|trivial|exact Nat.zero_le _|exact⟨Wd⟩|omega|simp|fail⟩)
  (ha:aA args=true:=by first|exact rfl|simp[-List.map_map,AV.K,aA,aT,bZ,aR,b9,jS,iS,aZ,eU,AH.K,Ag.K,Ah.K,Af.K,AJ.K,AR.K,Ac.K,Au.K,Sl.K,AP.K,AO.K,Ak.K]):EC P f args E Q:=
 EC.enter ts hf h hb j d b g i hE hQ ha (aB _)
theorem enR{f:FuncId}{args:List AV}{c:Code}{N:Nat}{α:Type}{E:α->AV}{Q:α->Prop}(i:List ResultVar)(hf:P.funcs[f]? =some fn)(h:EX P N [] c (QI P i (λe _=>∃a,Q a/\∃v,e = .ret v/\AC v (E a))) (cD 0 args) ⟨[],[]⟩)
  (hb:fn.body=some c:=by exact rfl) (j:fn.ntmps=N:=by exact rfl) (d:(fn.name == "runtime.NumGoroutine")=false:=by exact rfl) (b:Nat.ble args.length N=true:=by exact rfl) (g:fn.results=i.toArray:=by exact rfl)
  (hE:∀a,(E a).K=true:=by intro a;first|exact rfl|simp[-List.map_map,AV.K,aA,aT,bZ,aR,b9,jS,iS,aZ,eU,AH.K,Ag.K,Ah.K,Af.K,AJ.K,AR.K,Ac.K,AP.K]) (hQ:∃a,Q a:=by exact⟨default,by first|trivial|exact Nat.zero_le _|exact⟨Wd⟩|omega|simp|fail⟩)
  (ha:aA args=true:=by first|exact rfl|simp[-List.map_map,AV.K,aA,aT,bZ,aR,b9,jS,iS,aZ,eU,AH.K,Ag.K,Ah.K,Af.K,AJ.K,AR.K,Ac.K,Au.K,Sl.K,AP.K,AO.K,Ak.K]):EC P f args E Q:=
 P5 i hf h hb j d b g hE hQ ha (aB _)
abbrev EB[AL](f:FuncId)(args:List AV):Prop:=EC prog f args (λb:Bool => .bool b) (λ_=>True)
end Go.Proofs.YtimbiifcnhgcoaaGreatDoor
namespace Go.Av
open Go
theorem Ss{v:Tok}:∀ {k:Nat} {T:List Tok} {f:List Tok->Option (List Tok)},k<T.length->jX k v T f=f (T.set k v)
 |0,x::T,f,_=>rfl
 |k+1,x::T,f,h=>by rw[jX,Ss Wu];rfl
 |_,[],_,h=>Wp
attribute [local irreducible] AB AD AN AI Av.AU AZ
theorem VB{a n:Nat}(y:AV):∀xs:List AV,aE a n (xs++[y])=(aE a n xs&&y.ab a n)
 |[]=>by simp[aE]
 |x::xs=>by rw[cons_append,aE,aE,VB y xs,Bool.and_assoc]
theorem VC{Q N:Nat->Nat}(y:AV):∀xs:List AV,aX Q N (xs++[y])=aX Q N xs++[y.af Q N]
 |[]=>by simp[aX]
 |x::xs=>by rw[cons_append,aX,aX,VC y xs];rfl
section
variable [AL]
variable {P:Program} {A:Array Oper} {G:Bool} {K:AX->AE->St->Prop} {C:List Oper} {I:List Aj} {s:AE} {H:St} {d:Option Tmp} {R:TypeId} {D:String} {S:Array Edge}
def aCj{f:FuncId}{xs cls cls': List AV}{z n g:Nat}(j:Nat)(ha:jZ s args.toList some=some (cls++[.slice xs (.own j z)]))
  (hp:AI P f (cls'++ [.slice xs (.own 0 z)]) ⟨[],[.len n]⟩ (λe l=>e = .ret (.slice ys (.own 0 z))/\l=⟨[],[.len g]⟩)) (hj:H.T[j]? =some (.len n)) (hx:aA xs=true) (o:aA ys=true) (O:aA cls'= true) (hw:AA (cls++[.slice xs (.own j z)]) (cls'++ [.slice xs (.own j z)]))
  (a:jX j (.len g) H.T some=some T') (k:AD P A G K C (.all::I) (iG d (.slice ys (.own j z)) s) ⟨H.B,T'⟩):AD P A G K (⟨d, .call ⟨.value (.func f),args,p⟩,R,D,S,none⟩::C) I s H:=by
 have c:j<H.T.length:=(List.getElem?_eq_some_iff.1 hj).1;have m:emb H.T.length [j] 0=j:=rfl;refine lS (nB:=H.B.length) (nT:=H.T.length) (B0:=[]) (T0:=[.len n]) (B1:=[]) (T1:=[.len g]) (v0 := .slice ys (.own 0 z)) [] [j] ha hp rfl rfl ⟨List.nodup_nil,Wb⟩ ⟨Wb,WA⟩ rfl rfl (λk i ob h=>Wp) (λk i t h ht=> ?_) rfl rfl
  ?_ ?_ ?_ (B':= H.B) (T':= T') ?_ ?_ k
 ·cases k with
  |zero=>simp at h ht;subst h;subst ht;exact hj
  |succ k=>simp at h
 ·rw[VB,aD _ _ _ O,AV.ab,aD _ _ _ hx];rfl
 ·rw[VC,aU _ _ _ O,AV.af,aU _ _ _ hx];exact hw
 ·rw[AV.af,aU _ _ _ o];rfl
 ·rw[pN];simp
 ·obtain⟨_,b⟩:=d7 _ _ _ _ _ a;rw[<-Option.some.inj b];simp[eZ,upd,Tok.af]
end
open Go Go.Proofs.YtimbiifcnhgcoaaGreatDoor
variable [AL]
class Hot(t:Tk):Prop where
 hot:True
instance {k z:Nat}:Hot (.own k z):=⟨trivial⟩
section
variable {P:Program} {f:FuncId} {x y z:AV} {r:List AV} {α:Type} {E:α->AV} {Q:α->Prop} {xs:List AV} {t:Tk}
theorem EC.a7{vs ws:List AV}(h:EC P f ws E Q)(hw:AA vs ws):EC P f vs E Q:=
 let ⟨a,u,b,c,h3⟩:=h.ex
 ⟨a,u,b,λg w v d=>c g w v (hw g w v d),h3⟩
instance [Hot t][h:EC P f (.slice xs .no::r) E Q]:EC P f (.slice xs t::r) E Q:=h.a7 (by repeat' first|exact aB _|refine AA.cons (aG _) ?_|exact AA.cons (AC.no (aB _)) (aB _))
end
section
variable {P:Program} [Lay P] {A:Array Oper} {G:Bool} {K:AX->AE->St->Prop} {C:List Oper} {I:List Aj} {s:AE} {H:St} {d:Tmp} {R:TypeId} {D:String} {S:Array Edge}
def AD.iy{x i:Operand}{xs:List AV}{c:IntKind}{n:Int}{j:Nat}{α:Type}{L:List α}{E:α->AV}{te:TI}(k:∀h:j<L.length,xs[j]? =some (E L[j])->AD P A G K C (.pure::I) ((d, .ac (E L[j]))::s) H)(hT:ty? P T=some ti:=by exact rfl)(hk:ti.kind = .slice:=by exact rfl)(hE:ty? P ti.elem=some te:=by exact rfl)(hx:ev? s x=some (.slice xs tk):=by exact rfl)(X:ev? s i=some (.int c n):=by exact rfl)(b:Az xs L E:=by infer_instance)(hj:n=(j:Int):=by exact rfl)(a:j<L.length:=by first|omega|grind)(hf:fits te.agg te.size (E L[j])=true:=by exact rfl):
  AD P A G K (⟨some d, .indexAddr T x i,R,D,S,none⟩::C) I s H:=by
 have h:xs[j]? =some (E L[j]):=by rw[b.eq];simp[a]
 exact HZ hT hk hE hx X hj h hf (k a h)
theorem AD.sz{x:Operand}{lo X:Option Operand}{xs:List UInt8}{nl nh:Int}(k:AD P A G K C (.pure::I) ((d, .str ((xs.take nh.toNat).drop nl.toNat))::s) H)(hT:ty? P T=some ti:=by exact rfl)(hk:ti.kind = .string:=by exact rfl)(hx:ev? s x=some (.str xs):=by exact rfl)
  (b:bnd? s lo 0=some nl:=by exact rfl) (a:bnd? s X xs.length=some nh:=by exact rfl) (h:0<=nl/\nl<=nh/\nh<=(xs.length:Int):=by first|omega|grind):AD P A G K (⟨some d, .slice T x lo X none,R,D,S,none⟩::C) I s H:=
 cS nl.toNat nh.toNat hT hk hx b a om om om om rfl k
end
class Z(n:Nat):Prop where
 le:n<=1048576
instance {α:Type}:Z ([]:List α).length:=⟨zero_le _⟩
theorem Z.of{a b:Nat}[h:Z b](k:a<=b):Z a:=⟨Nat.le_trans k h.le⟩
class Bz(α:Type)(f:outParam (α->Nat)):Prop where
 pos:∀x:α,1<=f x
instance {α:Type}{f:α->Nat}{L:List α}{k:Nat}{h:k<L.length}[Z (aC f L)]:Z (f (L[k]'h)) := .of (aN (getElem_mem h))
instance {α:Type}{f:α->Nat}{L:List α}[p:Bz α f][Z (aC f L)]:Z L.length := .of (aJ p.pos L)
section
variable {P:Program} [Lay P] {N:Nat} {D:List Deferred} {c:Code} {K:AX->AE->St->Prop} {s:AE} {H:St}
end
section
variable {P:Program} [Lay P] {N:Nat} {D:List Deferred} {c:Code} {K:AX->AE->St->Prop} {s:AE} {H:St}
structure Br(P:Program)[Lay P](N:Nat)(D:List Deferred)(c:Code)(s:AE)(H:St)(i:Nat)(xs:List AV):Prop where
 le:BA N D s H->xs.length<=9223372036854775807
theorem Br.f{b j i:Nat}{xs:List AV}(d:wW P c = .f b j i:=by exact rfl)(hb:M8 s H b j=some (.slice xs tk):=by exact rfl):Br P N D c s H i xs:=⟨λhr=>by
 obtain⟨_,_,_,a⟩:=GM hr hb
 exact Dg a⟩
theorem Br.g{b j d i f:Nat}{xs xs2:List AV}{a:Tk}{y:AV}(h:wW P c = .g b j d i:=by exact rfl)(hb:M8 s H b j=some (.slice xs tk):=by exact rfl)(hx:xs[f]? =some y:=by assumption)(e:UD d y=some (.slice xs2 a):=by exact rfl):Br P N D c s H i xs2:=⟨λhr=>OI hr hb hx e⟩
structure Rg{γ:Type}(F:γ->AV)(t z:Nat)(M:Nat->Nat)(o i:Nat)(s:AE)(H:St)(k:Nat)(s': AE)(Y:St):Prop where
 ex:∃ys:List γ,ys.length<=M (k+1)/\lk s' o = .slice (ys.map F) (.own t z)/\Sub ((i, .int .i64 ((k+1:Nat):Int))::nub [i,o] s) s'/\ (⟨Y.B.take H.B.length,Y.T.take H.T.length⟩:St)=⟨H.B,H.T.set t (.len ys.length)⟩
theorem GO{n m:Nat}{x:Tok}(hx:x.ab n m=true):∀ {T:List Tok} (t:Nat),aL n m T=true->aL n m (T.set t x)=true
 |[],_,_=>rfl
 |y::T,0,h=>by simp only[aL,and_eq_true]at h;simp only[List.set_cons_zero,aL,hx,h.2];rfl
 |y::T,t+1,h=>by simp only[aL,and_eq_true]at h;simp only[List.set_cons_succ,aL,h.1,GO hx t h.2];rfl
theorem EX.R(o:Nat){γ:Type}(F:γ->AV)(M:Nat->Nat){b:List γ}{t z:Nat}{α:Type}{xs r:List AV}{L:List α}{E:α->AV}
  (cons:∀(k:Nat) (h:k<L.length) (ys:List γ),ys.length<=M k->decide ((k:Int)<(L.length:Int))=true->decide ((k:Int)<(xs.length:Int))=true->xs[k]? =some (E L[k])->L[k]∈L->L.length<=9223372036854775807->
   EX P N D c (thn (Rg F t z M o i s H k) K) ((o, .slice (ys.map F) (.own t z))::(i, .int .i64 k)::nub [i,o] s) ⟨H.B,H.T.set t (.len ys.length)⟩)
  (nil:∀(ys:List γ),ys.length<=M L.length->decide ((L.length:Int)<(L.length:Int))=false->decide ((L.length:Int)<(xs.length:Int))=false->EX P N D c (thn (λ_ _=>False) K) ((o, .slice (ys.map F) (.own t z))::(i, .int .i64 L.length)::nub [i,o] s) ⟨H.B,H.T.set t (.len ys.length)⟩)
  (hL:Br P N D c s H i xs:=by first|exact .f|exact .g|fail) (hm:Az xs L E:=by infer_instance) (X:lk? s i=some (.int .i64 ((0:Nat):Int)):=by exact rfl)
  (ho:lk? s o=some (.slice r (.own t z)):=by exact rfl) (h0:r=b.map F:=by first|exact rfl|exact List.map_nil.symm) (hT:H.T[t]? =some (.len b.length):=by exact rfl) (hM:b.length<=M 0:=by first|exact Nat.zero_le _|(dsimp only;omega)|simp) (hF:∀y,(F y).K=true:=by intro y;first|exact rfl|simp[AV.K,aA]):EX P N D (.loop c) K s H:=by
 refine x7 λhr=> ?_
 have hl:=hL.le hr;have he:=hm.eq;have l:xs.length=L.length:=Zn
 have j:=hr.state;have ht:t<H.T.length:=(List.getElem?_eq_some_iff.1 hT).1;subst h0;have p:H.T.set t (.len b.length)=H.T:=by
  apply List.ext_getElem?;intro q;by_cases e:t=q
  ·subst e;rw[List.getElem?_set_self ht,hT]
  ·rw[List.getElem?_set_ne e]
 refine EX.loop (λm w u=>∃(k:Nat) (ys:List γ),m=L.length-k/\k<=L.length/\ys.length<=M k/\w=(o, .slice (ys.map F) (.own t z))::(i, .int .i64 k)::nub [i,o] s/\u=⟨H.B,H.T.set t (.len ys.length)⟩)
  (n:=L.length) (s0:=(o, .slice (b.map F) (.own t z))::(i, .int .i64 ((0:Nat):Int))::nub [i,o] s) ⟨gY ho,gY X,JO _ _⟩ ⟨0,b,rfl,zero_le _,hM,rfl,by rw[p]⟩ ?_
 rintro m w u ⟨k,ys,rfl,hk,hy,rfl,rfl⟩;by_cases a:k<L.length
 ·refine(cons k a ys hy Ww (by rw[l];simp[a]) (by rw[he];simp[a]) (getElem_mem a) om).mono λe s' Y h=> ?_
  cases e with
  |normal=>
   obtain⟨d,x,h2,h3,h4⟩:=h.ex;refine⟨L.length-(k+1),om,(o, .slice (d.map F) (.own t z))::(i, .int .i64 ((k+1:Nat):Int))::nub [i,o] s,⟨h2,h3⟩, ?_, ?_,k+1,d,rfl,a,x,rfl,h4⟩
   ·have O:aA (d.map F)=true:=Go.Proofs.YtimbiifcnhgcoaaGreatDoor.bH hF d;have v:Nat.blt t H.T.length=true:=by rw[Nat.blt_eq];exact ht
    rw[aM,aM,hr.bw,AV.ab,aD _ _ _ O];simp only[v];rfl
   ·rw[show List.take H.B.length Y.B=H.B from congrArg St.B h4,show List.take H.T.length Y.T=H.T.set t (.len d.length) from congrArg St.T h4];rw[and_eq_true]at j ⊢;exact⟨j.1,GO rfl t j.2⟩
  |_=>exact h
 ·obtain rfl:k=L.length:=om
  refine(nil ys hy Wb (by rw[l];simp)).mono λe s' Y h=> ?_
  cases e with
  |normal=>exact h.elim
  |_=>exact h
theorem aCk{α:Type}{f:α->Nat}:∀ {l:List α} {k:Nat} (h:k<l.length),aC f (l.take (k+1))=aC f (l.take k)+f l[k]
 |x::l,0,_=>by simp[aC]
 |x::l,k+1,h=>by simp only[List.take_succ_cons,aC,List.getElem_cons_succ];rw[aCk Wu];omega
def aCl{α:Type}(f:α->Nat):∀(l:List α) (k:Nat),aC f (l.take k)<=aC f l
 |[],k=>by simp
 |x::l,0=>zero_le _
 |x::l,k+1=>by simp only[List.take_succ_cons,aC];have:=aCl f l k;omega
def E6{α:Type}{f g:α->Nat}(h:∀x,f x<=g x):∀l:List α,aC f l<=aC g l
 |[]=>Nat.le_refl _
 |x::l=>by simp only[aC];have:=E6 h l;have:=h x;omega
def EX.Rw(o:Nat){γ:Type}(F:γ->AV)(m0:Nat){α:Type}(a:α->Nat){b:List γ}{t z:Nat}{xs d:List AV}{L:List α}{E:α->AV}
  (cons:∀(k:Nat) (h:k<L.length) (ys:List γ) (S:Nat),ys.length<=m0+S->S+a L[k]<=aC a L->decide ((k:Int)<(L.length:Int))=true->decide ((k:Int)<(xs.length:Int))=true->xs[k]? =some (E L[k])->L[k]∈L->L.length<=9223372036854775807->
   EX P N D c (thn (Rg F t z (λ_=>m0+S+a L[k]) o i s H k) K) ((o, .slice (ys.map F) (.own t z))::(i, .int .i64 k)::nub [i,o] s) ⟨H.B,H.T.set t (.len ys.length)⟩)
  (nil:∀(ys:List γ),ys.length<=m0+aC a L->decide ((L.length:Int)<(L.length:Int))=false->decide ((L.length:Int)<(xs.length:Int))=false->EX P N D c (thn (λ_ _=>False) K) ((o, .slice (ys.map F) (.own t z))::(i, .int .i64 L.length)::nub [i,o] s) ⟨H.B,H.T.set t (.len ys.length)⟩)
  (r:Br P N D c s H i xs:=by first|exact .f|exact .g|fail) (v:Az xs L E:=by infer_instance) (X:lk? s i=some (.int .i64 ((0:Nat):Int)):=by exact rfl)
  (w:lk? s o=some (.slice d (.own t z)):=by exact rfl) (j:Az d b F:=by first|infer_instance|exact⟨List.map_nil.symm⟩|exact⟨rfl⟩) (hT:H.T[t]? =some (.len b.length):=by first|exact rfl|(simp only[List.length_append];exact rfl)) (u:b.length<=m0:=by first|exact Nat.zero_le _|((try dsimp only at *);omega)|((try simp only[List.length_append,List.length_cons,List.length_nil]at *);omega)) (hF:∀y,(F y).K=true:=by intro y;first|exact rfl|simp[AV.K,aA,Au.K]):EX P N D (.loop c) K s H:=
 EX.R o F (λk=>m0+aC a (L.take k)) (λk h ys n p q x m l=>by
  have h1:=aCk (f:=a) h
  have h2:=aCl a L (k+1)
  refine(cons k h ys (aC a (L.take k)) n om p q x m l).mono λe s' Y h=> ?_
  cases e with
  |normal=>obtain⟨ys,h3,h4⟩:=h.ex;exact⟨ys,Nat.le_trans h3 om,h4⟩
  |_=>exact h) (λys n=>nil ys (by simpa using n)) r v X w j.eq hT (Nat.le_trans u (Nat.le_add_right ..)) hF
def EX.Rn(o:Nat){γ:Type}(F:γ->AV){α:Type}(b:α->Nat){a:List γ}{t z:Nat}{xs d:List AV}{L:List α}{E:α->AV}
  (cons:∀(k:Nat) (h:k<L.length) (ys:List γ) (S:Nat),ys.length<=a.length+S->S+b L[k]<=aC b L->decide ((k:Int)<(L.length:Int))=true->decide ((k:Int)<(xs.length:Int))=true->xs[k]? =some (E L[k])->L[k]∈L->L.length<=9223372036854775807->
   EX P N D c (thn (Rg F t z (λ_=>a.length+S+b L[k]) o i s H k) K) ((o, .slice (ys.map F) (.own t z))::(i, .int .i64 k)::nub [i,o] s) ⟨H.B,H.T.set t (.len ys.length)⟩)
  (nil:∀(ys:List γ),ys.length<=a.length+aC b L->decide ((L.length:Int)<(L.length:Int))=false->decide ((L.length:Int)<(xs.length:Int))=false->EX P N D c (thn (λ_ _=>False) K) ((o, .slice (ys.map F) (.own t z))::(i, .int .i64 L.length)::nub [i,o] s) ⟨H.B,H.T.set t (.len ys.length)⟩)
  (j:Br P N D c s H i xs:=by first|exact .f|exact .g|fail) (l:Az xs L E:=by infer_instance) (X:lk? s i=some (.int .i64 ((0:Nat):Int)):=by exact rfl)
  (m:lk? s o=some (.slice d (.own t z)):=by exact rfl) (e:Az d a F:=by first|infer_instance|exact⟨List.map_nil.symm⟩|exact⟨rfl⟩) (hT:H.T[t]? =some (.len a.length):=by first|exact rfl|(simp only[List.length_append];exact rfl)) (hF:∀y,(F y).K=true:=by intro y;first|exact rfl|simp[AV.K,aA,Au.K]):EX P N D (.loop c) K s H:=
 EX.Rw o F a.length b cons nil j l X m e hT (Nat.le_refl _) hF
def EX.R1(o:Nat){γ:Type}(F:γ->AV){a:List γ}{t z:Nat}{α:Type}{xs b:List AV}{L:List α}{E:α->AV}
  (cons:∀(k:Nat) (h:k<L.length) (ys:List γ),ys.length<=a.length+k->decide ((k:Int)<(L.length:Int))=true->decide ((k:Int)<(xs.length:Int))=true->xs[k]? =some (E L[k])->L[k]∈L->L.length<=9223372036854775807->
   EX P N D c (thn (Rg F t z (λk=>a.length+k) o i s H k) K) ((o, .slice (ys.map F) (.own t z))::(i, .int .i64 k)::nub [i,o] s) ⟨H.B,H.T.set t (.len ys.length)⟩)
  (nil:∀(ys:List γ),ys.length<=a.length+L.length->decide ((L.length:Int)<(L.length:Int))=false->decide ((L.length:Int)<(xs.length:Int))=false->EX P N D c (thn (λ_ _=>False) K) ((o, .slice (ys.map F) (.own t z))::(i, .int .i64 L.length)::nub [i,o] s) ⟨H.B,H.T.set t (.len ys.length)⟩)
  (e:Br P N D c s H i xs:=by first|exact .f|exact .g|fail) (j:Az xs L E:=by infer_instance) (X:lk? s i=some (.int .i64 ((0:Nat):Int)):=by exact rfl)
  (l:lk? s o=some (.slice b (.own t z)):=by exact rfl) (d:Az b a F:=by first|infer_instance|exact⟨List.map_nil.symm⟩|exact⟨rfl⟩) (hT:H.T[t]? =some (.len a.length):=by first|exact rfl|(simp only[List.length_append];exact rfl)) (hF:∀y,(F y).K=true:=by intro y;first|exact rfl|simp[AV.K,aA,Au.K]):EX P N D (.loop c) K s H:=
 EX.R o F (λk=>a.length+k) cons nil e j X l d.eq hT (Nat.le_refl _) hF
def gr{γ:Type}{F:γ->AV}{t z:Nat}{M:Nat->Nat}{i:Nat}{s s': AE}{H Y:St}{k:Nat}{a:List AV}{ys:List γ}(h0:lk s' o = .slice a (.own t z):=by exact rfl)(c:Az a ys F:=by infer_instance)
  (hs:Av.Sub ((i, .int .i64 ((k+1:Nat):Int))::nub [i,o] s) s':= by (repeat' first|exact trivial|refine⟨rfl, ?_⟩)) (hσ:(⟨Y.B.take H.B.length,Y.T.take H.T.length⟩:St)=⟨H.B,H.T.set t (.len ys.length)⟩:=by first|exact rfl|(simp only[List.length_append,List.length_map];exact rfl)) (b:ys.length<=M (k+1):=by first|((try dsimp only at *);omega)|((try simp only[List.length_append,List.length_cons,List.length_nil]at *);omega)|simp_all|fail):Rg F t z M o i s H k s' Y:=⟨⟨ys,b,by rw[h0,c.eq],hs,hσ⟩⟩
structure Mg{γ:Type}(F:γ->AV)(Q:Nat->γ->Prop)(o i:Nat)(s:AE)(H:St)(k:Nat)(s': AE)(Y:St):Prop where
 ex:∃y:γ,Q (k+1) y/\Sub ((o,F y)::(i, .int .i64 ((k+1:Nat):Int))::nub [i,o] s) s'/\ (⟨Y.B.take H.B.length,Y.T.take H.T.length⟩:St)=H
def Su(i n o:Nat){γ:Type}(F:γ->AV)(Q:Nat->γ->Prop){b:Nat}{d:γ}(cons:∀(k:Nat) (y:γ),k<n->Q k y->decide ((k:Int)<(n:Int))=true->EX P N D c (thn (Mg F Q o i s H k) K) ((o,F y)::(i, .int .i64 k)::nub [i,o] s) H)
  (nil:∀(k:Nat) (y:γ),n<=k->((k:Int)<=z0\/k<=n)->Q k y->decide ((k:Int)<(n:Int))=false->EX P N D c (thn (λ_ _=>False) K) ((o,F y)::(i, .int .i64 k)::nub [i,o] s) H) (X:lk? s i=some (.int .i64 z0)) (f:z0=(b:Int)) (q:lk? s o=some (F d)) (h0:Q b d) (hF:∀y,(F y).K=true):EX P N D (.loop c) K s H:=by
 subst f;refine x7 λhr=>EX.loop (λm j a=>∃(k:Nat) (y:γ),m=n-k/\((k:Int)<=(b:Int)\/k<=n)/\Q k y/\j=(o,F y)::(i, .int .i64 k)::nub [i,o] s/\a=H) (n:=n-b) (s0:=(o,F d)::(i, .int .i64 (b:Int))::nub [i,o] s) ⟨gY q,gY X,JO _ _⟩ ⟨b,d,rfl, .inl (Int.le_refl _),h0,rfl,rfl⟩ ?_
 rintro m j a ⟨k,y,rfl,hkm,hq,rfl,rfl⟩;by_cases g:k<n
 ·refine(cons k y g hq (by simp[g])).mono λe s' Y h=> ?_
  cases e with
  |normal=>
   obtain⟨l,p,h3,h4⟩:=h.ex;refine⟨n-(k+1),om,_,h3, ?_, ?_,k+1,l,rfl,om,p,rfl,h4⟩
   ·rw[aM,aM,hr.bw,aF _ _ _ (hF l)];rfl
   ·rw[show List.take a.B.length Y.B=a.B from congrArg St.B h4,show List.take a.T.length Y.T=a.T from congrArg St.T h4];exact hr.state
  |_=>exact h
 ·refine(nil k y om hkm hq Wl).mono λe s' Y h=> ?_
  cases e with
  |normal=>exact h.elim
  |_=>exact h
def EX.MF{j:Nat}(o:Nat){γ:Type}(F:γ->AV)(Q:Nat->γ->Prop){y0:γ}{α:Type}{xs:List AV}{L:List α}{E:α->AV}(cons:∀(k:Nat) (y:γ),k<L.length->Q k y->decide ((k:Int)<(L.length:Int))=true->decide ((k:Int)<(xs.length:Int))=true->L.length<=9223372036854775807->EX P N D c (thn (Mg F Q o i s H k) K) ((o,F y)::(i, .int .i64 k)::nub [i,o] s) H)
  (nil:∀(k:Nat) (y:γ),L.length<=k->((k:Int)<=z0\/k<=L.length)->Q k y->decide ((k:Int)<(L.length:Int))=false->decide ((k:Int)<(xs.length:Int))=false->EX P N D c (thn (λ_ _=>False) K) ((o,F y)::(i, .int .i64 k)::nub [i,o] s) H) (l:Br P N D c s H i xs:=by first|exact .f|exact .g|fail) (e:Az xs L E:=by infer_instance)
  (X:lk? s i=some (.int .i64 z0):=by exact rfl) (h:z0=(j:Int):=by exact rfl) (m:lk? s o=some (F y0):=by exact rfl) (h0:Q j y0:=by first|trivial|(dsimp only;omega)|simp) (hF:∀y,(F y).K=true:=by intro y;exact rfl):EX P N D (.loop c) K s H:=by
 refine x7 λhr=> ?_
 have n:=l.le hr;have a:xs.length=L.length:=by rw[e.eq,List.length_map]
 exact Su i L.length o F Q (λk y b d h3=>cons k y b d h3 (by rw[a];exact h3) om) (λk y b e d h3=>nil k y b e d h3 (by rw[a];exact h3)) X h m h0 hF
def mg{γ:Type}{F:γ->AV}{Q:Nat->γ->Prop}{o i:Nat}{s s': AE}{H Y:St}{k:Nat}{y:γ}(h0:lk s' o=F y:=by exact rfl)(hs:Av.Sub ((i, .int .i64 ((k+1:Nat):Int))::nub [i,o] s) s':= by (repeat' first|exact trivial|refine⟨rfl, ?_⟩))(hσ:(⟨Y.B.take H.B.length,Y.T.take H.T.length⟩:St)=H:=by exact rfl)
  (a:Q (k+1) y:=by first|trivial|((try dsimp only at *);omega)|simp_all|fail):Mg F Q o i s H k s' Y:=⟨⟨y,a,⟨h0,hs⟩,hσ⟩⟩
structure Mb(t:Nat)(Q:Bool->Prop)(s:AE)(H:St)(s': AE)(Y:St):Prop where
 ex:∃b:Bool,Q b/\Sub ((t, .bool b)::nub [t] s) s'/\ Y=H
def aEJ(t:Nat):Code->Bool
 | .region _ ops _=>ops.toList.any λo=>match o.dst with
  |some d=>Nat.beq d t
  |none=>false
 |_=>false
def GP:List Oper->List Nat->List Nat
 |[],I=>I
 |o::l,I=>match o.guard with
  |some (j,_)=>GP l (bif Ln j I then I else j::I)
  |none=>GP l I
def Lq:List Oper->Option Nat
 |[]=>none
 |[o]=>(match o.op with
  | .pick _ _ _=>o.dst
  |_=>none)
 |_::l=>Lq l
def aCm:Code->Option Nat
 | .region _ ops _=>(match GP ops.toList [] with
  |_::_::_=>Lq ops.toList
  |_=>none)
 |_=>none
def EX.mA{t:Nat}{y:Code}(a:EX P N D c (thn (Mb t (λ_=>True) s H) K) s H)(d:∀b:Bool,EX P N D y K ((t, .bool b)::nub [t] s) H)(hj:aCm c=some t:=by exact rfl):EX P N D c (thn (EX P N D y K) K) s H:=
 a.mono λe s' Y h=>by
  cases e with
  |normal=>obtain⟨b,f,h3,rfl⟩:=h.ex;exact(d b).weaken h3
  |_=>exact h
def mb{t:Nat}{Q:Bool->Prop}{s s': AE}{H Y:St}(h0:lk s' t = .bool b:=by exact rfl)(hs:Av.Sub (nub [t] s) s':= by (repeat' first|exact trivial|refine⟨rfl, ?_⟩))(h:Y=H:=by exact rfl)(a:Q b:=by first|trivial|omega|(simp_all;done)|grind):Mb t Q s H s' Y:=⟨⟨b,a,⟨h0,hs⟩,h⟩⟩
def EX.fz(b:Nat){k z n j:Nat}{xs:List AV}{y:AV}(h:EX P N D c K ((b, .ac y)::s) ⟨H.B,T'⟩)(hx:lk? s b=some (.ao k z n j 0):=by exact rfl)(hT:H.T[k]? =some (.aa xs):=by exact rfl)(hn:xs.length=n:=by exact rfl)(d:xs[j]? =some y:=by exact rfl)(a:jX k (.len (n+1)) H.T some=some T':= by exact rfl):EX P N D c K s H:=
 .via (λc K h=>b8 b hx (bE hT hn d a) h) h
theorem EX.ad(o z:Nat){k:Nat}(h:EX P N D c K ((o, .slice [] (.own k z))::s) ⟨H.B,T'⟩)(hx:lk? s o=some (.slice [] .nil):=by exact rfl)(hk:dN H.T=some k:=by exact rfl)(a:kP H.T (.len 0) some=some T':= by exact rfl):EX P N D c K s H:=
 .via (λc K h=>eX o false z hx rfl rfl hk rfl a h) h
end
section
variable {P:Program} [Lay P] {A:Array Oper} {G:Bool} {K:AX->AE->St->Prop} {C:List Oper} {I:List Aj} {s:AE} {H:St} {d:Tmp} {R:TypeId} {D:String} {S:Array Edge}
def P6(op:BinOp)(k ky:IntKind)(n:Int):Bool:=match op with
 | .add | .sub | .mul | .and | .or | .xor | .andNot=>decide (ky=k)
 | .shl | .shr=>decide (0<=n)
 | .quo | .rem=>decide (ky=k)&&decide (n≠0)
 |_=>false
def AD.io{e:BinOp}{x y:Operand}{U:TypeId}{k c:IntKind}{m:Int}(o:∀r:Int,AD P A G K C (.pure::I) ((d, .int k r)::s) H)(hx:ev? s x=some (.int k m):=by exact rfl)(l:ev? s y=some (.int c n):=by exact rfl)(h:P6 e k c n=true:=by first|exact rfl|(simp[P6];done)|(simp[P6];omega)):
  AD P A G K (⟨some d, .binOp e T x y U,R,D,S,none⟩::C) I s H:=by
 have i:∃r:Int,∀w:World,(do eqGuard e T x y (.int k m) (.int c n);Go.binOp e T (.int k m) (.int c n):Sem Value).run P w = .ok (.int k r) w:=by
  cases e with
  |add|sub|mul|and|or|xor|andNot=>
   obtain rfl:c=k:=by simpa [P6]using h
   exact⟨_,λw=>by simp[eqGuard,Go.binOp,Op.intArith];rfl⟩
  |quo|rem=>
   obtain⟨rfl,hn⟩:c=k/\n≠0:=by simpa [P6]using h
   exact⟨_,λw=>by simp[eqGuard,Go.binOp,Op.intDiv,hn];rfl⟩
  |shl|shr=>
   have hn:0<=n:=by simpa [P6]using h
   exact⟨_,λw=>by simp[eqGuard,Go.binOp,Op.shift,Int.not_lt.2 hn];rfl⟩
  |_=>cases h
 obtain⟨r,hr⟩:=i;exact fC hx l (λg w a b ha hb=>by cases (show a=_ from ha);cases (show b=_ from hb);exact⟨.int k r,hr w,rfl⟩) (o r)
def AD.vw{x y:Operand}{k z n j b:Nat}{xs:List AV}{v:AV}(g:AD P A G K C (.tk::I) s ⟨H.B,T'⟩)(hT:ty? P T=some ti:=by exact rfl)(hx:ev? s x=some (.ao k z n j b):=by exact rfl)(f:ev? s y=some v:=by exact rfl)(hf:fits ti.agg ti.size v=true:=by exact rfl)(d:H.T[k]? =some (.aa xs):=by exact rfl)(hn:xs.length=n:=by exact rfl)
  (he:xs[j]? =some e0:=by exact rfl) (a:Nat.blt 0 ti.size=true:=by exact rfl) (e:kO v (λvs=>kO e0 (λcs=>Ck b vs cs (Ml true)))=some v:=by exact rfl) (c:jX k (.aa (xs.set j v)) H.T some=some T':= by exact rfl):AD P A G K (⟨none, .store T x y,R,D,S,none⟩::C) I s H:=bC (agg:=true) hT hx f hf d hn he rfl a e c g
def AD.ap{x y:Operand}{xs:List AV}{t:Tk}{k z n:Nat}{te:TI}(f:AD P A G K C (.tk::I) ((d, .slice (xs++ys) (.own k z))::s) ⟨H.B,T'⟩)(hT:ty? P T=some ti:=by exact rfl)(hk:ti.kind = .slice:=by exact rfl)(hE:ty? P ti.elem=some te:=by exact rfl)(hx:ev? s x=some (.slice xs (.own k z)):=by exact rfl)(hz:Nat.beq te.size z=true:=by exact rfl)(c:Nat.blt 0 z=true:=by exact rfl)
  (e:ev? s y=some (.slice ys t):=by exact rfl) (b:H.T[k]? =some (.len n):=by exact rfl) (hn:xs.length=n:=by first|exact List.length_map .. |exact rfl|simp) (hf:eK te.agg te.size ys=true:=by first|exact rfl|exact iJ (fun _=>rfl) _)
  (hb:(n+ys.length) * te.bytes<=140737488355328:=by first|(dsimp only[List.length_cons,List.length_nil]at *; omega)|(simp only[List.length_map]at *; omega)) (hb': n+ys.length<=4611686018427387904:=by first|(dsimp only[List.length_cons,List.length_nil]at *; omega)|(simp only[List.length_map]at *; omega)) (a:jX k (.len (n+ys.length)) H.T some=some T':= by exact rfl):
  AD P A G K (⟨some d, .call ⟨.builtin .append, #[x,y], #[T,T]⟩,R,D,S,none⟩::C) I s H:=bW hT hk hE hz c hx e b hn hf hb hb' a f
end
end Go.Av
namespace Go.Proofs.YtimbiifcnhgcoaaGreatDoor
open Go Go.Av Go.Proofs.Tryz
variable [AL]
section
variable {P:Program} {f:FuncId} {x y z:AV} {r:List AV} {α:Type} {E:α->AV} {Q:α->Prop}
instance {v:AH}[h:EC P f (v.C::r) E Q]:EC P f (.agg [.int .i64 v.kind, .int .i64 v.n, .str v.s, .slice v.lv .no, .slice v.mv .no]::r) E Q:=h
instance {v:Ac}[h:EC P f (v.C::r) E Q]:EC P f (.agg [.str v.name, .int .i64 v.an, .int .i64 v.az]::r) E Q:=h
instance (priority:=low){n:AG}{l m:Int}[h:EC P f ((Ac.mk n l m).C::r) E Q]:EC P f (.agg [.str n, .int .i64 l, .int .i64 m]::r) E Q:=h
instance {v:Sl}[h:EC P f (.slice (v.O.map Sl.C) .no::r) E Q]:EC P f (.slice v.sv .no::r) E Q:=Y3
instance {v:AH}[h:EC P f (x::v.C::r) E Q]:EC P f (x ::.agg [.int .i64 v.kind, .int .i64 v.n, .str v.s, .slice v.lv .no, .slice v.mv .no]::r) E Q:=h
instance {v:Ac}[h:EC P f (x::v.C::r) E Q]:EC P f (x ::.agg [.str v.name, .int .i64 v.an, .int .i64 v.az]::r) E Q:=h
instance (priority:=low){n:AG}{l m:Int}[h:EC P f (x::(Ac.mk n l m).C::r) E Q]:EC P f (x ::.agg [.str n, .int .i64 l, .int .i64 m]::r) E Q:=h
instance {v:AH}[h:EC P f (x::y::v.C::r) E Q]:EC P f (x::y ::.agg [.int .i64 v.kind, .int .i64 v.n, .str v.s, .slice v.lv .no, .slice v.mv .no]::r) E Q:=h
instance {v:Ac}[h:EC P f (x::y::v.C::r) E Q]:EC P f (x::y ::.agg [.str v.name, .int .i64 v.an, .int .i64 v.az]::r) E Q:=h
instance (priority:=low){n:AG}{l m:Int}[h:EC P f (x::y::(Ac.mk n l m).C::r) E Q]:EC P f (x::y ::.agg [.str n, .int .i64 l, .int .i64 m]::r) E Q:=h
instance {v:AH}[h:EC P f (x::y ::.slice (v.m.map AF.C) .no::r) E Q]:EC P f (x::y ::.slice v.mv .no::r) E Q:=by rw[v.bh];exact h
instance {v:Sl}[h:EC P f (x::y ::.slice (v.O.map Sl.C) .no::r) E Q]:EC P f (x::y ::.slice v.sv .no::r) E Q:=Y3
instance {v:AH}[h:EC P f (x::y::z::v.C::r) E Q]:EC P f (x::y::z ::.agg [.int .i64 v.kind, .int .i64 v.n, .str v.s, .slice v.lv .no, .slice v.mv .no]::r) E Q:=h
instance (priority:=low){n:AG}{l m:Int}[h:EC P f (x::y::z::(Ac.mk n l m).C::r) E Q]:EC P f (x::y::z ::.agg [.str n, .int .i64 l, .int .i64 m]::r) E Q:=h
end
instance:Bz Ah Ah.size:=⟨λx=>by first|exact x.au|(unfold Ah.size;omega)⟩
instance:Bz Ag Ag.size:=⟨λx=>by first|exact x.au|(unfold Ag.size;omega)⟩
instance:Bz AP AP.size:=⟨λx=>by first|exact x.au|(unfold AP.size;omega)⟩
instance:Bz AO AO.size:=⟨λx=>by first|exact x.au|(unfold AO.size;omega)⟩
instance:Bz Ak Ak.size:=⟨λx=>by first|exact x.au|(unfold Ak.size;omega)⟩
instance:Bz Af Af.size:=⟨λx=>by first|exact x.au|(unfold Af.size;omega)⟩
instance (x:AJ)[Z x.size]:Z (aC Ah.size x.ai) := .of (b:=x.size) Zl
instance (x:AJ)[Z x.size]:Z (x.query.length) := .of (b:=x.size) Zl
instance (x:AJ)[Z x.size]:Z (x.av.length) := .of (b:=x.size) Zl
instance (x:Ah)[Z x.size]:Z (x.name.length) := .of (b:=x.size) WJ
instance (x:Ah)[Z x.size]:Z (aC Ag.size x.fields) := .of (b:=x.size) WJ
instance (x:Ah)[Z x.size]:Z (aC AP.size x.params) := .of (b:=x.size) WJ
instance (x:Ah)[Z x.size]:Z (dB x.faces) := .of (b:=x.size) WJ
instance (x:Ah)[Z x.size]:Z (dB x.ax) := .of (b:=x.size) WJ
instance (x:Ag)[Z x.size]:Z (x.name.length) := .of (b:=x.size) XI
instance (x:Ag)[Z x.size]:Z (aC AP.size x.params) := .of (b:=x.size) XI
instance (x:Ag)[Z x.size]:Z (x.t.size) := .of (b:=x.size) XI
instance (x:Ag)[Z x.size]:Z (aC AO.size x.ar) := .of (b:=x.size) XI
instance (x:Ac)[Z x.size]:Z (x.name.length) := .of (b:=x.size) X7
instance (x:AP)[Z x.size]:Z (x.name.length) := .of (b:=x.size) Yo
instance (x:AP)[Z x.size]:Z (x.t.size) := .of (b:=x.size) Yo
instance (x:AP)[Z x.size]:Z (x.d.size) := .of (b:=x.size) Yo
instance (x:AO)[Z x.size]:Z (x.name.length) := .of (b:=x.size) X4
instance (x:AO)[Z x.size]:Z (aC AF.size x.args) := .of (b:=x.size) X4
instance (x:AF)[Z x.size]:Z (x.name.length) := .of (b:=x.size) X5
instance (x:AF)[Z x.size]:Z (x.v.size) := .of (b:=x.size) X5
instance (x:Ak)[Z x.size]:Z (x.name.length) := .of (b:=x.size) Xj
instance (x:Ak)[Z x.size]:Z (aC AP.size x.vars) := .of (b:=x.size) Xj
instance (x:Ak)[Z x.size]:Z (aC AO.size x.ar) := .of (b:=x.size) Xj
instance (x:Ak)[Z x.size]:Z (aC Sl.size x.O) := .of (b:=x.size) Xj
instance (x:Af)[Z x.size]:Z (x.name.length) := .of (b:=x.size) W5
instance (x:Af)[Z x.size]:Z (x.on.length) := .of (b:=x.size) W5
instance (x:Af)[Z x.size]:Z (aC AO.size x.ar) := .of (b:=x.size) W5
instance (x:Af)[Z x.size]:Z (aC Sl.size x.O) := .of (b:=x.size) W5
instance (x:AR)[Z x.size]:Z (aC Ak.size x.ops) := .of (b:=x.size) XM
instance (x:AR)[Z x.size]:Z (aC Af.size x.aj) := .of (b:=x.size) XM
instance (x:AH)[Z x.size]:Z (x.s.length) := .of (b:=x.size) Xg
instance (x:AH)[Z x.size]:Z (aC AF.size x.m) := .of (b:=x.size) Xg
instance (x:Sl)[Z x.size]:Z (x.bm.length) := .of (b:=x.size) Xg
instance (x:Sl)[Z x.size]:Z (x.name.length) := .of (b:=x.size) Xg
instance (x:Sl)[Z x.size]:Z (x.on.length) := .of (b:=x.size) Xg
instance (x:Sl)[Z x.size]:Z (aC AF.size x.args) := .of (b:=x.size) Xg
instance (x:Sl)[Z x.size]:Z (aC AO.size x.ar) := .of (b:=x.size) Xg
instance {t:Ac}{l m:Int}[h:Z t.size]:Z (Ac.mk t.name l m).size:=h
instance (l:List AG)(k:Nat)(h:k<l.length)[Z (dB l)]:Z (l[k]'h).length := .of (b:=dB l) (by
 have:=aN (size:=λs:AG=>s.length+1) (getElem_mem h)
 unfold dB;omega)
end Go.Proofs.YtimbiifcnhgcoaaGreatDoor
namespace Go.Av
open Go Go.Proofs.YtimbiifcnhgcoaaGreatDoor
variable [AL]
instance {α:Type}{L:List α}{E:α->AV}{x:α}:Az (L.map E++[E x]) (L++[x]) E:=⟨Xp⟩
instance {α:Type}{L M:List α}{E:α->AV}:Az (L.map E++M.map E) (L++M) E:=⟨by rw[List.map_append]⟩
class EG(P:Program)(f:FuncId)(cls:List AV){γ:outParam Type}(F:outParam (γ->AV))(z add lim:outParam Nat):Prop where
 cl:∀y,(F y).K=true
 ex:∀xs:List γ,xs.length+add<=lim->∃(ys:List γ) (cls': List AV),ys.length<=xs.length+add/\aA cls'= true/\(∀y,AA (cls++[y]) (cls'++ [y]))/\AI P f (cls'++ [.slice (xs.map F) (.own 0 z)]) ⟨[],[.len xs.length]⟩ (λe σ1=>e = .ret (.slice (ys.map F) (.own 0 z))/\σ1=⟨[],[.len ys.length]⟩)
 nil:add<=lim->∃(ys:List γ) (cls': List AV),ys.length<=add/\aA cls'= true/\AA cls cls'/\ AI P f (cls'++ [.slice [] .nil]) ⟨[],[]⟩ (λe σ1=>e = .ret (.slice (ys.map F) (.own 0 z))/\σ1=⟨[],[.len ys.length]⟩)
theorem aAc(cls:List AV)(a b:AV):Sub (cD 0 (cls++[b])) ((cls.length,b)::cD 0 (cls++[a])):=by
 refine Sub.of λt v g=> ?_
 have f:∀(l:List AV) (k t:Nat) (v:AV),(t,v)∈cD k l->k<=t/\l[t-k]? =some v:=by
  intro l;induction l with
  |nil=>intro k t v h;simp[cD]at h
  |cons x l E=>
   intro k t v h;simp only[cD,List.mem_cons,Prod.mk.injEq]at h;rcases h with⟨rfl,rfl⟩|h
   ·simp
   ·obtain⟨j,c⟩:=E _ _ _ h;refine⟨om, ?_⟩;rw[show t-k=(t-(k+1))+1 by omega];simpa using c
 obtain⟨_,c⟩:=f _ _ _ _ g;rw[Nat.sub_zero]at c;unfold lk;cases e:Nat.beq cls.length t with
 |true=>have:=Nat.eq_of_beq_eq_true e;subst this;simpa using c
 |false=>
  have i:cls.length≠t:=λh=>by rw[h,Nat.beq_refl]at e;cases e
  rw[cond_false,kL,if_neg om,Nat.sub_zero];by_cases d:t<cls.length
  ·rw[List.getElem?_append_left d]at c ⊢; rw[c];rfl
  ·rw[List.getElem?_append_right om]at c;have:t-cls.length≠0:=om
   rw[List.getElem?_eq_none Wl]at c;cases c
section
variable {P:Program} [Lay P] {N:Nat} {K:AX->AE->St->Prop} {s:AE} {H:St} {A:Array Oper} {G:Bool} {C:List Oper} {I:List Aj} {d:Option Tmp} {R:TypeId} {D:String} {S:Array Edge}
def Sv{f:FuncId}{a:List AV}{γ:Type}{F:γ->AV}{xs:List γ}{z j n add lim:Nat}(k:∀ys:List γ,ys.length<=n+add->AD P A G K C (.all::I) (iG d (.slice (ys.map F) (.own j z)) s) ⟨H.B,H.T.set j (.len ys.length)⟩)(ha:jZ s args.toList some=some (cls++[.slice a (.own j z)]))(g:Az a xs F)(h:EG P f cls F z add lim)(hj:H.T[j]? =some (.len n))(hn:xs.length=n)(hb:n+add<=lim):
  AD P A G K (⟨d, .call ⟨.value (.func f),args,p⟩,R,D,S,none⟩::C) I s H:=by obtain⟨ys,cls', b,c,h3,h4⟩:=h.ex xs om;rw[g.eq]at ha;subst hn;have e:j<H.T.length:=(List.getElem?_eq_some_iff.1 hj).1;exact aCj j ha h4 hj (bH h.cl xs) (bH h.cl ys) c (h3 _) (Ss e) (k ys b)
def aAd{f:FuncId}{γ:Type}{F:γ->AV}{z add lim:Nat}{B:List Ob}(k:∀ys:List γ,ys.length<=add->AD P A G K C (.all::I) (iG d (.slice (ys.map F) (.own 0 z)) s) ⟨B,[.len ys.length]⟩)(ha:jZ s args.toList some=some (cls++[.slice [] .nil]))(h:EG P f cls F z add lim)(hσ:H=⟨B,[]⟩)(hb:add<=lim):
  AD P A G K (⟨d, .call ⟨.value (.func f),args,p⟩,R,D,S,none⟩::C) I s H:=by
 obtain⟨ys,cls', b,c,h3,h4⟩:=h.nil hb;have i:∀xs:List AV,aA (xs++[.slice [] .nil])=aA xs:=λxs=>by
  induction xs with
  |nil=>rfl
  |cons x xs E=>rw[cons_append,aA,aA,E]
 have j:AA (cls++[.slice [] .nil]) (cls'++ [.slice [] .nil]):=λg w vs n=>by
  have e:∀(cs:List AV) (vs:List Value) (y:AV),AM g w (cs++[y]) vs->∃us u,vs=us++[u]/\AM g w cs us/\Aa g w y u:=by
   intro cs;induction cs with
   |nil=>intro vs y h;obtain⟨v,C,rfl,b,c⟩:=h;exact⟨[],v,by rw[show C=[] from c];rfl,rfl,b⟩
   |cons a cs E=>intro vs y h;obtain⟨v,C,rfl,b,c⟩:=h;obtain⟨us,u,rfl,h3,h4⟩:=E _ _ c;exact⟨v::us,u,rfl,⟨v,us,rfl,b,h3⟩,h4⟩
  obtain⟨us,u,rfl,l,m⟩:=e _ _ _ n;exact(h3 g w us l).append ⟨u,[],rfl,m,rfl⟩
 exact jR hσ ha h4 (by rw[i,c]) j (by rw[AV.ab,aD _ _ _ (bH h.cl ys)];rfl) rfl (k ys b)
def AD.c8{f:FuncId}{x:AV}{γ:Type}{F:γ->AV}{z add lim:Nat}{B:List Ob}(k:∀ys:List γ,ys.length<=add->AD P A G K C (.all::I) (iG d (.slice (ys.map F) (.own 0 z)) s) ⟨B,[.len ys.length]⟩)(ha:jZ s args.toList some=some [x, .slice [] .nil]:=by exact rfl)(h:EG P f [x] F z add lim:=by infer_instance)(hσ:H=⟨B,[]⟩:=by exact rfl)(hb:add<=lim:=by omega):
  AD P A G K (⟨d, .call ⟨.value (.func f),args,p⟩,R,D,S,none⟩::C) I s H:=aAd (cls:=[x]) k ha h hσ hb
theorem AD.c4{f:FuncId}{x:AV}{a:List AV}{γ:Type}{F:γ->AV}{xs:List γ}{z j n add lim:Nat}(k:∀ys:List γ,ys.length<=n+add->AD P A G K C (.all::I) (iG d (.slice (ys.map F) (.own j z)) s) ⟨H.B,H.T.set j (.len ys.length)⟩)(ha:jZ s args.toList some=some [x, .slice a (.own j z)]:=by exact rfl)(b:Az a xs F:=by infer_instance)(h:EG P f [x] F z add lim:=by infer_instance)(hj:H.T[j]? =some (.len n):=by exact rfl)(hn:xs.length=n:=by first|exact rfl|simp)(hb:n+add<=lim:=by first|((try dsimp only at *);omega)|((try simp only[List.length_append,List.length_cons,List.length_nil]at *);omega)):
  AD P A G K (⟨d, .call ⟨.value (.func f),args,p⟩,R,D,S,none⟩::C) I s H:=Sv (cls:=[x]) k ha b h hj hn hb
def AD.cx{f:FuncId}{x y w:AV}{a:List AV}{γ:Type}{F:γ->AV}{xs:List γ}{z j n add lim:Nat}(k:∀ys:List γ,ys.length<=n+add->AD P A G K C (.all::I) (iG d (.slice (ys.map F) (.own j z)) s) ⟨H.B,H.T.set j (.len ys.length)⟩)(ha:jZ s args.toList some=some [x,y,w, .slice a (.own j z)]:=by exact rfl)(b:Az a xs F:=by infer_instance)(h:EG P f [x,y,w] F z add lim:=by infer_instance)(hj:H.T[j]? =some (.len n):=by exact rfl)(hn:xs.length=n:=by first|exact rfl|simp)(hb:n+add<=lim:=by first|((try dsimp only at *);omega)|((try simp only[List.length_append,List.length_cons,List.length_nil]at *);omega)):
  AD P A G K (⟨d, .call ⟨.value (.func f),args,p⟩,R,D,S,none⟩::C) I s H:=Sv (cls:=[x,y,w]) k ha b h hj hn hb
theorem eg{f:FuncId}{c:Code}{γ:Type}{F:γ->AV}{z add lim:Nat}(t:Nat)(hf:P.funcs[f]? =some fn)(h:∀xs:List γ,xs.length+add<=lim->EX P N [] c (fin [t] (λe Y=>∃ys:List γ,ys.length<=xs.length+add/\e = .ret (.slice (ys.map F) (.own 0 z))/\(⟨Y.B.take 0,Y.T.take 1⟩:St)=⟨[],[.len ys.length]⟩)) (cD 0 (cls++[.slice (xs.map F) (.own 0 z)])) ⟨[],[.len xs.length]⟩)
  (hb:fn.body=some c:=by exact rfl) (hN:fn.ntmps=N:=by exact rfl) (m:(fn.name == "runtime.NumGoroutine")=false:=by exact rfl) (j:∀x,Nat.ble (cls++[x]).length N=true:=by intro x;exact rfl) (r:fn.results=([t].map ResultVar.tmp).toArray:=by exact rfl)
  (hF:∀y,(F y).K=true:=by intro y;first|exact rfl|simp[AV.K,aA,Au.K]) (ha:aA cls=true:=by first|exact rfl|simp[-List.map_map,AV.K,aA,aT,bZ,aR,b9,jS,iS,aZ,eU,AH.K,Ag.K,Ah.K,Af.K,AJ.K,AR.K,Ac.K,Au.K,Sl.K,AP.K,AO.K,Ak.K]):EG P f cls F z add lim:=by
 have a1:∀ys:List γ,(AV.slice (ys.map F) (.own 0 z)).ab 0 1=true:=λys=>by rw[AV.ab,aD _ _ _ (bH hF ys)];rfl
 have u:∀xs:List γ,xs.length+add<=lim->∃ys:List γ,ys.length<=xs.length+add/\AB P N [] c (fin [t] λe d=>∃v nB mT,e = .ret v/\nB=0/\mT=1/\v.ab nB mT=true/\aQ nB mT (d.B.take nB)=true/\aL nB mT (d.T.take mT)=true/\(Av.ret v = .ret (.slice (ys.map F) (.own 0 z))/\(⟨d.B.take nB,d.T.take mT⟩:St)=⟨[],[.len ys.length]⟩)) (cD 0 (cls++[.slice (xs.map F) (.own 0 z)])) ⟨[],[.len xs.length]⟩:=λxs hx=>by
  by_cases hr:BA N [] (cD 0 (cls++[.slice (xs.map F) (.own 0 z)])) ⟨[],[.len xs.length]⟩
  ·obtain⟨e,s', Y,hk,O⟩:=h xs hx hr;have q:∀ys:List γ,(⟨Y.B.take 0,Y.T.take 1⟩:St)=⟨[],[.len ys.length]⟩->∀v,Av.ret v = .ret (.slice (ys.map F) (.own 0 z))->∃v1 nB mT,Av.ret v = .ret v1/\nB=0/\mT=1/\v1.ab nB mT=true/\aQ nB mT (Y.B.take nB)=true/\aL nB mT (Y.T.take mT)=true/\(Av.ret v1 = .ret (.slice (ys.map F) (.own 0 z))/\(⟨Y.B.take nB,Y.T.take mT⟩:St)=⟨[],[.len ys.length]⟩):=λys hs v hv=>by cases hv;simp only[St.mk.injEq]at hs;exact⟨_,0,1,rfl,rfl,rfl,a1 ys,by rw[hs.1];rfl,by rw[hs.2];rfl,rfl,by rw[hs.1,hs.2]⟩
   have go:∀ {o},fin [t] o e s' Y->AB P N [] c (fin [t] o) (cD 0 (cls++[.slice (xs.map F) (.own 0 z)])) ⟨[],[.len xs.length]⟩:=λhp=>O.mono λe1 s1 d ⟨a,b,c⟩=>by subst a b c;exact hp
   cases e with
   |normal=>obtain⟨ys,p,i,h3⟩:=hk;exact⟨ys,p,go (q ys h3 _ i)⟩
   |ret=>obtain⟨ys,p,i,h3⟩:=hk;exact⟨ys,p,go (q ys h3 _ i)⟩
   |pan x=>obtain⟨ys,p,i,h3⟩:=hk;cases i
   |exit id=>exact hk.elim
   |goto l=>exact hk.elim
  ·exact⟨xs,om,λg w ac X hs p i=>absurd ⟨g,w,ac,X,hs,p,i⟩ hr⟩
 refine⟨hF,λxs hx=> ?_,λhx=> ?_⟩
 ·obtain⟨ys,p,i⟩:=u xs hx;refine⟨ys,cls,p,ha,λy=>aB _,kQ (AI.enter [t] hf hb hN m (j _) r Wb (i.mono λe1 s1 d h=> ?_))⟩;cases e1<;>first|exact h|(obtain⟨v,nB,mT,e,rfl,rfl,h⟩:=h;exact⟨v,0,1,e,Nat.le_refl _,Nat.le_refl _,h⟩)
 ·obtain⟨ys,p,i⟩:=u [] WP;refine⟨ys,cls,by simpa using p,ha,aB _,kQ (AI.enter [t] hf hb hN m (j _) r Wb (eX cls.length false z (t := .nil) (xs:=[]) (k:=0) (n:=0) ?_ rfl rfl rfl rfl rfl ((i.mono λe1 s1 d h=> ?_).weaken (aAc cls _ _))))⟩
  ·have:=kL (cls++[.slice [] .nil]) 0 cls.length;have e:∀(l:List AV) (k:Nat),lk? (cD k (l++[.slice [] .nil])) (k+l.length)=some (.slice [] .nil):=by
    intro l;induction l with
    |nil=>intro k;simp[cD,lk?]
    |cons x l E=>
     intro k;have h:=E (k+1);simp only[cons_append,cD,lk?, List.length_cons];have a0:Nat.beq k (k+(l.length+1))=false:=by
      cases hh:Nat.beq k (k+(l.length+1)) with
      |false=>rfl
      |true=>have:=Nat.eq_of_beq_eq_true hh;omega
     rw[a0];rw[show k+(l.length+1)=k+1+l.length by omega];exact h
   simpa using e cls 0
  ·cases e1<;>first|exact h|(obtain⟨v,nB,mT,e,rfl,rfl,h⟩:=h;exact⟨v,0,1,e,Nat.le_refl _,zero_le _,h⟩)
theorem ge{γ:Type}{F:γ->AV}{z B t:Nat}{s:AE}{H:St}{a:List AV}{ys:List γ}(h0:lk s t = .slice a (.own 0 z):=by exact rfl)(c:Az a ys F:=by infer_instance)(hσ:(⟨H.B.take 0,H.T.take 1⟩:St)=⟨[],[.len ys.length]⟩:=by first|exact rfl|(simp only[List.length_append,List.length_map];exact rfl))(b:ys.length<=B:=by first|((try dsimp only at *);omega)|((try simp only[List.length_append,List.length_cons,List.length_nil]at *);omega)|simp_all|fail):
  ∃ys:List γ,ys.length<=B/\Av.ret (gG s [t]) = .ret (.slice (ys.map F) (.own 0 z))/\(⟨H.B.take 0,H.T.take 1⟩:St)=⟨[],[.len ys.length]⟩:=⟨ys,b,by rw[show gG s [t]=lk s t from rfl,h0,c.eq],hσ⟩
def AD.mx{d:Tmp}{x y:Operand}{m:Int}(k:∀r:Int,AD P A G K C (.pure::I) ((d, .int .i64 r)::s) H)(hx:ev? s x=some (.int .i64 m):=by exact rfl)(f:ev? s y=some (.int .i64 n):=by exact rfl):AD P A G K (⟨some d, .call ⟨.builtin .max, #[x,y],p⟩,R,D,S,none⟩::C) I s H:=
 bU rfl (eY λg w a b=>by
  have c:a.eval x = .int .i64 m:=op1 hx Wm b
  have e:a.eval y = .int .i64 n:=op1 f Wm b
  exact⟨.int .i64 (if n>m then n else m),by simp[execOp,resolve,invoke,builtin,Builtin.max_,Builtin.max2,c,e,Result.andThen],rfl⟩) (k _)
end
section
variable {P:Program} {f:FuncId} {x y w:AV} {r:List AV} {γ:Type} {F:γ->AV} {z add lim:Nat}
instance {v:AH}[h:EG P f (v.C::r) F z add lim]:EG P f (.agg [.int .i64 v.kind, .int .i64 v.n, .str v.s, .slice v.lv .no, .slice v.mv .no]::r) F z add lim:=h
instance {v:Sl}[h:EG P f (.slice (v.O.map Sl.C) .no::r) F z add lim]:EG P f (.slice v.sv .no::r) F z add lim:=Y3
instance {v:Sl}[h:EG P f (x::y ::.slice (v.O.map Sl.C) .no::r) F z add lim]:EG P f (x::y ::.slice v.sv .no::r) F z add lim:=Y3
end
theorem cl{p:Prop}(h:p:=by first|exact nr|exact mb|exact mg|exact gr|exact ge|exact fe|exact fr|exact fe (a:=(_,_))|exact fr (a:=(_,_))|exact fe (a:=(default,_))|exact fr (a:=(default,_))|exact fe (a:=default)|exact fr (a:=default)|(exfalso;first|omega|grind)|fail):p:=h
section
variable {P:Program} [Lay P] {N:Nat} {D:List Deferred} {c:Code} {K:AX->AE->St->Prop} {s:AE} {H:St} {A:Array Oper} {G:Bool} {l:List Oper} {I:List Aj} {Q Q1 Q2:Prop}
theorem EX.v(q:Q)(h:BY Q->EX P N D c K s H:=by intro q;refine .s1 ?_;exact q.val):EX P N D c K s H:=h ⟨q⟩
theorem AD.v(q:Q)(h:BY Q->AD P A G K l I s H:=by intro q;(first|refine .br ?_|refine .s1 ?_|refine .ce ?_|refine .iy ?_|refine .iz ?_|refine .iY ?_|refine .iZ ?_|refine .sz ?_|refine .ap ?_|refine .io ?_|refine .cv ?_|refine .ng ?_|refine .vw ?_|refine .vs ?_|refine .mx ?_|refine .c4 ?_|refine .cg2 ?_|refine .cx ?_|refine .c8 ?_|refine .cn2 ?_|refine .cn3 ?_|fail);exact q.val):AD P A G K l I s H:=h ⟨q⟩
theorem EX.z(a:Q1)(b:Q2)(h:BY Q1->BY Q2->EX P N D c K s H:=by intro a b;first|exact .q a.val b.val|exact .F a.val b.val|exact .G a.val b.val|exact .U a.val b.val|exact .S a.val b.val|fail):EX P N D c K s H:=h ⟨a⟩ ⟨b⟩
theorem AD.z(a:Q1)(b:Q2)(h:BY Q1->BY Q2->AD P A G K l I s H:=by intro a b;exact .q a.val b.val):AD P A G K l I s H:=h ⟨a⟩ ⟨b⟩
theorem EX.j(h:EX P N D c K s H:=by (repeat' first|intro _|refine .mA ?_ ?_|refine .v ?_|refine .z ?_ ?_|exact cl|fail)):EX P N D c K s H:=h
theorem EX.w(h:EX P N D c K s H:=by (repeat' first|intro _|refine .v ?_|refine .z ?_ ?_|exact cl|fail)):EX P N D c K s H:=h
end
end Go.Av
namespace Go.Proofs.YtimbiifcnhgcoaaGreatDoor
open Go Go.Av Go.Proofs.Tryz
attribute [local irreducible] AB AD AN AI Av.AU AZ EX Int.le Int.lt Int.decLe Int.decLt Int.decEq
instance (a:AG)[h:Z a.length]:EC prog 134 [.str a] (λ_:Unit => .bool (lO a)) λ_=>True:=⟨(),_,trivial,aB _,Cu a Z3⟩
instance (a:AG)[h:Z a.length]:EC prog 234 [.str a] (λ_:Unit => .bool (fO a)) λ_=>True:=⟨(),_,trivial,aB _,Im a Z3⟩
instance (a:Ac)[h:Z a.size]:EC prog 137 [a.C] (λ_:Unit => .bool (cG a)) λ_=>True:=⟨(),_,trivial,aB _,kT a W2⟩
instance (a:Ac)[h:Z a.size]:EC prog 89 [a.C] (λ_:Unit => .bool (isT a)) λ_=>True:=⟨(),_,trivial,aB _,rIs a W2⟩
instance (a:Ac)[h:Z a.size]:EC prog 168 [a.C] (λ_:Unit => .tup [(fU a).1.C, .bool (fU a).2]) λ_=>True:=⟨(),_,trivial,aB _,KX a W2⟩
instance (a:AG)[h:Z a.length]:EC prog 232 [.str a] (λ_:Unit => .int .i64 (m5 a)) λ_=>True:=⟨(),_,trivial,aB _,Cy a Z3⟩
instance (a:AG)[h:Z a.length]:EC prog 233 [.str a] (λ_:Unit => .tup [.undef, .bool (C0 a)]) λ_=>True:=⟨(),_,trivial,aB _,Gz a h.le⟩
instance (a:List AG)(b:AG):EB 169 [.slice (a.map AV.str) .no, .str b]:=by
 refine en [4] func169 ?_
 exact .w
instance (a:AG)(b:List AF):EC prog 39 [.str a, .slice (b.map AF.C) .no] (λx:AH×Bool => .tup [x.1.C, .bool x.2]) λ_=>True:=by
 refine enR [.cell 4 43, .tmp 5] func39 ?_
 exact .w
theorem M9:∀(n:Nat) (v:AH),v.size<=n->n<=1048576->EB 155 [v.C]:=λn=>by
 induction n using strongRecOn with
 |ind n E=>
  intro v a hn
  have hz:Z v.size:=⟨om⟩
  have b:∀k (h:k<v.l.length),EB 155 [(v.l[k]'h).C]:=λk h=>E _ W8 _ (Nat.le_refl _) W8
  have c:∀k (h:k<v.m.length),EB 155 [(v.m[k]'h).v.C]:=λk h=>E _ W7 _ (Nat.le_refl _) W7
  refine en [2] func155 ?_
  exact .j
instance (v:AH)[h:Z v.size]:EB 155 [v.C]:=M9 _ v (Nat.le_refl _) h.le
theorem aAe:∀(n:Nat) (v:AH),v.size<=n->n<=1048576->EC prog 269 [v.C] (λx:Int => .int .i64 x) λ_=>True:=λn=>by
 induction n using strongRecOn with
 |ind n E=>
  intro v a hn
  have hz:Z v.size:=⟨om⟩
  have b:∀k (h:k<v.l.length),EC prog 269 [(v.l[k]'h).C] (λx:Int => .int .i64 x) λ_=>True:=λk h=>E _ W8 _ (Nat.le_refl _) W8
  have c:∀k (h:k<v.m.length),EC prog 269 [(v.m[k]'h).v.C] (λx:Int => .int .i64 x) λ_=>True:=λk h=>E _ W7 _ (Nat.le_refl _) W7
  refine en [2] func269 ?_
  repeat' first|intro _|refine .MF 3 (AV.int .i64) (λ_ _=>True) ?_ ?_|refine .v ?_|refine .z ?_ ?_|exact cl|fail
instance (v:AH)[h:Z v.size]:EC prog 269 [v.C] (λx:Int => .int .i64 x) λ_=>True:=aAe _ v (Nat.le_refl _) h.le
theorem aAf:∀(n:Nat) (v:AH),v.size<=n->n<=1048576->EB 308 [v.C]:=λn=>by
 induction n using strongRecOn with
 |ind n E=>
  intro v a hn
  have hz:Z v.size:=⟨om⟩
  have b:∀k (h:k<v.l.length),EB 308 [(v.l[k]'h).C]:=λk h=>E _ W8 _ (Nat.le_refl _) W8
  have c:∀k (h:k<v.m.length),EB 308 [(v.m[k]'h).v.C]:=λk h=>E _ W7 _ (Nat.le_refl _) W7
  refine en [2] func308 ?_
  exact .j
instance (v:AH)[h:Z v.size]:EB 308 [v.C]:=aAf _ v (Nat.le_refl _) h.le
instance (a:AH)[Z a.size]:EB 268 [a.C]:=by
 refine en [2] func268 ?_
 exact .w
theorem aCn:∀(n:Nat) (v:AH),v.size<=n->n<=1048576->EG prog 309 [v.C] AV.str 1 v.size 4398046511104:=λn=>by
 induction n using strongRecOn with
 |ind n E=>
  intro v b hn
  have c:∀k (h:k<v.l.length),EG prog 309 [(v.l[k]'h).C] AV.str 1 (v.l[k]'h).size 4398046511104:=λk h=>E _ W8 _ (Nat.le_refl _) W8
  have d:∀k (h:k<v.m.length),EG prog 309 [(v.m[k]'h).v.C] AV.str 1 (v.m[k]'h).v.size 4398046511104:=λk h=>E _ W7 _ (Nat.le_refl _) W7
  have e1:=v.ay
  have a:=E6 (f:=λx:AF=>x.v.size) (g:=AF.size) (λx=>X5) v.m
  refine eg 4 func309 λxs hx=> ?_
  repeat' first|intro _|refine .Rw (L:=v.l) 1 AV.str (xs.length+1) AH.size ?_ ?_|refine .Rw (L:=v.m) 1 AV.str (xs.length+1+aC AH.size v.l) (λx=>x.v.size) ?_ ?_|refine .v ?_|refine .z ?_ ?_|exact cl|fail
instance (v:AH)[h:Z v.size]:EG prog 309 [v.C] AV.str 1 v.size 4398046511104:=aCn _ v (Nat.le_refl _) h.le
instance (v:AH)[h:Z v.size]:EC prog 270 [v.C] (λx:List AG => .slice (x.map AV.str) .no) (λx=>x.length<=v.size):=by
 have:=h.le
 refine en [2] func270 ?_
 exact .w
instance (a b:AH):EC prog 124 [a.C,b.C] (λ_:Unit => .bool (o6 a b)) λ_=>True:=⟨(),_,trivial,aB _,OT a b⟩
instance (a:AH):EC prog 124 [a.C, .agg [.int .i64 0, .int .i64 0, .str [], .slice [] .nil, .slice [] .nil]] (λ_:Unit => .bool (o6 a bP)) λ_=>True:=
 EC.a7 (ws:=[a.C,bP.C]) inferInstance (AA.cons (aG _) (AA.cons (AC.agg (AA.cons (aG _) (AA.cons (aG _) (AA.cons (aG _) (AA.cons (AC.no (aB _)) (AA.cons (AC.no (aB _)) (aB _))))))) (aB _)))
instance (a:List AG)[Z (dB a)]:EB 325 [.slice (a.map AV.str) .no]:=by
 refine en [2] func325 ?_
 exact .j
instance (a:AH)[Z a.size](b:Int)(c:Bool):EB 212 [a.C, .int .i64 b, .bool c]:=by
 refine en [6] func212 ?_
 exact .j
instance (a:Bool)(b:AH)[Z b.size]:EB 138 [.bool a,b.C]:=by
 refine en [4] func138 ?_
 exact .j
instance (a:List AP)[Z (aC AP.size a)]:EB 327 [.slice (a.map AP.C) .no]:=by
 refine en [2] func327 ?_
 exact .j
instance (a:List AF)[Z (aC AF.size a)](b:Int)(c:Bool):EB 210 [.slice (a.map AF.C) .no, .int .i64 b, .bool c]:=by
 refine en [6] func210 ?_
 exact .j
instance (a:List AO)[Z (aC AO.size a)](b:Int)(c:Bool):EB 135 [.slice (a.map AO.C) .no, .int .i64 b, .bool c]:=by
 refine en [6] func135 ?_
 exact .j
instance (a:List Ag)[Z (aC Ag.size a)]:EB 326 [.slice (a.map Ag.C) .no]:=by
 refine en [2] func326 ?_
 exact .j
instance (a:Ah)[Z a.size]:EB 305 [a.C]:=by
 refine en [2] func305 ?_
 exact .j
instance (a:AJ)[Z a.size]:EB 258 [a.C]:=by
 refine en [2] func258 ?_
 exact .j
end Go.Proofs.YtimbiifcnhgcoaaGreatDoor
